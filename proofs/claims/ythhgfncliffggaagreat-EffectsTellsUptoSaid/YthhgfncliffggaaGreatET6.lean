/- A part of the proof that EffectsTells returns true for every argument. No conditions beyond the given statement's own. -/
import Derived.Test.YthhgfncliffggaaGreatET2
import Derived.Test.YthhgfncliffggaaGreatET3
import Derived.Test.YthhgfncliffggaaGreatET5
import Derived.Lib.Hide
import Derived.StillTailTactics
set_option maxHeartbeats 16000000
set_option maxRecDepth 100000
set_option linter.unusedVariables false
set_option linter.unusedSimpArgs false
namespace Go.Proofs.YthhgfncliffggaaGreat.Pr
open Go.RowKit Go.Proofs.YthhgfncliffggaaGreatW.PrintWords Go.Proofs.YthhgfncliffggaaGreatW.PrintLast Go.Proofs.YthhgfncliffggaaGreatW.PrintMore
attribute [local go_sem] a3J a3I a4D a4C a3F a3E a3T a3S   -- for this text's walks alone
noncomputable def r14_All.l0:Nat→List (S42)→List ByteArray→Int→Option (List ByteArray)
 | 0,_,_,_ =>none
 | k + 1,x0,x3,x4 =>if x4 < (x0.length:Int) then (if 0≤x4 then ((r14_Union.f x3 ((a3M x0 x4).f2)).bind fun t298 =>(r14_All.l0 k x0 t298 (wrap64 (x4 + 1)))) else (none)) else (some x3)
noncomputable def r14_All.f (k:Nat) (l0:List (S42)):Option (List ByteArray):=r14_All.l0 k l0 (([]:List ByteArray)) 0
theorem r14_All.calls (k:Nat) (A0:Option Addr) (c0:Nat) (l0:List (S42)) (r:List ByteArray) (w:World) (hr0:Kd.C k42 w A0 l0.length l0) (hc0:l0.length≤c0) (h:r14_All.f k l0 = some r) :
    Calls Tryz.prog 18 #[.slice A0 l0.length c0] w fun e w' =>∃ v0_:Value,e = .returned (v0_)∧Kd.R Kd.string 9 w' w.heap.size (fun _ =>True) v0_ r∧Below w.heap.size w w':=by
 have HR0:=a0D.mk hr0;have HC0:=a0D.mk hc0;clear hr0 hc0;have HB:=a0D.mk (zL0 w.heap.size w);have H:(r14_All.l0 k l0 (([]:List ByteArray)) 0) = some r:=h;clear h;obtain ⟨y294,hy294⟩:∃ y_:List ByteArray,y_ = (([]:List ByteArray)):=⟨_,rfl⟩;replace H:(r14_All.l0 k l0 y294 0) = some r:=by first | (rw [hy294];with_reducible exact H) | (have H2_:=(zN0 _ _).symm.trans H;rw [hy294];with_reducible exact H2_) | (have H2_:=(zN0 _ _).symm.trans H;with_reducible exact H2_) | with_reducible exact H | (rw [hy294];exact H) | exact H
 have Ny294:=a0D.mk hy294;clear hy294;have H':=a0D.mk H;clear H;go_enter Tryz.func18,Tryz.ntmps18
 go_wp2_with (first | ((with_reducible refine a0T (N:=5) rfl ?_);refine Kd.b1W Kd.string _ 9 ?hg (N:=5) ?hd (xs:=([]:List ByteArray)) (inner:=[]) (ok:=fun _ =>True) (okp:=fun _ =>True) ?hr ?hp (fun _ hk =>hk) trivial (zL0 _ _) (zM0 _) qI0 ?_;(case hd =>rfl);(case hg =>rfl);(case hr =>first | (go_simp;done) | (go_simp;rfl));(case hp =>exact (Reps.none _ _));intro v295 w2 ho3 hb hg_ hnew_;clear hg_ hnew_;(first | rw [← Ny294.out] at ho3 | (simp only [Int.reduceToNat] at ho3;rw [← Ny294.out] at ho3));have HO296:=a0D.mk (Kd.a2H ho3 (a0R qC0));replace HB:=a0D.mk (a0K qC0 hb);clear hb ho3));go_loopg [3,4] k (fun kq v3 v4 w' =>∃ (cV:List ByteArray) (aJ:Int),v4 = .int .i64 aJ∧a0D (r14_All.l0 kq l0 cV aJ = some r)∧a0D (kq≤k)∧a0D (Kd.R Kd.string 9 w' w.heap.size (fun _ =>True) v3 cV)∧a0D (Below w.heap.size w w'))
 case atStart =>exact ⟨(y294),(0),qH0,H',⟨zM0 _⟩,⟨by (with_reducible repeat (first | apply Kd.a0V | apply Kd.a0Z | apply Kd.a1F));exact HO296.out⟩,⟨by repeat (first | (with_reducible first | exact HB.out | apply a0C | apply a0A | apply a0E) | exact HB.out)⟩⟩
 case round =>
  clear H';obtain ⟨cV,aJ,rfl,HA,HK1,aE,HB⟩:=hrel;cases gk with
  | zero =>exact absurd HA.out (by simp [r14_All.l0])
  | succ k1 =>
   have H:=HA.out;clear HA;simp only [r14_All.l0] at H;by_cases c4:aJ < (l0.length:Int)
   ·rw [if_pos c4] at H;have c4b0:decide (aJ < (l0.length:Int)) = true:=zD0 c4;clear c4;by_cases c5:0≤aJ
    ·rw [if_pos c5] at H;have c5b0:decide (0≤aJ) = true:=zD0 c5;clear c5;obtain ⟨t298,A6,H⟩:=ob_ H;have H':=a0D.mk H;clear H;have p297:0≤(aJ:Int):=zB0 qA0;have q297:aJ < (l0.length:Int):=zB0 qA0;obtain ⟨ad297,dQ,dR,e297,bT,bU,bV,bW,bX⟩:=b1U HR0.out aJ p297 q297;cases e297;replace bT:=a0B HB.out bT;replace bU:=a0B HB.out bU;replace bV:=a0B HB.out bV;have dF:=a0D.mk bX;have dG:=a0D.mk bW;clear bX bW;replace p297:=eq_true p297;replace q297:=eq_true q297;obtain ⟨Ao7,co7,eo7⟩:=Kd.a1Y aE.out;subst eo7;go_wp2_with (first | ((with_reducible refine a0Y (f:=16) rfl ?_);refine a2F (some 18) rfl rfl Tryz.func16 qE0 rfl #[.slice Ao7 cV.length co7,.slice dQ ((a3M l0 aJ).f2).length dR] rfl qB0 ?_;(with_reducible refine (r14_Union.calls _ _ cV _ _ ((a3M l0 aJ).f2) t298 _ ?side1 ?side2 ?side3 ?side4 A6.out).mono ?_);(case side1 =>repeat (first | exact (Kd.a1H aE.out).2.2 | (with_reducible refine Kd.a1D ?_ _) | (with_reducible refine Kd.a1C ?_ _) | (with_reducible refine Kd.a1K ?_)));(case side2 =>exact (Kd.a1H aE.out).2.1);(case side3 =>repeat (first | exact (Kd.a0H dF.out HB.out) | (with_reducible refine Kd.a1D ?_ _) | (with_reducible refine Kd.a1C ?_ _) | (with_reducible refine Kd.a1K ?_)));(case side4 =>exact dG.out);rintro e w8 ⟨v299,rfl,ho0,hb⟩;refine ⟨_,rfl,?_⟩;have bM:=a0D.mk (Kd.a4K qR2 (Kd.a2X ho0) hb);have bN:=a0D.mk (Kd.a2H (Kd.a7F ho0 (Kd.R_lt qR2)) (a0R qC0));have bO:=a0D.mk (a0K qC0 hb);clear aE;clear HB;have aE:=bM;have HO300:=bN;have HB:=bO;clear bM bN bO;(try clear hb);(try clear ho0)));go_roundg k1
     case measure =>have:=HK1.out;omega
     case rel =>exact ⟨(t298),(wrap64 (aJ + 1)),qH0,H',⟨by have:=HK1.out;omega⟩,⟨by (with_reducible repeat (first | apply Kd.a0V | apply Kd.a0Z | apply Kd.a1F));exact Kd.a2W HO300.out (fun _ hk =>trivial)⟩,⟨by repeat (first | (with_reducible first | exact HB.out | apply a0C | apply a0A | apply a0E) | exact HB.out)⟩⟩
    ·rw [if_neg c5] at H;exact absurd H qI0
   ·rw [if_neg c4] at H;have c4b0:decide (aJ < (l0.length:Int)) = false:=zO0 c4;clear c4;obtain rfl:=zI0 H;go_wp2;go_ret;exact ⟨_,by first | rfl | (simp [a0X,a0W] <;> rfl) | (simp [*,a0X,a0W] <;> rfl),by (with_reducible repeat (first | apply Kd.a0V | apply Kd.a0Z | apply Kd.a1F));exact aE.out,by repeat (first | (with_reducible first | exact HB.out | apply a0C | apply a0A | apply a0E) | exact HB.out)⟩
mutual
noncomputable def r14_Sigs.l0:Nat→List (List Int)→List (S42)→Int→List (S34)→Option ((List (S42)))
 | 0,_,_,_,_ =>none
 | k + 1,x3,x4,x5,x302000 =>if x5 < (x302000.length:Int) then ((r12_Reach.f k x3 x5).bind fun t312 =>(r14_Sigs.l1 k x3 x4 x5 (([]:List ByteArray)) t312 0 x302000)) else (some x4)
noncomputable def r14_Sigs.l1:Nat→List (List Int)→List (S42)→Int→List ByteArray→List Int→Int→List (S34)→Option ((List (S42)))
 | 0,_,_,_,_,_,_,_ =>none
 | k + 1,x3,x4,x5,x6,x7,x8,x302000 =>if x8 < (x7.length:Int) then (if 0≤x8 then (if 0≤(rd x7 x8) then (if (rd x7 x8) < (x302000.length:Int) then ((r14_Own.f ((a0S x302000 (rd x7 x8)).f0) ((a0S x302000 (rd x7 x8)).f1) ((a0S x302000 (rd x7 x8)).f2)).bind fun t317 =>((r14_Union.f x6 t317).bind fun t320 =>(r14_Sigs.l1 k x3 x4 x5 t320 x7 (wrap64 (x8 + 1)) x302000))) else (none)) else (none)) else (none)) else (if 0≤x5 then (if x5 < (x302000.length:Int) then (if x4.length < 2932031007402 then (r14_Sigs.l0 k x3 (x4 ++ [(⟨(a0S x302000 x5).f0,(((a0S x302000 x5).f1).length:Int),x6⟩:S42)]) (wrap64 (x5 + 1)) x302000) else (none)) else (none)) else (none))
end
noncomputable def r14_Sigs.f (k:Nat) (aC:List (S34)):Option ((List (S42))):=(r12_Calls.f k aC).bind fun t302 =>((r12_May.f k t302).bind fun t305 =>(if t305 = true then (r14_Sigs.l0 k t302 (([]:List (S42))) 0 aC) else (none)))
def r14_Sigs.T13:Bool × List (List Nat × List Nat):=(true,[([],[]),([],[]),([1],[1]),([],[]),([],[]),([3,4],[3,4]),([5],[5]),([2,6],[2,6]),([7],[7]),([8],[8]),([0,9,9],[0,9]),([10,10,0,1,2,3,4,5,6,7,8,9,10],[0,10])])
def r14_Sigs.B13:List Nat:=[0,0,2,0,0,24,56,126,254,510,1023,2047]
theorem r14_Sigs.tab13:rtab .any (opsOf Tryz.f14 13) = r14_Sigs.T13:=by kernel_rfl
theorem r14_Sigs.bits13:waitsOk r14_Sigs.T13.2 r14_Sigs.B13 = true:=by kernel_rfl
def r14_Sigs.T14:Bool × List (List Nat × List Nat):=(true,[([],[]),([],[]),([1],[1]),([],[]),([2,3],[2,3]),([4],[4]),([5],[5]),([],[]),([7],[7]),([],[]),([8,9],[8,9]),([10],[10]),([11],[11]),([12],[12]),([],[]),([6,13,14],[6,13,14]),([15],[15]),([0,16],[0,16]),([17,17,0,1,2,3,4,5,6,7,8,9,10,11,12,13,14,15,16,17],[0,17])])
def r14_Sigs.B14:List Nat:=[0,0,2,0,14,30,62,0,128,0,896,1920,3968,8064,0,32766,65534,131071,262143]
theorem r14_Sigs.tab14:rtab .any (opsOf Tryz.f14 14) = r14_Sigs.T14:=by kernel_rfl
theorem r14_Sigs.bits14:waitsOk r14_Sigs.T14.2 r14_Sigs.B14 = true:=by kernel_rfl
theorem r14_Sigs.calls (k:Nat) (aX:Option Addr) (aQ:Nat) (aC:List (S34)) (r:List (S42)) (w:World) (dO:Kd.C k34 w aX aC.length aC) (dP:aC.length≤aQ) (h:r14_Sigs.f k aC = some r) :
    Calls Tryz.prog 14 #[.agg #[.slice aX aC.length aQ]] w fun e w' =>∃ v0_:Value,e = .returned (v0_)∧Kd.S k42 42 w' w.heap.size (fun _ =>True) v0_ r∧Below w.heap.size w w':=by
 have hu24:=Tryz.underlying24;have hu34:=Tryz.underlying34;have hu42:=Tryz.underlying42;have bY:=a0D.mk dO;have dS:=a0D.mk dP;clear dO dP;have HB:=a0D.mk (zL0 w.heap.size w);have H:((r12_Calls.f k aC).bind fun t302 =>((r12_May.f k t302).bind fun t305 =>(if t305 = true then (r14_Sigs.l0 k t302 (([]:List (S42))) 0 aC) else (none)))) = some r:=h;clear h;obtain ⟨t302,A2,H⟩:=ob_ H;obtain ⟨t305,A3,H⟩:=ob_ H;by_cases c4:t305 = true
 ·subst c4;rw [if_pos rfl] at H;obtain ⟨y306,hy306⟩:∃ y_:List (S42),y_ = (([]:List (S42))):=⟨_,rfl⟩;replace H:(r14_Sigs.l0 k t302 y306 0 aC) = some r:=by first | (rw [hy306];with_reducible exact H) | (have H2_:=(zN0 _ _).symm.trans H;rw [hy306];with_reducible exact H2_) | (have H2_:=(zN0 _ _).symm.trans H;with_reducible exact H2_) | with_reducible exact H | (rw [hy306];exact H) | exact H
  have Ny306:=a0D.mk hy306;clear hy306;have H':=a0D.mk H;clear H;go_enter Tryz.func14,Tryz.ntmps14
  go_wp2_with (first | ((with_reducible refine a0T (N:=1) rfl ?_);refine a2A ?hg (N:=1) ?hd (cs:=#[.slice aX aC.length aQ]) (t:=24) ?hr ?_;(case hd =>rfl);(case hg =>rfl);(case hr =>first | (go_simp;done) | (go_simp;rfl));intro aK hg w5 hbox hb;have bM:=a0D.mk (a0K qC0 hb);have bN:=a0D.mk (hbox);have bO:=a0D.mk ((by rw [hg];exact (a0R qC0):w.heap.size≤aK));have bS:=a0D.mk ((by rw [hg];exact (a0R qC0):w.heap.size≤aK));clear HB;have HB:=bM;have aA:=bN;have GW301:=bO;have aH:=bS;clear bM bN bO bS;clear hb hbox hg;have eC:w5.cell? ⟨aK,0,none⟩ = some (.slice aX aC.length aQ):=(a0L aA.out 0).trans rfl;have eD:=a0Q aA.out 0) | ((with_reducible refine a0Y (f:=19) rfl ?_);refine a2F (some 10) rfl rfl Tryz.func19 qE0 rfl #[.agg #[.slice aX aC.length aQ]] rfl qB0 ?_;(with_reducible refine (r12_Calls.calls k _ _ aC t302 _ ?side1 ?side2 A2.out).mono ?_);(case side1 =>repeat (first | exact (Kd.a0H bY.out HB.out) | (with_reducible refine Kd.a1D ?_ _) | (with_reducible refine Kd.a1C ?_ _) | (with_reducible refine Kd.a1K ?_)));(case side2 =>exact dS.out);rintro e w7 ⟨v303,rfl,ho0,hb⟩;refine ⟨_,rfl,?_⟩;have HO304:=a0D.mk (Kd.b1V ho0 (a0R qL0));replace aA:=a0D.mk (a0P (g:=aK) (o:=.cells #[.slice aX aC.length aQ] 24 (0,0)) qJ0 hb);replace HB:=a0D.mk (a0K qL0 hb);(try clear hb);(try clear hk);(try clear ho0);obtain ⟨Ao8,co8,eo8⟩:=Kd.c3P HO304.out;subst eo8) | ((with_reducible refine a0Y (f:=36) rfl ?_);refine a2F (some 12) rfl rfl Tryz.func36 qE0 rfl #[.slice Ao8 t302.length co8] rfl qB0 ?_;(with_reducible refine (r12_May.calls k _ _ t302 true _ ?side1 ?side2 A3.out).mono ?_);(case side1 =>repeat (first | exact (Kd.a6D HO304.out).2.2 | (with_reducible refine Kd.a1D ?_ _) | (with_reducible refine Kd.a1C ?_ _) | (with_reducible refine Kd.a1K ?_)));(case side2 =>exact (Kd.a6D HO304.out).2.1);rintro e w' ⟨rfl,⟨nd,rfl⟩⟩;refine ⟨_,rfl,?_⟩) | ((with_reducible refine a0T (N:=14) rfl ?_);refine Kd.S_lit k42 _ 42 ?hg (N:=14) ?hd (xs:=([]:List (S42))) (inner:=[]) (ok:=fun _ =>True) (okp:=fun _ =>True) ?hr ?hp (fun _ hk =>hk) trivial (zL0 _ _) (zM0 _) qI0 ?_;(case hd =>rfl);(case hg =>rfl);(case hr =>first | (go_simp;done) | (go_simp;rfl));(case hp =>exact (Reps.none _ _));intro v307 w9 ho10 hb hg_ hnew_;clear hg_ hnew_;(first | rw [← Ny306.out] at ho10 | (simp only [Int.reduceToNat] at ho10;rw [← Ny306.out] at ho10));replace HO304:=a0D.mk (Kd.a4Y (by (with_reducible repeat (first | apply Kd.a1X | apply Kd.a1W | apply Kd.a2I));exact HO304.out) hb);have HO308:=a0D.mk (Kd.b1V ho10 (a0R qL0));replace aA:=a0D.mk (a0P (g:=aK) (o:=.cells #[.slice aX aC.length aQ] 24 (0,0)) qJ0 hb);replace HB:=a0D.mk (a0K qL0 hb);clear hb ho10));go_loopg [4,5] k (fun kq v4 v5 w' =>∃ (aJ:List (S42)) (aD:Int),v5 = .int .i64 aD∧a0D (r14_Sigs.l0 kq t302 aJ aD aC = some r)∧a0D (kq≤k)∧a0D (Kd.S (Kd.slice 3 (Kd.int .i64)) 43 w' w.heap.size (fun _ =>True) (.slice Ao8 t302.length co8) t302)∧a0D (Kd.S k42 42 w' w.heap.size (fun _ =>True) v4 aJ)∧a0D (w'.heap[aK]? = some (.cells #[(.slice aX aC.length aQ)] 24 (0,0)))∧a0D (Below w.heap.size w w'))
  case atStart =>exact ⟨(y306),(0),qH0,H',⟨zM0 _⟩,⟨by (with_reducible repeat (first | apply Kd.a1X | apply Kd.a1W | apply Kd.a2I));exact HO304.out⟩,⟨by (with_reducible repeat (first | apply Kd.a1X | apply Kd.a1W | apply Kd.a2I));exact HO308.out⟩,⟨by (with_reducible repeat (first | refine a0N ?_ _ | refine a0O ?_ | refine a0J ?_ _));exact aA.out⟩,⟨by repeat (first | (with_reducible first | exact HB.out | apply a0C | apply a0A | apply a0E | refine a0F ?_ aH.out) | exact HB.out)⟩⟩
  case round =>
   clear H';obtain ⟨aJ,aD,rfl,HA,HK1,aE,aI,aA,HB⟩:=hrel;cases gk with
   | zero =>exact absurd HA.out (by simp [r14_Sigs.l0])
   | succ k1 =>
    have H:=HA.out;clear HA;simp only [r14_Sigs.l0] at H;by_cases c11:aD < (aC.length:Int)
    ·rw [if_pos c11] at H;have c11b0:decide (aD < (aC.length:Int)) = true:=zD0 c11;clear c11;obtain ⟨y309,hy309⟩:∃ y_:List ByteArray,y_ = (([]:List ByteArray)):=⟨_,rfl⟩;replace H:((r12_Reach.f k1 t302 aD).bind fun t312 =>(r14_Sigs.l1 k1 t302 aJ aD y309 t312 0 aC)) = some r:=by first | (rw [hy309];with_reducible exact H) | (have H2_:=(zN0 _ _).symm.trans H;rw [hy309];with_reducible exact H2_) | (have H2_:=(zN0 _ _).symm.trans H;with_reducible exact H2_) | with_reducible exact H | (rw [hy309];exact H) | exact H
     have Ny309:=a0D.mk hy309;clear hy309;obtain ⟨t312,A12,H⟩:=ob_ H;have H':=a0D.mk H;clear H;have dU:wr.cell? ⟨aK,0,none⟩ = some (.slice aX aC.length aQ):=(a0L aA.out 0).trans rfl;have dV:=a0Q aA.out 0;go_wp2_with (first | ((with_reducible refine a0T (N:=22) rfl ?_);refine Kd.b1W Kd.string _ 9 ?hg (N:=22) ?hd (xs:=([]:List ByteArray)) (inner:=[]) (ok:=fun _ =>True) (okp:=fun _ =>True) ?hr ?hp (fun _ hk =>hk) trivial (zL0 _ _) (zM0 _) qI0 ?_;(case hd =>rfl);(case hg =>rfl);(case hr =>first | (go_simp;done) | (go_simp;rfl));(case hp =>exact (Reps.none _ _));intro v310 w14 ho15 hb hg_ hnew_;clear hg_ hnew_;(first | rw [← Ny309.out] at ho15 | (simp only [Int.reduceToNat] at ho15;rw [← Ny309.out] at ho15));replace aE:=a0D.mk (Kd.a4Y qC1 hb);replace aI:=a0D.mk (Kd.a9D qZ0 (Kd.a2X ho15) hb);have HO311:=a0D.mk (Kd.a2H ho15 (a0R qL0));replace aA:=a0D.mk (a0P (g:=aK) (o:=.cells #[.slice aX aC.length aQ] 24 (0,0)) qJ0 hb);replace HB:=a0D.mk (a0K qL0 hb);clear hb ho15) | ((with_reducible refine a0Y (f:=21) rfl ?_);refine a2F (some 25) rfl rfl Tryz.func21 qE0 rfl #[.slice Ao8 t302.length co8,.int .i64 aD] rfl qB0 ?_;(with_reducible refine (r12_Reach.calls k1 _ _ t302 aD t312 _ ?side1 ?side2 A12.out).mono ?_);(case side1 =>repeat (first | exact (Kd.a6D aE.out).2.2 | (with_reducible refine Kd.a1D ?_ _) | (with_reducible refine Kd.a1C ?_ _) | (with_reducible refine Kd.a1K ?_)));(case side2 =>exact (Kd.a6D aE.out).2.1);rintro e w16 ⟨v313,rfl,ho0,hb⟩;refine ⟨_,rfl,?_⟩;replace aE:=a0D.mk (Kd.a9D qC1 (Kd.a2X ho0) hb);replace aI:=a0D.mk (Kd.a4Y qZ0 hb);replace HO311:=a0D.mk (Kd.a3U (by (with_reducible repeat (first | apply Kd.a0V | apply Kd.a0Z | apply Kd.a1F));exact HO311.out) hb);have HO314:=a0D.mk (Kd.a2H ho0 (a0R qL0));replace aA:=a0D.mk (a0P (g:=aK) (o:=.cells #[.slice aX aC.length aQ] 24 (0,0)) qJ0 hb);replace HB:=a0D.mk (a0K qL0 hb);(try clear hb);(try clear hk);(try clear ho0)));go_loopg [6,8] k1 (fun kq v6 v8 w' =>∃ (bK:List ByteArray) (aG:Int),v8 = .int .i64 aG∧a0D (r14_Sigs.l1 kq t302 aJ aD bK t312 aG aC = some r)∧a0D (kq≤k1)∧a0D (Kd.S (Kd.slice 3 (Kd.int .i64)) 43 w' w.heap.size (fun k_ =>some k_≠(v313:Value).ownBlock) (.slice Ao8 t302.length co8) t302)∧a0D (Kd.S k42 42 w' w.heap.size (fun k_ =>some k_≠(v6:Value).ownBlock) u4 aJ)∧a0D (Kd.R Kd.string 9 w' w.heap.size (fun _ =>True) v6 bK)∧a0D (Kd.R (Kd.int .i64) 3 w' w.heap.size (fun _ =>True) v313 t312)∧a0D (w'.heap[aK]? = some (.cells #[(.slice aX aC.length aQ)] 24 (0,0)))∧a0D (Below w.heap.size w w'))
     case atStart =>exact ⟨(y309),(0),qH0,H',⟨zM0 _⟩,⟨by (with_reducible repeat (first | apply Kd.a1X | apply Kd.a1W | apply Kd.a2I));exact Kd.a5H aE.out (fun _ hk =>hk.2)⟩,⟨by (with_reducible repeat (first | apply Kd.a1X | apply Kd.a1W | apply Kd.a2I));exact Kd.a5H aI.out (fun _ hk =>hk.2)⟩,⟨by (with_reducible repeat (first | apply Kd.a0V | apply Kd.a0Z | apply Kd.a1F));exact HO311.out⟩,⟨by (with_reducible repeat (first | apply Kd.a0V | apply Kd.a0Z | apply Kd.a1F));exact HO314.out⟩,⟨by (with_reducible repeat (first | refine a0N ?_ _ | refine a0O ?_ | refine a0J ?_ _));exact aA.out⟩,⟨by repeat (first | (with_reducible first | exact HB.out | apply a0C | apply a0A | apply a0E | refine a0F ?_ aH.out) | exact HB.out)⟩⟩
     case round =>
      clear H';obtain ⟨bK,aG,rfl,HA,HK2,aE,aI,aM,aN,aA,HB⟩:=hrel;cases gk with
      | zero =>exact absurd HA.out (by simp [r14_Sigs.l1])
      | succ k2 =>
       have H:=HA.out;clear HA;simp only [r14_Sigs.l1] at H;by_cases c17:aG < (t312.length:Int)
       ·rw [if_pos c17] at H;have c17b0:decide (aG < (t312.length:Int)) = true:=zD0 c17;clear c17;by_cases c18:0≤aG
        ·rw [if_pos c18] at H;have c18b0:decide (0≤aG) = true:=zD0 c18;clear c18;by_cases c19:0≤(rd t312 aG)
         ·rw [if_pos c19] at H;have c19b0:decide (0≤(rd t312 aG)) = true:=zD0 c19;clear c19;by_cases c20:(rd t312 aG) < (aC.length:Int)
          ·rw [if_pos c20] at H;have c20b0:decide ((rd t312 aG) < (aC.length:Int)) = true:=zD0 c20;clear c20;obtain ⟨t317,A21,H⟩:=ob_ H;obtain ⟨t320,A22,H⟩:=ob_ H;have H':=a0D.mk H;clear H;obtain ⟨Ao23,co23,eo23⟩:=Kd.a1Y aN.out;subst eo23
           try go_wp2
           have bM:=a0D.mk (Kd.a2I aE.out);have bN:=a0D.mk (Kd.a2I aI.out);have bO:=a0D.mk (Kd.a1F aM.out);have bS:=a0D.mk (Kd.a1F aN.out);have bZ:=a0D.mk (a0O aA.out);have cW:=a0D.mk (a0E HB.out);clear aE;clear aI;clear aM;clear aN;clear aA;clear HB;have aE:=bM;have aI:=bN;have aM:=bO;have aN:=bS;have aA:=bZ;have HB:=cW;clear bM bN bO bS bZ cW;have p315:0≤(aG:Int):=zB0 qA0;have q315:aG < (t312.length:Int):=zB0 qA0;obtain ⟨ad315,e315,cA⟩:=Kd.a2R (Kd.a1H aN.out).2.2 aG p315 q315;cases e315;replace p315:=eq_true p315;replace q315:=eq_true q315;have p316:0≤((rd t312 aG):Int):=zB0 qA0;have q316:(rd t312 aG) < (aC.length:Int):=zB0 qA0;obtain ⟨ad316,cX,cY,cZ,dA,e316,aY,aZ,bA,cB,cC,cD,cE⟩:=a5F bY.out (rd t312 aG) p316 q316;have bP:=bA;have bQ:=aZ;have bR:=aY;cases e316;replace aY:=a0B HB.out aY;replace aZ:=a0B HB.out aZ;replace bA:=a0B HB.out bA;have cG:=a0D.mk cC;have dH:=a0D.mk cB;clear cC cB;have cH:=a0D.mk cE;have dI:=a0D.mk cD;clear cE cD;replace p316:=eq_true p316;replace q316:=eq_true q316;refine a7Y (n:=12) (S:=fun w' =>w'.cell? ⟨aK,0,none⟩ = some (.slice (some ad316) aC.length aQ)∧w'.cell? (ad315.add (aG).toNat) = some (.int .i64 (rd t312 aG))∧w'.cell? (ad316.add (((rd t312 aG)).toNat * 3)) = some (.string ((a0S aC (rd t312 aG)).f0))∧w'.cell? ⟨(ad316.add (((rd t312 aG)).toNat * 3)).block,(ad316.add (((rd t312 aG)).toNat * 3)).off + 1,none⟩ = some (.slice cX ((a0S aC (rd t312 aG)).f1).length cY)∧w'.cell? ⟨(ad316.add (((rd t312 aG)).toNat * 3)).block,(ad316.add (((rd t312 aG)).toNat * 3)).off + 2,none⟩ = some (.slice cZ ((a0S aC (rd t312 aG)).f2).length dA)) (ds:=[]) #[false,false,false,false,false,false,false,false,false,false,false,false] qE0 rfl rfl ⟨(a0L aA.out 0).trans rfl,cA,(a0B HB.out bR),(a0B HB.out bQ),(a0B HB.out bP)⟩ (fun hHeld =>?_);refine a4L r14_Sigs.tab13 r14_Sigs.bits13 (fun HT_ HW_ =>?_);generalize wr.drew = w24 at aE aI aM aN aA HB cG cH cA aY aZ bA hHeld ⊢;refine pz_ 0 (some 32) HT_.out rfl rfl (fun _ _ _ h =>h) (h:=?_);refine pz_ 1 (some 33) HT_.out rfl rfl (fun _ _ _ h =>h) (h:=?_);refine pz_ 3 (some 35) HT_.out rfl rfl (fun _ _ _ h =>h) (h:=?_);refine pz_ 4 (some 36) HT_.out rfl rfl (fun _ _ _ h =>h) (h:=?_);refine pz_ 5 (some 37) HT_.out rfl rfl (fun _ _ _ h =>h) (h:=?_);refine a5D (i:=2) (N:=some 34) (v:=?_) (a':=?_) #[true,true,true,true,true,true,false,false,false,false,false,false] rfl rfl (a2L HT_.out HW_.out qE0) (fun _ _ _ h =>h) (Or.inl ⟨by rfl,?_⟩) hHeld ?_ ?_;rotate_left
           ·rintro w' ⟨s0,s1,s2,s3,s4⟩;go_simp
            with_reducible rfl
           rotate_left
           ·simp only [Act.put,zC0,zG0,zH0,a1L,a1Q]
            rfl
           refine a5D (i:=6) (N:=some 38) (v:=?_) (a':=?_) #[true,true,true,true,true,true,true,false,false,false,false,false] rfl rfl (a2L HT_.out HW_.out qE0) (fun _ _ _ h =>h) (Or.inl ⟨by rfl,?_⟩) hHeld ?_ ?_;rotate_left
           ·rintro w' ⟨s0,s1,s2,s3,s4⟩;go_simp
            with_reducible rfl
           rotate_left
           ·simp only [Act.put,zC0,zG0,zH0,a1L,a1Q]
            rfl
           refine pz_ 7 (some 39) HT_.out rfl rfl (fun _ _ _ h =>h) (h:=?_);refine a5D (i:=8) (N:=some 40) (v:=?_) (a':=?_) #[true,true,true,true,true,true,true,true,true,false,false,false] rfl rfl (a2L HT_.out HW_.out qE0) (fun _ _ _ h =>h) (Or.inl ⟨by rfl,?_⟩) hHeld ?_ ?_;rotate_left
           ·rintro w' ⟨s0,s1,s2,s3,s4⟩;go_simp
            with_reducible rfl
           rotate_left
           ·simp only [Act.put,zC0,zG0,zH0,a1L,a1Q]
            rfl
           refine one_ (i:=9) (N:=some 41) #[true,true,true,true,true,true,true,true,true,true,false,false] rfl rfl (a3B HT_.out qE0) qF0 (fun K hK =>?_);refine a4P Tryz.func12 qE0 rfl #[.agg #[.string ((a0S aC (rd t312 aG)).f0),.slice cX ((a0S aC (rd t312 aG)).f1).length cY,.slice cZ ((a0S aC (rd t312 aG)).f2).length dA]] qH1 rfl rfl qB0 ?_
           with_reducible refine (r14_Own.calls ((a0S aC (rd t312 aG)).f0) _ _ ((a0S aC (rd t312 aG)).f1) _ _ ((a0S aC (rd t312 aG)).f2) t317 _ ?side1 ?side2 ?side3 ?side4 A21.out).mono ?_
           (case side1 =>repeat (first | exact (Kd.a0H cG.out HB.out) | (with_reducible refine Kd.a1D ?_ _) | (with_reducible refine Kd.a1C ?_ _) | (with_reducible refine Kd.a1K ?_)))
           (case side2 =>exact dH.out)
           (case side3 =>repeat (first | exact (Kd.a0H cH.out HB.out) | (with_reducible refine Kd.a1D ?_ _) | (with_reducible refine Kd.a1C ?_ _) | (with_reducible refine Kd.a1K ?_)))
           (case side4 =>exact dI.out)
           rintro e w25 ⟨v318,rfl,ho0,hb⟩;have HS1_:=(hb.cell (zT0 _ _ (hHeld.2.1))).trans (hHeld.2.1);refine ⟨_,rfl,?_⟩;have bM:=a0D.mk (Kd.a4Y qC1 hb);have bN:=a0D.mk (Kd.a9D qZ0 (Kd.a2X ho0) hb);have bO:=a0D.mk (Kd.a4K qS0 (Kd.a2X ho0) hb);have bS:=a0D.mk (Kd.a3U qU1 hb);have bZ:=a0D.mk (Kd.a2H (Kd.a7F ho0 (Kd.R_lt qS0)) (a0R qL0));have cW:=a0D.mk (a0P (g:=aK) (o:=.cells #[.slice (some ad316) aC.length aQ] 24 (0,0)) qJ0 hb);have dT:=a0D.mk (a0K qL0 hb);clear aE;clear aI;clear aM;clear aN;clear aA;clear HB;have aE:=bM;have aI:=bN;have aM:=bO;have aN:=bS;have HO319:=bZ;have aA:=cW;have HB:=dT;clear bM bN bO bS bZ cW dT
           (try clear hb)
           (try clear hb2)
           (try clear hk)
           (try clear hi)
           (try clear ho0)
           obtain ⟨Ao26,co26,eo26⟩:=Kd.a1Y aM.out
           (first | subst eo26 | (injection eo26 with f1_ f2_ f3_;have f4_:=f1_.symm;have f5_:=f3_.symm;clear f1_ f2_ f3_;subst f4_;subst f5_))
           obtain ⟨Ao27,co27,eo27⟩:=Kd.a1Y HO319.out
           (first | subst eo27 | (injection eo27 with f1_ f2_ f3_;have f4_:=f1_.symm;have f5_:=f3_.symm;clear f1_ f2_ f3_;subst f4_;subst f5_))
           refine hK.out _ _ ⟨(a0L aA.out 0).trans rfl,HS1_,(a0B HB.out bR),(a0B HB.out bQ),(a0B HB.out bP)⟩ (fun hHeld =>?_);clear hK K;refine a4M (a':=?_) ?_ ?_;rotate_left
           ·show Act.put _ (some 41) _ = _;simp only [Act.put,zC0,zG0,zH0,a1L,a1Q]
            rfl
           refine one_ (i:=10) (N:=some 42) #[true,true,true,true,true,true,true,true,true,true,true,false] rfl rfl (a3B HT_.out qE0) qF0 (fun K hK =>?_);refine a4P Tryz.func16 qE0 rfl #[.slice Ao26 bK.length co26,.slice Ao27 t317.length co27] qH1 rfl rfl qB0 ?_
           with_reducible refine (r14_Union.calls _ _ bK _ _ t317 t320 _ ?side1 ?side2 ?side3 ?side4 A22.out).mono ?_
           (case side1 =>repeat (first | exact (Kd.a1H aM.out).2.2 | (with_reducible refine Kd.a1D ?_ _) | (with_reducible refine Kd.a1C ?_ _) | (with_reducible refine Kd.a1K ?_)))
           (case side2 =>exact (Kd.a1H aM.out).2.1)
           (case side3 =>repeat (first | exact (Kd.a1H HO319.out).2.2 | (with_reducible refine Kd.a1D ?_ _) | (with_reducible refine Kd.a1C ?_ _) | (with_reducible refine Kd.a1K ?_)))
           (case side4 =>exact (Kd.a1H HO319.out).2.1)
           rintro e w28 ⟨v321,rfl,ho0,hb⟩;have HS1_:=(hb.cell (zT0 _ _ (hHeld.2.1))).trans (hHeld.2.1);refine ⟨_,rfl,?_⟩;have bM:=a0D.mk (Kd.a4Y qC1 hb);have bN:=a0D.mk (Kd.a9D qZ0 (Kd.a2X ho0) hb);have bO:=a0D.mk (Kd.a4K qS0 (Kd.a2X ho0) hb);have bS:=a0D.mk (Kd.a3U qU1 hb);have bZ:=a0D.mk (Kd.a4K qH2 (Kd.a2X ho0) hb);have cW:=a0D.mk (Kd.a2H (Kd.a7F (Kd.a7F ho0 (Kd.R_lt qS0)) (Kd.R_lt qH2)) (a0R qL0));have dT:=a0D.mk (a0P (g:=aK) (o:=.cells #[.slice (some ad316) aC.length aQ] 24 (0,0)) qJ0 hb);have eJ:=a0D.mk (a0K qL0 hb);clear aE;clear aI;clear aM;clear aN;clear HO319;clear aA;clear HB;have aE:=bM;have aI:=bN;have aM:=bO;have aN:=bS;have HO319:=bZ;have HO322:=cW;have aA:=dT;have HB:=eJ;clear bM bN bO bS bZ cW dT eJ
           (try clear hb)
           (try clear hb2)
           (try clear hk)
           (try clear hi)
           (try clear ho0)
           refine hK.out _ _ ⟨(a0L aA.out 0).trans rfl,HS1_,(a0B HB.out bR),(a0B HB.out bQ),(a0B HB.out bP)⟩ (fun hHeld =>?_);clear hK K;refine a4M (a':=?_) ?_ ?_;rotate_left
           ·show Act.put _ (some 42) _ = _;simp only [Act.put,zC0,zG0,zH0,a1L,a1Q]
            rfl
           refine pz_ 11 (some 6) HT_.out rfl rfl (fun _ _ _ h =>h) (h:=?_);refine b2C (a6F HT_.out qE0) ?_
           try go_wp2
           go_roundg k2
           case measure =>have:=HK1.out;have:=HK2.out;omega
           case rel =>exact ⟨(t320),(wrap64 (aG + 1)),qH0,H',⟨by have:=HK1.out;have:=HK2.out;omega⟩,⟨by (with_reducible repeat (first | apply Kd.a1X | apply Kd.a1W | apply Kd.a2I));exact aE.out⟩,⟨by (with_reducible repeat (first | apply Kd.a1X | apply Kd.a1W | apply Kd.a2I));exact Kd.a5H aI.out (fun _ hk =>hk.2)⟩,⟨by (with_reducible repeat (first | apply Kd.a0V | apply Kd.a0Z | apply Kd.a1F));exact Kd.a2W HO322.out (fun _ hk =>trivial)⟩,⟨by (with_reducible repeat (first | apply Kd.a0V | apply Kd.a0Z | apply Kd.a1F));exact aN.out⟩,⟨by (with_reducible repeat (first | refine a0N ?_ _ | refine a0O ?_ | refine a0J ?_ _));exact aA.out⟩,⟨by repeat (first | (with_reducible first | exact HB.out | apply a0C | apply a0A | apply a0E | refine a0F ?_ aH.out) | exact HB.out)⟩⟩
          ·rw [if_neg c20] at H;exact absurd H qI0
         ·rw [if_neg c19] at H;exact absurd H qI0
        ·rw [if_neg c18] at H;exact absurd H qI0
       ·rw [if_neg c17] at H;have c17b0:decide (aG < (t312.length:Int)) = false:=zO0 c17;clear c17;by_cases c29:0≤aD
        ·rw [if_pos c29] at H;have c29b0:decide (0≤aD) = true:=zD0 c29;clear c29;by_cases c30:aD < (aC.length:Int)
         ·rw [if_pos c30] at H;have c30b0:decide (aD < (aC.length:Int)) = true:=zD0 c30;clear c30;by_cases c31:aJ.length < 2932031007402
          ·rw [if_pos c31] at H;have LMc31:=a0D.mk c31;clear c31;obtain ⟨y325,hy325⟩:∃ y_:List (S42),y_ = (aJ ++ [(⟨(a0S aC aD).f0,(((a0S aC aD).f1).length:Int),bK⟩:S42)]):=⟨_,rfl⟩;replace H:(r14_Sigs.l0 k2 t302 y325 (wrap64 (aD + 1)) aC) = some r:=by first | (rw [hy325];with_reducible exact H) | (have H2_:=(zN0 _ _).symm.trans H;rw [hy325];with_reducible exact H2_) | (have H2_:=(zN0 _ _).symm.trans H;with_reducible exact H2_) | with_reducible exact H | (rw [hy325];exact H) | exact H
           have Ny325:=a0D.mk hy325;clear hy325;have H':=a0D.mk H;clear H;obtain ⟨Ao32,co32,eo32⟩:=Kd.a1Y aN.out;subst eo32
           try go_wp2
           have bM:=a0D.mk (Kd.a2I aE.out);have bN:=a0D.mk (Kd.a2I aI.out);have bO:=a0D.mk (Kd.a1F aM.out);have bS:=a0D.mk (Kd.a1F aN.out);have bZ:=a0D.mk (a0O aA.out);have cW:=a0D.mk (a0E HB.out);clear aE;clear aI;clear aM;clear aN;clear aA;clear HB;have aE:=bM;have aI:=bN;have aM:=bO;have aN:=bS;have aA:=bZ;have HB:=cW;clear bM bN bO bS bZ cW;have p323:0≤(aD:Int):=zB0 qA0;have q323:aD < (aC.length:Int):=zB0 qA0;obtain ⟨ad323,dB,dC,dD,dE,e323,bC,aT,aU,cI,cJ,cM,cN⟩:=a5F bY.out aD p323 q323;have bD:=aU;have bE:=aT;have bF:=bC;cases e323;replace bC:=a0B HB.out bC;replace aT:=a0B HB.out aT;replace aU:=a0B HB.out aU;have dJ:=a0D.mk cJ;have dW:=a0D.mk cI;clear cJ cI;have dK:=a0D.mk cN;have dX:=a0D.mk cM;clear cN cM;replace p323:=eq_true p323;replace q323:=eq_true q323;have p324:0≤(aD:Int):=zB0 qA0;have q324:aD < (aC.length:Int):=zB0 qA0;obtain ⟨ad324,eE,eG,eH,eI,e324,bG,aV,aW,cO,cQ,cR,cU⟩:=a5F bY.out aD p324 q324;have bH:=aW;have bI:=aV;have bJ:=bG;obtain rfl:ad323 = ad324:=(by injection e324);replace bG:=a0B HB.out bG;replace aV:=a0B HB.out aV;replace aW:=a0B HB.out aW;have dL:=a0D.mk cQ;have dY:=a0D.mk cO;clear cQ cO;have dM:=a0D.mk cU;have dZ:=a0D.mk cR;clear cU cR;replace p324:=eq_true p324;replace q324:=eq_true q324;have ea_:=zI0 (aT.symm.trans aV);injection ea_ with ea_ en_ ec_
           subst ea_;subst ec_;clear en_;have ea_:=zI0 (aU.symm.trans aW);injection ea_ with ea_ en_ ec_
           subst ea_;subst ec_;clear en_;obtain ⟨Ao34,co34,eo34⟩:=Kd.a1Y aM.out
           (first | subst eo34 | (injection eo34 with f1_ f2_ f3_;have f4_:=f1_.symm;have f5_:=f3_.symm;clear f1_ f2_ f3_;subst f4_;subst f5_))
           refine a7Y (n:=19) (S:=fun w' =>w'.cell? ⟨aK,0,none⟩ = some (.slice (some ad323) aC.length aQ)∧w'.cell? (ad323.add ((aD).toNat * 3)) = some (.string ((a0S aC aD).f0))∧w'.cell? ⟨(ad323.add ((aD).toNat * 3)).block,(ad323.add ((aD).toNat * 3)).off + 1,none⟩ = some (.slice dB ((a0S aC aD).f1).length dC)∧w'.cell? ⟨(ad323.add ((aD).toNat * 3)).block,(ad323.add ((aD).toNat * 3)).off + 2,none⟩ = some (.slice dD ((a0S aC aD).f2).length dE)∧w'.cell? (ad323.add ((aD).toNat * 3)) = some (.string ((a0S aC aD).f0))∧w'.cell? ⟨(ad323.add ((aD).toNat * 3)).block,(ad323.add ((aD).toNat * 3)).off + 1,none⟩ = some (.slice dB ((a0S aC aD).f1).length dC)∧w'.cell? ⟨(ad323.add ((aD).toNat * 3)).block,(ad323.add ((aD).toNat * 3)).off + 2,none⟩ = some (.slice dD ((a0S aC aD).f2).length dE)) (ds:=[]) #[false,false,false,false,false,false,false,false,false,false,false,false,false,false,false,false,false,false,false] qE0 rfl rfl ⟨(a0L aA.out 0).trans rfl,(a0B HB.out bF),(a0B HB.out bE),(a0B HB.out bD),(a0B HB.out bJ),(a0B HB.out bI),(a0B HB.out bH)⟩ (fun hHeld =>?_);refine a4L r14_Sigs.tab14 r14_Sigs.bits14 (fun HT_ HW_ =>?_);generalize wr.drew = w33 at aE aI aM aN aA HB dJ dK dL dM bC aT aU bG aV aW hHeld ⊢;refine pz_ 0 (some 43) HT_.out rfl rfl (fun _ _ _ h =>h) (h:=?_);refine pz_ 1 (some 44) HT_.out rfl rfl (fun _ _ _ h =>h) (h:=?_);refine pz_ 3 (some 46) HT_.out rfl rfl (fun _ _ _ h =>h) (h:=?_);refine pz_ 7 (some 50) HT_.out rfl rfl (fun _ _ _ h =>h) (h:=?_);refine pz_ 9 (some 52) HT_.out rfl rfl (fun _ _ _ h =>h) (h:=?_);refine pz_ 14 (some 57) HT_.out rfl rfl (fun _ _ _ h =>h) (h:=?_);refine a5D (i:=2) (N:=some 45) (v:=?_) (a':=?_) #[true,true,true,true,false,false,false,true,false,true,false,false,false,false,true,false,false,false,false] rfl rfl (a2L HT_.out HW_.out qE0) (fun _ _ _ h =>h) (Or.inl ⟨by rfl,?_⟩) hHeld ?_ ?_;rotate_left
           ·rintro w' ⟨s0,s1,s2,s3,s4,s5,s6⟩;go_simp
            with_reducible rfl
           rotate_left
           ·simp only [Act.put,zC0,zG0,zH0,a1L,a1Q]
            rfl
           refine pz_ 4 (some 47) HT_.out rfl rfl (fun _ _ _ h =>h) (h:=?_);refine pz_ 5 (some 48) HT_.out rfl rfl (fun _ _ _ h =>h) (h:=?_);refine a5D (i:=6) (N:=some 49) (v:=?_) (a':=?_) #[true,true,true,true,true,true,true,true,false,true,false,false,false,false,true,false,false,false,false] rfl rfl (a2L HT_.out HW_.out qE0) (fun _ _ _ h =>h) (Or.inl ⟨by rfl,?_⟩) hHeld ?_ ?_;rotate_left
           ·rintro w' ⟨s0,s1,s2,s3,s4,s5,s6⟩;go_simp
            with_reducible rfl
           rotate_left
           ·simp only [Act.put,zC0,zG0,zH0,a1L,a1Q]
            rfl
           refine a5D (i:=8) (N:=some 51) (v:=?_) (a':=?_) #[true,true,true,true,true,true,true,true,true,true,false,false,false,false,true,false,false,false,false] rfl rfl (a2L HT_.out HW_.out qE0) (fun _ _ _ h =>h) (Or.inl ⟨by rfl,?_⟩) hHeld ?_ ?_;rotate_left
           ·rintro w' ⟨s0,s1,s2,s3,s4,s5,s6⟩;go_simp
            with_reducible rfl
           rotate_left
           ·simp only [Act.put,zC0,zG0,zH0,a1L,a1Q]
            rfl
           refine pz_ 10 (some 53) HT_.out rfl rfl (fun _ _ _ h =>h) (h:=?_);refine pz_ 11 (some 54) HT_.out rfl rfl (fun _ _ _ h =>h) (h:=?_);refine a5D (i:=12) (N:=some 55) (v:=?_) (a':=?_) #[true,true,true,true,true,true,true,true,true,true,true,true,true,false,true,false,false,false,false] rfl rfl (a2L HT_.out HW_.out qE0) (fun _ _ _ h =>h) (Or.inl ⟨by rfl,?_⟩) hHeld ?_ ?_;rotate_left
           ·rintro w' ⟨s0,s1,s2,s3,s4,s5,s6⟩;go_simp
            with_reducible rfl
           rotate_left
           ·simp only [Act.put,zC0,zG0,zH0,a1L,a1Q]
            rfl
           refine pz_ 13 (some 56) HT_.out rfl rfl (fun _ _ _ h =>h) (h:=?_);refine pz_ 15 (some 58) HT_.out rfl rfl (fun _ _ _ h =>h) (h:=?_);refine one_ (i:=16) (N:=some 59) #[true,true,true,true,true,true,true,true,true,true,true,true,true,true,true,true,true,false,false] rfl rfl (a3B HT_.out qE0) qF0 (fun K hK =>?_);refine value_ (w1:=?_) (v:=?_) qH1 rfl ?_ ?_;rotate_left 2
           ·go_simp;constructor
            ·rfl
            ·rfl
           refine hK.out _ _ ⟨(a0L (a0J aA.out _) 0).trans rfl,(World.cell?_alloc_lt _ _ _ (zT0 _ _ ((a0B HB.out bF)))).trans ((a0B HB.out bF)),(World.cell?_alloc_lt _ _ _ (zT0 _ _ ((a0B HB.out bE)))).trans ((a0B HB.out bE)),(World.cell?_alloc_lt _ _ _ (zT0 _ _ ((a0B HB.out bD)))).trans ((a0B HB.out bD)),(World.cell?_alloc_lt _ _ _ (zT0 _ _ ((a0B HB.out bJ)))).trans ((a0B HB.out bJ)),(World.cell?_alloc_lt _ _ _ (zT0 _ _ ((a0B HB.out bI)))).trans ((a0B HB.out bI)),(World.cell?_alloc_lt _ _ _ (zT0 _ _ ((a0B HB.out bH)))).trans ((a0B HB.out bH))⟩ (fun hHeld =>?_);clear hK K;refine a4M (a':=?_) ?_ ?_;rotate_left
           ·show Act.put _ (some 59) _ = _;simp only [Act.put,zC0,zG0,zH0,a1L,a1Q]
            rfl
           refine one_ (i:=17) (N:=some 60) #[true,true,true,true,true,true,true,true,true,true,true,true,true,true,true,true,true,true,false] rfl rfl (a3B HT_.out qE0) qF0 (fun K hK =>?_);refine Kd.b4B k42 (w0:=w) w.heap.size qH1 (.tmp 43) (.tmp 59) 28 42 (.agg #[(.string ⟨#[]⟩),(.int .i64 0),(.slice none 0 0)]) 48 rfl Tryz.underlying28 info42 rfl qF0 qD0 u4 aJ (⟨(a0S aC aD).f0,(((a0S aC aD).f1).length:Int),bK⟩:S42) [.string ((a0S aC aD).f0),.int .i64 (((a0S aC aD).f1).length:Int),.slice Ao34 bK.length co34] (fun _ =>True) (fun k_ =>some k_ = (.slice Ao34 bK.length co34:Value).ownBlock) rfl rfl ?aP (fun k_ hk_ =>((Kd.a2W (ok':=fun k_ =>((fun _ =>True)) k_∧some k_≠(u4:Value).ownBlock) (Kd.b0O (aM.out) (Kd.a8N aI.out) qF0) (fun k_ hk =>⟨trivial,hk.2⟩))).1 k_ hk_.symm) ?aF ?aO ?aB ?aS ?aL ?_
           (case aP =>exact k42_mkM _ _ _ (⟨(a0S aC aD).f0,(((a0S aC aD).f1).length:Int),bK⟩:S42) (Kd.a2W (Kd.b4C rfl (Kd.a2W (ok':=fun k_ =>((fun _ =>True)) k_∧some k_≠(u4:Value).ownBlock) (Kd.b0O (aM.out) (Kd.a8N aI.out) qF0) (fun k_ hk =>⟨trivial,hk.2⟩))) (fun _ h_ =>h_)))
           (case aB =>exact qL0)
           (case aF =>exact (fun _ _ =>trivial))
           (case aO =>exact (by (with_reducible repeat (first | apply Kd.a1X | apply Kd.a1W | apply Kd.a2I));exact Kd.a5H aI.out (fun k_ hk =>⟨trivial,fun e_ =>hk e_⟩)))
           (case aS =>exact (a0R qL0))
           (case aL =>have:=LMc31.out;omega)
           intro v326 w35 ho hb hg hat;rw [← Ny325.out] at ho;have bM:=a0D.mk (Kd.S_over' qC1 (Kd.a8N qZ0) qF0 hg);have bN:=a0D.mk (Kd.b7J qU1 (Kd.a8N qZ0) qF0 hg);have bO:=a0D.mk (a1S (g:=aK) (o:=.cells #[.slice (some ad323) aC.length aQ] 24 (0,0)) qJ0 hg (Kd.S_ne aI.out aA.out qF0));have bS:=a0D.mk (hb);have bZ:=a0D.mk (ho);clear aE;clear aN;clear aA;clear HB;clear aI;clear aM;have aE:=bM;have aN:=bN;have aA:=bO;have HB:=bS;have HO327:=bZ;clear bM bN bO bS bZ;clear ho hb hg hat;refine hK.out _ _ ⟨(a0L aA.out 0).trans rfl,(a0B HB.out bF),(a0B HB.out bE),(a0B HB.out bD),(a0B HB.out bJ),(a0B HB.out bI),(a0B HB.out bH)⟩ (fun hHeld =>?_);clear hK K;refine a4M (a':=?_) ?_ ?_;rotate_left
           ·show Act.put _ (some 60) _ = _;simp only [Act.put,zC0,zG0,zH0,a1L,a1Q]
            rfl
           refine pz_ 18 (some 4) HT_.out rfl rfl (fun _ _ _ h =>h) (h:=?_);refine b2C (a6F HT_.out qE0) ?_
           try go_wp2
           go_roundg k2
           case measure =>have:=HK1.out;have:=HK2.out;omega
           case rel =>exact ⟨(y325),(wrap64 (aD + 1)),qH0,H',⟨by have:=HK1.out;have:=HK2.out;omega⟩,⟨by (with_reducible repeat (first | apply Kd.a1X | apply Kd.a1W | apply Kd.a2I));exact Kd.a5H aE.out (fun _ hk =>trivial)⟩,⟨by (with_reducible repeat (first | apply Kd.a1X | apply Kd.a1W | apply Kd.a2I));exact HO327.out⟩,⟨by (with_reducible repeat (first | refine a0N ?_ _ | refine a0O ?_ | refine a0J ?_ _));exact aA.out⟩,⟨by repeat (first | (with_reducible first | exact HB.out | apply a0C | apply a0A | apply a0E | refine a0F ?_ aH.out) | exact HB.out)⟩⟩
          ·rw [if_neg c31] at H;exact absurd H qI0
         ·rw [if_neg c30] at H;exact absurd H qI0
        ·rw [if_neg c29] at H;exact absurd H qI0
    ·rw [if_neg c11] at H;have c11b0:decide (aD < (aC.length:Int)) = false:=zO0 c11;clear c11;obtain rfl:=zI0 H;have eB:=cf1 aA.out;go_wp2;go_ret;exact ⟨_,by first | rfl | (simp [a0X,a0W] <;> rfl) | (simp [*,a0X,a0W] <;> rfl),by (with_reducible repeat (first | apply Kd.a1X | apply Kd.a1W | apply Kd.a2I));exact aI.out,by repeat (first | (with_reducible first | exact HB.out | apply a0C | apply a0A | apply a0E | refine a0F ?_ aH.out) | exact HB.out)⟩
 ·replace c4:=Bool.eq_false_iff.mpr c4;subst c4;rw [if_neg (show ¬ (false = true) by decide)] at H;exact absurd H qI0
end Go.Proofs.YthhgfncliffggaaGreat.Pr
namespace Go.Proofs.YthhgfncliffggaaGreat.Man
open Go.RowKit Go.Proofs.YthhgfncliffggaaGreat.Pr Go.Proofs.YthhgfncliffggaaGreatW.PrintWords
theorem b1F (a b:List ByteArray) (ha:a.length≤1000000000) (hb:b.length≤1000000000):Ev (fun k =>r14_Union.f a b) (unionF a b):=⟨0,fun k _ =>by unfold r14_Union.f;rw [if_pos ⟨ha,hb⟩]⟩
theorem b4T (xs ys:List ByteArray):unionF (capB xs) ys = capB (xs ++ ys):=(a4U _ _).ext (a4W _) (fun x =>by rw [a6G,a6C,a6C,zY0])
theorem rOwn_val (f:S34) (hl:Low f.f2) (hn:(flat f.f2).length≤2000000):r14_Own.f f.f0 f.f1 f.f2 = some (ownF f):=by
 unfold r14_Own.f;rw [if_pos ⟨hl,hn⟩]
theorem c1J (f:S34) (hl:Low f.f2) (hn:(flat f.f2).length≤2000000):Ev (fun k =>r14_Own.f f.f0 f.f1 f.f2) (ownF f):=⟨0,fun k _ =>rOwn_val f hl hn⟩
theorem rdG_take (l:List S42) (i:Nat) (h:i < l.length):l.take (i + 1) = l.take i ++ [a3M l (i:Int)]:=by
 rw [zW0 h]
 congr 2
 unfold a3M;rw [zP0,zK0,zF0 h];rfl
theorem rAll_ev (l:List S42) (hl:l.length≤1000000) (h1:∀ i:Nat,i < l.length→(a3M l (i:Int)).f2.length≤1000000000) (hs:(l.flatMap (·.f2)).length≤1000000000):Ev (fun k =>r14_All.f k l) (allF l):=by
 have hall:allF l = capB (l.flatMap (·.f2)):=by unfold allF unionF;rw [zU1]
 have hpre:∀ i,((l.take i).flatMap (·.f2)).length≤(l.flatMap (·.f2)).length:=fun i =>by
  conv =>rhs;rw [← List.take_append_drop i l,List.flatMap_append,zQ0]
  omega
 rw [hall]
 suffices h:∀ m i:Nat,i + m = l.length→Ev (fun k =>r14_All.l0 k l (capB ((l.take i).flatMap (·.f2))) (i:Int)) (capB (l.flatMap (·.f2))) by
  have:=h l.length 0 qD0;rw [zD2,List.flatMap_nil,b0N] at this;exact this
 intro m
 induction m with
 | zero =>
  intro i hi;have hnl:¬ ((i:Int) < (l.length:Int)):=by rw [show i = l.length from hi];exact zY3 _
  refine Ev.step ?_;simp only [r14_All.l0,if_neg hnl];rw [show i = l.length from hi,zH1];exact Ev.const _
 | succ m ih =>
  intro i hi;have hil:i < l.length:=by omega
  have c1:(0:Int)≤(i:Int):=zJ0 i;have c2:(i:Int) < (l.length:Int):=zG1.2 hil;have hw:=pz14 i qD0;have e:=ih (i + 1) qD0;rw [rdG_take l i hil,List.flatMap_append,List.flatMap_cons,List.flatMap_nil,zU1,← b4T] at e;refine Ev.step ?_;simp only [r14_All.l0,if_pos c1,if_pos c2,hw];exact Ev.bind (b1F _ _ (zE0 (a9A _) (zE0 (hpre i) hs)) (h1 i hil)) e
open Go.Proofs.YthhgfncliffggaaGreat.Tarj
def ints (N:Nat) (f:Nat→Nat):Array Value:=((List.range N).map fun x =>Value.int .i64 (f x:Nat)).toArray
def bls (N:Nat) (f:Nat→Bool):Array Value:=((List.range N).map fun x =>Value.bool (f x)).toArray
theorem b1E {α:Type} (f:Nat→α) (N n:Nat) (v:α):((List.range N).map f).set n v = (List.range N).map (Tarj.upd f n v):=by
 apply zM2;intro i;rw [List.getElem?_set];by_cases h:n = i
 ·subst h;by_cases hn:n < N
  ·simp [hn,Tarj.upd]
  ·simp [hn]
 ·rw [if_neg h,List.getElem?_map,List.getElem?_map];by_cases hi:i < N
  ·simp [hi,Tarj.upd,Ne.symm h]
  ·simp [hi]
theorem a6W (N:Nat) (f:Nat→Nat) (n v:Nat):(ints N f).setIfInBounds n (.int .i64 (v:Nat)) = ints N (Tarj.upd f n v):=by
 unfold ints;rw [zC0,b1E]
 congr 2
 funext x
 simp only [Tarj.upd]
 split <;> rfl
theorem bls_set (N:Nat) (f:Nat→Bool) (n:Nat) (v:Bool):(bls N f).setIfInBounds n (.bool v) = bls N (Tarj.upd f n v):=by
 unfold bls;rw [zC0,b1E]
 congr 2
 funext x
 simp only [Tarj.upd]
 split <;> rfl
theorem a3K {N n:Nat} (f:Nat→Nat) (h:n < N):(ints N f)[n]? = some (.int .i64 (f n:Nat)):=by simp [ints,h]
theorem bls_get {N n:Nat} (f:Nat→Bool) (h:n < N):(bls N f)[n]? = some (.bool (f n)):=by simp [bls,h]
abbrev kI:Kd Int:=Kd.int .i64
abbrev kL:Kd (List Int):=Kd.slice 3 (Kd.int .i64)
def toI (l:List Nat):List Int:=l.map Int.ofNat
structure FS (B F b1 b2 b4:Nat) (A:Option Addr) (c:Nat) (g:List (List Int)) (s:St) (vs vk:Value) (W:World):Prop where
 f:W.heap[F]? = some (.cells #[.slice A g.length c,.slice (some ⟨b1,0,none⟩) g.length g.length,.slice (some ⟨b2,0,none⟩) g.length g.length,vs,.slice (some ⟨b4,0,none⟩) g.length g.length,.int .i64 (s.next:Nat),vk] 83 (0,0))
 x:W.heap[b1]? = some (.cells (ints g.length s.index) 3 (0,0))
 l:W.heap[b2]? = some (.cells (ints g.length s.low) 3 (0,0))
 o:W.heap[b4]? = some (.cells (bls g.length s.on) 4 (0,0))
 st:kI.R 3 W B (fun k =>k≠b1∧k≠b2) vs (toI s.stack)
 kn:Kd.N kL 43 W B (fun k =>B≤k∧k≠F∧k≠b1∧k≠b2∧k≠b4∧some k≠vs.ownBlock) vk (s.knots.map toI)
 gF:Kd.F kL W (fun k =>k < B) A g.length g
 b:B≤F∧B≤b1∧B≤b2∧B≤b4
 ne:b1≠b2
section
variable {B F b1 b2 b4:Nat} {A:Option Addr} {c:Nat} {g:List (List Int)} {s:St} {vs vk:Value} {W W1:World}
theorem FS.nF1 (h:FS B F b1 b2 b4 A c g s vs vk W):F≠b1:=a7Q h.f h.x qF0
theorem FS.nF2 (h:FS B F b1 b2 b4 A c g s vs vk W):F≠b2:=a7Q h.f h.l qF0
theorem FS.nF4 (h:FS B F b1 b2 b4 A c g s vs vk W):F≠b4:=a7Q h.f h.o qF0
theorem FS.n14 (h:FS B F b1 b2 b4 A c g s vs vk W):b1≠b4:=a7Q h.x h.o qF0
theorem FS.n24 (h:FS B F b1 b2 b4 A c g s vs vk W):b2≠b4:=a7Q h.l h.o qF0
theorem FS.nsF (h:FS B F b1 b2 b4 A c g s vs vk W):some F≠vs.ownBlock:=Kd.R_ne h.st h.f qF0
theorem FS.ns4 (h:FS B F b1 b2 b4 A c g s vs vk W):some b4≠vs.ownBlock:=Kd.R_ne h.st h.o qF0
theorem FS.ns1 (h:FS B F b1 b2 b4 A c g s vs vk W):some b1≠vs.ownBlock:=fun e =>(h.st.1 b1 e.symm).1 rfl
theorem FS.ns2 (h:FS B F b1 b2 b4 A c g s vs vk W):some b2≠vs.ownBlock:=fun e =>(h.st.1 b2 e.symm).2 rfl
theorem FS.below (h:FS B F b1 b2 b4 A c g s vs vk W) (hb:Below W.heap.size W W1):FS B F b1 b2 b4 A c g s vs vk W1 :=
 ⟨a0P h.f hb,a0P h.x hb,a0P h.l hb,a0P h.o hb,Kd.a3U h.st hb,Kd.a2B h.kn hb,Kd.a1Z h.gF hb,h.b,h.ne⟩
theorem FS.far (h:FS B F b1 b2 b4 A c g s vs vk W) (q i:Nat) (hq:q = F∨q = b1∨q = b2∨q = b4) (u:Value) :
  kI.R 3 (W.setCell ⟨q,i,none⟩ u) B (fun k =>k≠b1∧k≠b2) vs (toI s.stack) ∧
  Kd.N kL 43 (W.setCell ⟨q,i,none⟩ u) B (fun k =>B≤k∧k≠F∧k≠b1∧k≠b2∧k≠b4∧some k≠vs.ownBlock) vk (s.knots.map toI) ∧
  Kd.F kL (W.setCell ⟨q,i,none⟩ u) (fun k =>k < B) A g.length g∧Below B W (W.setCell ⟨q,i,none⟩ u):=by
 have hb:=h.b;have hn:some q≠vs.ownBlock:=by
  rcases hq with rfl | rfl | rfl | rfl
  ·exact h.nsF
  ·exact h.ns1
  ·exact h.ns2
  ·exact h.ns4
 have hge:B≤q:=by rcases hq with rfl | rfl | rfl | rfl <;> omega
 refine ⟨Kd.a2W (Kd.b4D (p:=⟨q,i,none⟩) (Kd.a2W (Kd.a6P (ok:=fun k =>some k = vs.ownBlock) rfl h.st (fun k hk =>hk.symm)) (fun _ hk =>hk)) (fun k hk e =>hn (by rw [← hk];exact congrArg some e.symm)) u) (fun k hk =>h.st.1 k hk.symm),
  Kd.c3Z (p:=⟨q,i,none⟩) h.kn (fun k hk e =>?_) u,Kd.b0B (p:=⟨q,i,none⟩) h.gF (fun k hk e =>?_) u,(zL0 B W).setCell (p:=⟨q,i,none⟩) hge u⟩
 ·obtain ⟨_,k1,k2,k3,k4,_⟩:=hk;have e':k = q:=e;subst e';rcases hq with rfl | rfl | rfl | rfl
  ·exact k1 rfl
  ·exact k2 rfl
  ·exact k3 rfl
  ·exact k4 rfl
 ·have e':k = q:=e;omega
theorem FS.setNext (h:FS B F b1 b2 b4 A c g s vs vk W) (v:Nat):FS B F b1 b2 b4 A c g { s with next:=v } vs vk (W.setCell ⟨F,5,none⟩ (.int .i64 (v:Nat))):=by
 obtain ⟨a1,a2,a3,_⟩:=h.far F 5 (.inl rfl) (.int .i64 (v:Nat));exact ⟨a3G h.f 5 _ rfl,a2K h.x (Ne.symm h.nF1) _,a2K h.l (Ne.symm h.nF2) _,a2K h.o (Ne.symm h.nF4) _,a1,a2,a3,h.b,h.ne⟩
theorem FS.setIndex (h:FS B F b1 b2 b4 A c g s vs vk W) (n v:Nat):FS B F b1 b2 b4 A c g { s with index:=Tarj.upd s.index n v } vs vk (W.setCell ⟨b1,n,none⟩ (.int .i64 (v:Nat))):=by
 obtain ⟨a1,a2,a3,_⟩:=h.far b1 n (.inr (.inl rfl)) (.int .i64 (v:Nat));exact ⟨a2K h.f h.nF1 _,a3G h.x n _ (a6W _ _ _ _),a2K h.l (Ne.symm h.ne) _,a2K h.o (Ne.symm h.n14) _,a1,a2,a3,h.b,h.ne⟩
theorem FS.setLow (h:FS B F b1 b2 b4 A c g s vs vk W) (n v:Nat):FS B F b1 b2 b4 A c g { s with low:=Tarj.upd s.low n v } vs vk (W.setCell ⟨b2,n,none⟩ (.int .i64 (v:Nat))):=by
 obtain ⟨a1,a2,a3,_⟩:=h.far b2 n (.inr (.inr (.inl rfl))) (.int .i64 (v:Nat));exact ⟨a2K h.f h.nF2 _,a2K h.x h.ne _,a3G h.l n _ (a6W _ _ _ _),a2K h.o (Ne.symm h.n24) _,a1,a2,a3,h.b,h.ne⟩
theorem FS.setOn (h:FS B F b1 b2 b4 A c g s vs vk W) (n:Nat) (v:Bool):FS B F b1 b2 b4 A c g { s with on:=Tarj.upd s.on n v } vs vk (W.setCell ⟨b4,n,none⟩ (.bool v)):=by
 obtain ⟨a1,a2,a3,_⟩:=h.far b4 n (.inr (.inr (.inr rfl))) (.bool v);exact ⟨a2K h.f h.nF4 _,a2K h.x h.n14 _,a2K h.l h.n24 _,a3G h.o n _ (bls_set _ _ _ _),a1,a2,a3,h.b,h.ne⟩
theorem FS.setStack (h:FS B F b1 b2 b4 A c g s vs vk W) {vs1:Value} {st1:List Nat} (hr:kI.R 3 W1 B (fun k =>k≠b1∧k≠b2) vs1 (toI st1)) (hg:W.grownBy W1 vs.ownBlock) (hat:vs1.ownBlock = vs.ownBlock∨∃ b,vs1.ownBlock = some b∧W.heap.size≤b) (hbb:Below B W W1) :
  FS B F b1 b2 b4 A c g { s with stack:=st1 } vs1 vk (W1.setCell ⟨F,3,none⟩ vs1)∧Below B W (W1.setCell ⟨F,3,none⟩ vs1):=by
 have hb:=h.b;have hf:=a1S h.f hg h.nsF;have n1:some F≠vs1.ownBlock:=Kd.R_ne hr hf qF0;have hk:Kd.N kL 43 W1 B (fun k =>B≤k∧k≠F∧k≠b1∧k≠b2∧k≠b4∧some k≠vs1.ownBlock) vk (s.knots.map toI) :=
  Kd.a3Q (Kd.c4A (ok:=fun k =>B≤k∧k≠F∧k≠b1∧k≠b2∧k≠b4) (Kd.a3Q h.kn (fun k hk =>⟨⟨hk.1,hk.2.1,hk.2.2.1,hk.2.2.2.1,hk.2.2.2.2.1⟩,hk.2.2.2.2.2⟩)) hg hat) (fun k hk =>⟨hk.1.1,hk.1.2.1,hk.1.2.2.1,hk.1.2.2.2.1,hk.1.2.2.2.2,hk.2⟩)
 have hgF:Kd.F kL W1 (fun k =>k < B) A g.length g:=Kd.a6A h.gF (fun k hk _ =>hbb.block k hk);refine ⟨⟨a3G hf 3 _ rfl,a2K (a1S h.x hg h.ns1) (Ne.symm h.nF1) _,a2K (a1S h.l hg h.ns2) (Ne.symm h.nF2) _,a2K (a1S h.o hg h.ns4) (Ne.symm h.nF4) _,?_,Kd.c3Z (p:=⟨F,3,none⟩) hk (fun k hk =>hk.2.1) _,Kd.b0B (p:=⟨F,3,none⟩) hgF (fun k hk e =>by (have e':k = F:=e);omega) _,h.b,h.ne⟩,hbb.setCell (p:=⟨F,3,none⟩) hb.1 _⟩;exact Kd.a2W (Kd.b4D (p:=⟨F,3,none⟩) (Kd.a6P (ok:=fun k =>some k = vs1.ownBlock) rfl hr (fun k hk =>hk.symm)) (fun k hk e =>n1 (by rw [← hk];exact congrArg some (show F = k from e.symm))) _) (fun k hk =>hr.1 k hk.symm)
theorem FS.setKnots (h:FS B F b1 b2 b4 A c g s vs vk W) {vk1:Value} {kn1:List (List Nat)} (hk:Kd.N kL 43 W1 B (fun k =>B≤k∧k≠F∧k≠b1∧k≠b2∧k≠b4∧some k≠vs.ownBlock) vk1 (kn1.map toI)) (hg:W.grownBy W1 vk.ownBlock) (hbb:Below B W W1) :
  FS B F b1 b2 b4 A c g { s with knots:=kn1 } vs vk1 (W1.setCell ⟨F,6,none⟩ vk1)∧Below B W (W1.setCell ⟨F,6,none⟩ vk1):=by
 have hb:=h.b;have m1:∀ q,(q = F∨q = b1∨q = b2∨q = b4)→some q≠vk.ownBlock:=fun q hq e =>by
  obtain ⟨_,k1,k2,k3,k4,_⟩:=h.kn.1 q e.symm;rcases hq with rfl | rfl | rfl | rfl
  ·exact k1 rfl
  ·exact k2 rfl
  ·exact k3 rfl
  ·exact k4 rfl
 have hf:=a1S h.f hg (m1 F (.inl rfl));have hst:kI.R 3 W1 B (fun k =>k≠b1∧k≠b2) vs (toI s.stack):=Kd.a2W (Kd.c3U (Kd.a6P (ok:=fun k =>some k = vs.ownBlock) rfl h.st (fun k hk =>hk.symm)) hg (fun k hk e =>(h.kn.1 k e.symm).2.2.2.2.2 hk)) (fun k hk =>h.st.1 k hk.symm);have hgF:Kd.F kL W1 (fun k =>k < B) A g.length g:=Kd.a6A h.gF (fun k hk _ =>hbb.block k hk);refine ⟨⟨a3G hf 6 _ rfl,a2K (a1S h.x hg (m1 b1 (.inr (.inl rfl)))) (Ne.symm h.nF1) _,a2K (a1S h.l hg (m1 b2 (.inr (.inr (.inl rfl))))) (Ne.symm h.nF2) _,a2K (a1S h.o hg (m1 b4 (.inr (.inr (.inr rfl))))) (Ne.symm h.nF4) _,?_,Kd.c3Z (p:=⟨F,6,none⟩) hk (fun k hk =>hk.2.1) _,Kd.b0B (p:=⟨F,6,none⟩) hgF (fun k hk e =>by (have e':k = F:=e);omega) _,h.b,h.ne⟩,hbb.setCell (p:=⟨F,6,none⟩) hb.1 _⟩;exact Kd.a2W (Kd.b4D (p:=⟨F,6,none⟩) (Kd.a6P (ok:=fun k =>some k = vs.ownBlock) rfl hst (fun k hk =>hk.symm)) (fun k hk e =>h.nsF (by rw [← hk];exact congrArg some (show F = k from e.symm))) _) (fun k hk =>h.st.1 k hk.symm)
theorem FS.cf (h:FS B F b1 b2 b4 A c g s vs vk W):(W.cell? ⟨F,0,none⟩ = some (.slice A g.length c)∧W.cell? ⟨F,1,none⟩ = some (.slice (some ⟨b1,0,none⟩) g.length g.length)∧W.cell? ⟨F,2,none⟩ = some (.slice (some ⟨b2,0,none⟩) g.length g.length)∧W.cell? ⟨F,3,none⟩ = some vs∧W.cell? ⟨F,4,none⟩ = some (.slice (some ⟨b4,0,none⟩) g.length g.length)∧W.cell? ⟨F,5,none⟩ = some (.int .i64 (s.next:Nat))∧W.cell? ⟨F,6,none⟩ = some vk) ∧
  (W.frozen? ⟨F,3,none⟩ = false∧W.frozen? ⟨F,5,none⟩ = false∧W.frozen? ⟨F,6,none⟩ = false) :=
 ⟨⟨(a0L h.f 0).trans rfl,(a0L h.f 1).trans rfl,(a0L h.f 2).trans rfl,(a0L h.f 3).trans rfl,(a0L h.f 4).trans rfl,(a0L h.f 5).trans rfl,(a0L h.f 6).trans rfl⟩,a0Q h.f 3,a0Q h.f 5,a0Q h.f 6⟩
theorem FS.cn (h:FS B F b1 b2 b4 A c g s vs vk W) {n:Nat} (hn:n < g.length):(W.cell? ⟨b1,n,none⟩ = some (.int .i64 (s.index n:Nat))∧W.cell? ⟨b2,n,none⟩ = some (.int .i64 (s.low n:Nat))∧W.cell? ⟨b4,n,none⟩ = some (.bool (s.on n))) ∧
  (W.frozen? ⟨b1,n,none⟩ = false∧W.frozen? ⟨b2,n,none⟩ = false∧W.frozen? ⟨b4,n,none⟩ = false) :=
 ⟨⟨(a0L h.x n).trans (a3K _ hn),(a0L h.l n).trans (a3K _ hn),(a0L h.o n).trans (bls_get _ hn)⟩,a0Q h.x n,a0Q h.l n,a0Q h.o n⟩
end
def cnt (N:Nat) (s:St):Nat:=s.next + whites N s
def tot (s:St):Nat:=s.knots.flatten.length + s.stack.length
theorem a9Q {N:Nat} {s:St} {n:Nat} (hn:n < N) (h0:s.index n = 0):whites N (enterF n s) + 1 = whites N s:=by
 unfold whites;have key:∀ l:List Nat,l.Nodup→(n ∈ l→l.countP (fun x =>decide ((enterF n s).index x = 0)) + 1 = l.countP (fun x =>decide (s.index x = 0)))∧(n ∉ l→l.countP (fun x =>decide ((enterF n s).index x = 0)) = l.countP (fun x =>decide (s.index x = 0))):=by
  intro l
  induction l with
  | nil =>intro _;exact ⟨fun h =>(by cases h),fun _ =>rfl⟩
  | cons a r ih =>
   intro hd;obtain ⟨hd1,hd2⟩:=List.nodup_cons.1 hd;obtain ⟨i1,i2⟩:=ih hd2;simp only [List.countP_cons];refine ⟨fun hm =>?_,fun hm =>?_⟩
   ·by_cases ha:a = n
    ·subst ha;rw [i2 hd1];simp [enterF,Tarj.upd,h0]
    ·have:=i1 ((zS0.1 hm).resolve_left (fun e =>ha e.symm));simp only [enterF,Tarj.upd,if_neg ha] at this ⊢;omega
   ·have ha:a≠n:=fun e =>hm (e ▸ zU0)
    have:=i2 (fun h =>hm (zV0 _ h));simp only [enterF,Tarj.upd,if_neg ha] at this ⊢;omega
 exact (key _ List.nodup_range).1 (zZ0.2 hn)
theorem a8R (l:List Nat):(sortN l).length = l.length:=List.length_mergeSort _
theorem b8G (n:Nat) (s:St):tot (knotF n s) = tot s∧(knotF n s).next = s.next∧(knotF n s).index = s.index:=by
 refine ⟨?_,rfl,rfl⟩;simp only [tot,knotF,List.flatten_append,zQ0,List.flatten_cons,List.flatten_nil,zU1,a8R,zI1,zB2];have:=List.idxOf_le_length (a:=n) (l:=s.stack);omega
theorem b0V {adj:Nat→List Nat} {N:Nat} (hN:∀ x,x < N→∀ y,y ∈ adj x→y < N):∀ (k:Nat) (n:Nat) (s:St),n < N→s.index n = 0→cnt N (visitF adj k n s) = cnt N s∧(tot s = s.next→tot (visitF adj k n s) = (visitF adj k n s).next):=by
 intro k
 induction k with
 | zero =>intro n s _ _;exact ⟨rfl,fun h =>h⟩
 | succ k ih =>
  intro n s hn h0;have fold:∀ (l:List Nat) (t:St),(∀ y,y ∈ l→y < N)→cnt N (l.foldl (stepF (visitF adj k) n) t) = cnt N t∧(tot t = t.next→tot (l.foldl (stepF (visitF adj k) n) t) = (l.foldl (stepF (visitF adj k) n) t).next):=by
   intro l
   induction l with
   | nil =>intro t _;exact ⟨rfl,fun h =>h⟩
   | cons m r ihl =>
    intro t hl;obtain ⟨a,b⟩:=ihl (stepF (visitF adj k) n t m) (fun y hy =>hl y (zV0 _ hy));have hs:cnt N (stepF (visitF adj k) n t m) = cnt N t∧(tot t = t.next→tot (stepF (visitF adj k) n t m) = (stepF (visitF adj k) n t m).next):=by
     unfold stepF
     split
     ·next hm =>
      obtain ⟨c1,c3⟩:=ih m t (hl m zU0) hm;exact ⟨c1,c3⟩
     ·split <;> exact ⟨rfl,fun h =>h⟩
    exact ⟨a.trans hs.1,fun h =>b (hs.2 h)⟩
  obtain ⟨a,b⟩:=fold (adj n) (enterF n s) (fun y hy =>hN n hn y hy);have he:cnt N (enterF n s) = cnt N s:=by
   have:=a9Q hn h0;unfold cnt;show s.next + 1 + _ = _;omega
  have ht:tot s = s.next→tot (enterF n s) = (enterF n s).next:=fun h =>by
   simp only [tot,enterF,zQ0,zX0,zN1] at h ⊢;omega
  obtain ⟨t,htt⟩:∃ t,t = (adj n).foldl (stepF (visitF adj k) n) (enterF n s):=⟨_,rfl⟩;have hv:visitF adj (k + 1) n s = leaveF n t:=by rw [htt];rfl
  rw [← htt] at a b;have hl1:cnt N (leaveF n t) = cnt N t:=by
   unfold leaveF;split
   ·obtain ⟨_,q2,q3⟩:=b8G n t;unfold cnt whites;rw [q2,q3]
   ·rfl
  have hl2:tot t = t.next→tot (leaveF n t) = (leaveF n t).next:=fun h =>by
   unfold leaveF;split
   ·obtain ⟨q1,q2,_⟩:=b8G n t;rw [q1,q2,h]
   ·exact h
  rw [hv];exact ⟨hl1.trans (a.trans he),fun h =>hl2 (b (ht h))⟩
open Go.Shelf Go.Proofs.YthhgfncliffggaaGreatW.PrintMore
theorem b9T (l:List Int) (A:Option Addr) (c:Nat) (w:World) (hC:kI.C w A l.length l) (hl:l.length≤1000000000) :
  Calls Tryz.prog 103 #[.slice A l.length c] w fun e w' =>∃ v',e = .returned v'∧w'.ownsRow w.heap.size 3 1 v' l.length (l.map (Value.int .i64))∧Below w.heap.size w w':=by
 cases A with
 | none =>
  have hy:l = []:=by
   rcases zS1 l.length with h0 | h0
   ·exact List.length_eq_zero_iff.1 h0
   ·obtain ⟨ad,e,_⟩:=Kd.a2R hC 0 qD0 qD0;cases e
  subst hy;refine (Tryz.slices_Clone_int_nil 0 c w).mono ?_;rintro e w' ⟨rfl,rfl⟩;exact ⟨_,rfl,World.ownsRow_nil _ _ _ _,zL0 _ _⟩
 | some ad =>
  rcases zS1 l.length with h0 | h0
  ·have hy:l = []:=List.length_eq_zero_iff.1 h0;subst hy;refine (Tryz.slices_Clone_int_zero ad c w).mono ?_;rintro e w' ⟨v',rfl,h1,_,hb⟩;exact ⟨v',rfl,h1,hb⟩
  ·have hall:∀ j,j < l.length→w.cell? (ad.add j) = some (.int .i64 (l.getD j 0)):=by
    intro j hj;obtain ⟨ad',e,hc⟩:=Kd.a2R hC (j:Int) (zJ0 j) (zG1.2 hj);cases e;rw [zP0] at hc;rw [hc];unfold rd;rw [zP0]
   have hsp:ad.spot = none:=World.cell?_spot (hall 0 h0);obtain ⟨b,off,sp⟩:=ad;simp only at hsp;subst hsp;refine (Tryz.slices_Clone_int b off l.length c l w (zM0 _) qD0 (fun j hj =>by rw [← a5N];exact hall j hj)).mono ?_;rintro e w' ⟨v',rfl,h1,_,hb⟩;rw [zH1] at h1;exact ⟨v',rfl,h1,hb⟩
theorem a7I (l:List Nat) (j:Nat) (h:j < l.length):(toI l).getD j 0 = (l[j]:Int):=by
 simp [toI,zK0,h]
theorem a1U (l:List Nat):(toI l).length = l.length:=zP1 _
theorem c2P (l:List Nat) (n:Nat) (h:n ∈ l):Go.Lib.idxOf (toI l) (n:Int) = (l.idxOf n:Nat):=by
 have hlt:=List.idxOf_lt_length_of_mem h
 have:=Go.Lib.idxOf_hit (toI l) (toI l).length (l.idxOf n) (n:Int) (by rw [a1U];exact hlt) (zM0 _) (by rw [a7I _ _ hlt,List.getElem_idxOf]) (fun j hj e =>by
  rw [a7I _ _ qD0] at e;have:=List.not_of_lt_findIdx (p:=(· == n)) (xs:=l) (i:=j) hj;have e':l[j]'qD0 = n:=by exact_mod_cast e
  simp [e'] at this)
 rwa [zH1] at this
theorem b9O (l:List Nat) (n:Nat) (hn:n ∈ l) (A:Option Addr) (c:Nat) (w:World) (hC:kI.C w A (toI l).length (toI l)) (hl:l.length≤1000000000) :
  Calls Tryz.prog 102 #[.slice A (toI l).length c,.int .i64 (n:Nat)] w fun e w' =>e = .returned (.int .i64 (l.idxOf n:Nat))∧w' = w:=by
 have h0:0 < (toI l).length:=by rw [a1U];exact List.length_pos_of_mem hn
 obtain ⟨ad,e,_⟩:=Kd.a2R hC 0 qD0 qD0;subst e;have hall:∀ j,j < (toI l).length→w.cell? (ad.add j) = some (.int .i64 ((toI l).getD j 0)):=by
  intro j hj;obtain ⟨ad',e,hc⟩:=Kd.a2R hC (j:Int) (zJ0 j) (zG1.2 hj);cases e;rw [zP0] at hc;rw [hc];unfold rd;rw [zP0]
 have hsp:ad.spot = none:=World.cell?_spot (hall 0 h0);obtain ⟨b,off,sp⟩:=ad;simp only at hsp;subst hsp;refine (Tryz.slices_Index_int b off (toI l).length c (toI l) n w (zM0 _) qT2 (fun j hj =>by rw [← a5N];exact hall j hj)).mono ?_;rintro e w' ⟨rfl,rfl⟩;rw [zH1,c2P l n hn];exact ⟨rfl,rfl⟩
theorem b3F (l:List Nat):srt (toI l) = toI (sortN l):=by
 unfold srt toI sortN;rw [List.map_mergeSort];intro a _ b _;simp
theorem b1K:(Tryz.prog.info? 3).map (fun i =>(i.zero,i.size,i.bytes)) = some (some (.int .i64 0),1,8):=by kernel_rfl
theorem infoL:(Tryz.prog.info? 43).map (fun i =>(i.zero,i.size,i.bytes)) = some (some (.slice none 0 0),1,24):=by kernel_rfl
structure FSN (N B F b1 b2 b4:Nat) (A:Option Addr) (c:Nat) (g:List (List Int)) (s:St) (vs vk:Value) (W:World):Prop where
 h:FS B F b1 b2 b4 A c g s vs vk W
 kn:Kd.N kL 43 W B (fun k =>(B≤k∧k≠F∧k≠b1∧k≠b2∧k≠b4∧some k≠vs.ownBlock)∧k < N) vk (s.knots.map toI)
 lt:F < N∧b1 < N∧b2 < N∧b4 < N
 sl:∀ k,vs.ownBlock = some k→k < N
 bn:B≤N
section
variable {N B F b1 b2 b4:Nat} {A:Option Addr} {c:Nat} {g:List (List Int)} {s:St} {vs vk:Value} {W W1:World}
theorem FS.lay (h:FS B F b1 b2 b4 A c g s vs vk W) (hb:Below W.heap.size W W1) (hB:B≤W.heap.size):FSN W.heap.size B F b1 b2 b4 A c g s vs vk W1 :=
 ⟨h.below hb,Kd.N_old h.kn hb,⟨a1J h.f,a1J h.x,a1J h.l,a1J h.o⟩,fun k hk =>by
  obtain ⟨cells,hc⟩:=a2T (Kd.a3A h.st) k hk
  exact a1J hc,hB⟩
theorem FSN.setOn (h:FSN N B F b1 b2 b4 A c g s vs vk W) (n:Nat) (v:Bool):FSN N B F b1 b2 b4 A c g { s with on:=Tarj.upd s.on n v } vs vk (W.setCell ⟨b4,n,none⟩ (.bool v)) :=
 ⟨h.h.setOn n v,Kd.c3Z (p:=⟨b4,n,none⟩) h.kn (fun k hk e =>hk.1.2.2.2.2.1 e) _,h.lt,h.sl,h.bn⟩
theorem FSN.cut {b3 cap m:Nat} (h:FSN N B F b1 b2 b4 A c g s (.slice (some ⟨b3,0,none⟩) (toI s.stack).length cap) vk W) (hm:m≤s.stack.length) :
  FSN N B F b1 b2 b4 A c g { s with stack:=s.stack.take m } (.slice (some ⟨b3,0,none⟩) m cap) vk (W.setCell ⟨F,3,none⟩ (.slice (some ⟨b3,0,none⟩) m cap)):=by
 have ho:=b0G (Kd.a3A h.h.st) (show m≤(toI s.stack).length by rw [a1U];exact hm);have hr:kI.R 3 W B (fun k =>k≠b1∧k≠b2) (.slice (some ⟨b3,0,none⟩) m cap) (toI (s.stack.take m)) :=
  Kd.a3Z (by
   have hl:(toI (s.stack.take m)).length = m:=by rw [a1U,zI1];omega
   rw [hl];have he:encs (Value.int .i64) (toI (s.stack.take m)) = (encs (Value.int .i64) (toI s.stack)).take (m * 1):=by simp [encs,toI,List.map_take]
   rw [he];exact ho) (fun k hk =>h.h.st.1 k (by simpa [Value.ownBlock] using hk))
 obtain ⟨h1,_⟩:=h.h.setStack hr ⟨rfl,rfl,rfl,zM0 _,fun _ _ _ =>rfl⟩ (.inl rfl) (zL0 _ _);exact ⟨h1,Kd.c3Z (p:=⟨F,3,none⟩) (Kd.a3Q h.kn (fun k hk =>⟨⟨hk.1.1,hk.1.2.1,hk.1.2.2.1,hk.1.2.2.2.1,hk.1.2.2.2.2.1,by simpa [Value.ownBlock] using hk.1.2.2.2.2.2⟩,hk.2⟩)) (fun k hk e =>hk.1.2.1 e) _,h.lt,fun k hk =>h.sl k (by simpa [Value.ownBlock] using hk),h.bn⟩
theorem FSN.step (h:FSN N B F b1 b2 b4 A c g s vs vk W) (hk:∀ k,k < N→W1.heap[k]? = W.heap[k]?):FSN N B F b1 b2 b4 A c g s vs vk W1 :=
 ⟨⟨(hk F h.lt.1).trans h.h.f,(hk b1 h.lt.2.1).trans h.h.x,(hk b2 h.lt.2.2.1).trans h.h.l,(hk b4 h.lt.2.2.2).trans h.h.o,
  Kd.a2W (Kd.a9X (Kd.a6P (ok:=fun k =>some k = vs.ownBlock) rfl h.h.st (fun k hk =>hk.symm)) (fun k ho _ =>hk k (h.sl k ho.symm))) (fun k hk =>h.h.st.1 k hk.symm),
  Kd.a3Q (Kd.b1X h.kn (fun k ho _ =>hk k ho.2)) (fun _ hk =>hk.1),Kd.a6A h.h.gF (fun k hq _ =>hk k (zJ1 hq h.bn)),h.h.b,h.h.ne⟩,
  Kd.b1X h.kn (fun k ho _ =>hk k ho.2),h.lt,h.sl,h.bn⟩
end
def offs (f:Nat→Bool) (l:List Nat) (j:Nat):Nat→Bool:=fun x =>if x ∈ l.take j then false else f x
theorem c1T (f:Nat→Bool) (l:List Nat):offs f l 0 = f:=by funext x;simp [offs]
theorem offs_all (f:Nat→Bool) (l:List Nat):offs f l l.length = fun x =>if x ∈ l then false else f x:=by funext x;simp [offs]
theorem c1U (f:Nat→Bool) (l:List Nat) (j:Nat) (h:j < l.length):offs f l (j + 1) = Tarj.upd (offs f l j) l[j] false:=by
 funext x
 simp only [offs,Tarj.upd,zW0 h,zY0,zD1];by_cases hx:x = l[j]
 ·simp [hx]
 ·simp [hx]
attribute [local go_sem] Oper.semAt_some
theorem pzK (n:Nat) (h:n≤1000):wrap64 ((n:Int) + 1) = ((n + 1:Nat):Int):=by simp only [wrap64];omega
structure KL (N B F b1 b2 b4:Nat) (A:Option Addr) (c:Nat) (g:List (List Int)) (s:St) (l:List Nat) (vs vk v5:Value) (W0:World) (j:Nat) (W:World):Prop where
 fs:FSN N B F b1 b2 b4 A c g { s with on:=offs s.on l j } vs vk W
 own:W.ownsRow N 3 1 v5 l.length ((toI l).map (Value.int .i64))
 be:Below B W0 W
 n:N≤W.heap.size
theorem own_FK {W:World} {N g5 c5 n:Nat} {xs:List Int} (h:W.ownsRow N 3 1 (.slice (some ⟨g5,0,none⟩) n c5) n (xs.map (Value.int .i64))) (hn:xs.length = n) (hc:n≤c5) :
  Kd.FK kL W (fun k =>k = g5) xs [.slice (some ⟨g5,0,none⟩) n c5]:=by
 subst hn;exact Kd.b7M hc (Kd.N_F (Kd.R_N (base:=N) (e:=3) (ok:=fun k =>k = g5) (Kd.a3Z h (fun k hk =>by simp only [Value.ownBlock,Option.some.injEq] at hk;exact hk.symm))))
theorem okp_g5 {N B F b1 b2 b4:Nat} {A:Option Addr} {c:Nat} {g:List (List Int)} {s:St} {vs vk:Value} {W:World} {g5 c5 n:Nat} {xs:List Value} (h:FSN N B F b1 b2 b4 A c g s vs vk W) (ho:W.ownsRow N 3 1 (.slice (some ⟨g5,0,none⟩) n c5) n xs) :
  ∀ k,k = g5→(B≤k∧k≠F∧k≠b1∧k≠b2∧k≠b4∧some k≠vs.ownBlock)∧some k≠vk.ownBlock:=by
 rintro k rfl;have h0:N≤k:=a2M ho k rfl;obtain ⟨l1,l2,l3,l4⟩:=h.lt;have hb:=h.bn;refine ⟨⟨by omega,by omega,by omega,by omega,by omega,fun e =>?_⟩,fun e =>?_⟩
 ·have:=h.sl k e.symm;omega
 ·have:=(h.kn.1 k e.symm).2;omega
theorem b8J {N B F b1 b2 b4:Nat} {A:Option Addr} {c:Nat} {g:List (List Int)} {s:St} {vs vk:Value} {W:World} (h:FSN N B F b1 b2 b4 A c g s vs vk W) :
  ∀ k,W.heap.size≤k→B≤k∧k≠F∧k≠b1∧k≠b2∧k≠b4∧some k≠vs.ownBlock:=by
 intro k hk;have hF:=a1J h.h.f;have h1:=a1J h.h.x;have h2:=a1J h.h.l;have h4:=a1J h.h.o;have hb:=h.h.b;refine ⟨by omega,by omega,by omega,by omega,by omega,fun e =>?_⟩;obtain ⟨cells,hc⟩:=a2T (Kd.a3A h.h.st) k e.symm;have:=a1J hc;omega
theorem knot_any (g:List (List Int)) (A:Option Addr) (c B F b1 b2 b4:Nat) (s:St) (n:Nat) (vs vk:Value) (W:World)
  (hfs:FS B F b1 b2 b4 A c g s vs vk W) (hn:n ∈ s.stack) (hlt:∀ x,x ∈ s.stack→x < g.length) (hs:s.stack.length≤1000) (hk:s.knots.length≤1000) (hB:B≤W.heap.size) :
  Calls Tryz.prog 75 #[.pointer (some ⟨F,0,none⟩),.int .i64 (n:Nat)] W fun e W' =>e = .returned (.tuple #[])∧(∃ vs' vk',FS B F b1 b2 b4 A c g (knotF n s) vs' vk' W')∧Below B W W':=by
 have hpos:0 < (toI s.stack).length:=by rw [a1U];exact List.length_pos_of_mem hn
 obtain ⟨b3,cap,rfl,hcap⟩:∃ b3 cap,vs = .slice (some ⟨b3,0,none⟩) (toI s.stack).length cap∧(toI s.stack).length≤cap:=by
  rcases (Kd.a3A hfs.st).2 with ⟨_,h0⟩ | ⟨g',cap',cur,hv,_,_,hnc,_⟩
  ·omega
  ·exact ⟨g',cap',hv,hnc⟩
 obtain ⟨a,ha⟩:∃ a,a = s.stack.idxOf n:=⟨_,rfl⟩;have halt:a < s.stack.length:=ha ▸ List.idxOf_lt_length_of_mem hn;obtain ⟨l,hl⟩:∃ l,l = s.stack.drop a:=⟨_,rfl⟩;have hll:l.length = s.stack.length - a:=by rw [hl,zB2]
 have hCs:kI.C W (some ⟨b3,0,none⟩) (toI s.stack).length (toI s.stack):=by
  obtain ⟨A',c',e,_,h⟩:=Kd.a4E hfs.st;injection e with e1 _ _
  rw [e1];exact h
 obtain ⟨i3,hi3,hi3s⟩:=zF1.1 b1K;obtain ⟨A1,hcut,hcr,hcl⟩:=b3O (P:=Tryz.prog) (k:=.i64) 43 3 Tryz.underlying43 hi3 qW2 (some ⟨b3,0,none⟩) cap (toI s.stack) (a:Int) (zJ0 a) qT2 hcap;obtain ⟨htk,_,_⟩:=a7Z (P:=Tryz.prog) (k:=.i64) 43 3 Tryz.underlying43 hi3 qW2 (some ⟨b3,0,none⟩) cap (toI s.stack) (a:Int) (zJ0 a) qT2 hcap;have hdr:(toI s.stack).drop ((a:Int)).toNat = toI l:=by rw [zP0,hl];simp [toI,List.map_drop]
 have htl:((toI s.stack).take ((a:Int)).toNat).length = a:=by rw [zP0,zI1,a1U];omega
 rw [hdr] at hcut hcr hcl;rw [htl] at htk;rw [zP0] at hcut hcl;have hCl:kI.C W A1 (toI l).length (toI l):=Kd.a6R (d:=(0:Int)) (hcr W (Kd.a6K (d:=(0:Int)) hCs));have hidx:=b9O s.stack n hn (some ⟨b3,0,none⟩) cap W hCs qD0;rw [← ha] at hidx;have hclone:=b9T (toI l) A1 (cap - a) W hCl qT2;have HIDX:=zA0 hidx;have HCLONE:=zA0 hclone;have FS0:=zA0 hfs;have HCS:=zA0 hCs;have HHA:=zA0 ha;have HHL:=zA0 hl;have HLT:=zA0 (show ∀ x,x ∈ l→x < g.length from fun x hx =>hlt x (List.mem_of_mem_drop (hl ▸ hx)));have HB:=zA0 hB;have HHK:=zA0 hk;have HAL:=zA0 halt;have hlp:0 < (toI l).length:=by rw [a1U];omega
 have hl1:l.length≤1000:=by omega
 obtain ⟨n3,hn3⟩:∃ m,m = (toI s.stack).length:=⟨_,rfl⟩;have ck:=hfs.cf;rw [← hn3] at hcut htk ck HIDX hcap;rw [a1U] at hcut hlp HCLONE hcl;clear hidx hclone hfs hCs hCl hcr hlt hB hk hn ha hl hi3 hi3s hdr htl hpos halt hll;have HN3:=zA0 hn3;clear hn3;go_enter Tryz.func75,Tryz.ntmps75
 go_upto_region 1 with (first
  | (go_at_call 102;with_reducible refine HIDX.out.mono ?_;rintro x w1 ⟨rfl,hw1⟩;obtain rfl:W = w1:=hw1.symm))
 go_upto_region 2 with (first
  | (go_at_call 103;with_reducible refine HCLONE.out.mono ?_;rintro x w2 ⟨v5,rfl,hown,hb5⟩;have HOWN:=zA0 hown;have HB5:=zA0 hb5;have FS1:=zA0 (FS0.out.lay hb5 HB.out);clear hown hb5 ck))
 have ck:=FS1.out.h.cf;rw [← HN3.out] at ck;go_upto_region 3 with (fail)
 have fs2:FSN W.heap.size B F b1 b2 b4 A c g { s with stack:=s.stack.take a } (.slice (some ⟨b3,0,none⟩) a cap) vk (w2.setCell ⟨F,3,none⟩ (.slice (some ⟨b3,0,none⟩) a cap)):=FS1.out.cut (zZ1 HAL.out)
 have ho2:(w2.setCell ⟨F,3,none⟩ (.slice (some ⟨b3,0,none⟩) a cap)).ownsRow W.heap.size 3 1 v5 l.length ((toI l).map (Value.int .i64)):=a5A HOWN.out (fun k hk =>Below.heap_setCell _ _ _ _ (fun e =>by
  have h1:W.heap.size≤k:=a2M HOWN.out k hk;have h2:=FS1.out.lt.1;have h3:k = F:=e
  omega))
 have hb2:Below B W (w2.setCell ⟨F,3,none⟩ (.slice (some ⟨b3,0,none⟩) a cap)):=(HB5.out.mono HB.out).setCell (p:=⟨F,3,none⟩) FS1.out.h.b.1 _;have hn2:W.heap.size≤(w2.setCell ⟨F,3,none⟩ (.slice (some ⟨b3,0,none⟩) a cap)).heap.size:=hb2.size;clear ck HOWN;generalize w2.setCell ⟨F,3,none⟩ (.slice (some ⟨b3,0,none⟩) a cap) = W3 at fs2 ho2 hb2 hn2 ⊢;obtain ⟨g5,c5,rfl,hc5⟩:∃ g5 c5,v5 = .slice (some ⟨g5,0,none⟩) l.length c5∧l.length≤c5:=by
  rcases ho2.2 with ⟨_,h0⟩ | ⟨g',cap',cur,hv,_,_,hnc,_⟩
  ·omega
  ·exact ⟨g',cap',hv,hnc⟩
 have HV0:=zA0 (show KL W.heap.size B F b1 b2 b4 A c g { s with stack:=s.stack.take a } l (.slice (some ⟨b3,0,none⟩) a cap) vk (.slice (some ⟨g5,0,none⟩) l.length c5) W 0 W3 from ⟨by rw [c1T];exact fs2,ho2,hb2,hn2⟩);clear fs2 ho2 hb2 hn2 FS1 HCLONE HIDX HCS hcut htk;go_wp2;go_loopg [32,7] l.length (fun kq v32 v7 w' =>∃ (j:Nat),j + kq = l.length∧v32 = .int .i64 (j:Nat)∧Hid (KL W.heap.size B F b1 b2 b4 A c g { s with stack:=s.stack.take a } l (.slice (some ⟨b3,0,none⟩) a cap) vk (.slice (some ⟨g5,0,none⟩) l.length c5) W j w'))
 case atStart =>exact ⟨0,by omega,rfl,HV0⟩
 case round =>
  obtain ⟨j,hj,rfl,HV⟩:=hrel;have ck:=HV.out.fs.h.cf;by_cases hlt:j < l.length
  ·obtain ⟨mm,emm,hmn⟩:∃ mm:Nat,mm = l[j]∧mm < g.length:=⟨_,rfl,HLT.out _ (zE1 hlt)⟩;have hm:wr.cell? ⟨g5,j,none⟩ = some (.int .i64 (mm:Nat)):=by
    obtain ⟨A',c',e,hC⟩:=b5G (enc:=Value.int .i64) (d:=(0:Int)) HV.out.own;injection e with e1 _ _
    subst e1;obtain ⟨ad,e2,h2⟩:=Kd.a2R (Kd.a6R (d:=(0:Int)) hC) (j:Int) (zJ0 j) (zG1.2 hlt);cases e2;rw [zP0,a5N,zY1] at h2;rw [h2];unfold rd;rw [zP0,a7I _ _ hlt,emm]
   have cm:=HV.out.fs.h.cn hmn;have hmm0:(0:Int)≤(mm:Int):=zJ0 mm;have hw:=pzK j qD0;have HMM:=zA0 emm;obtain ⟨k1,rfl⟩:∃ k1,gk = k1 + 1:=⟨gk - 1,by omega⟩;clear emm;go_wp2;have hv1:KL W.heap.size B F b1 b2 b4 A c g { s with stack:=s.stack.take a } l (.slice (some ⟨b3,0,none⟩) a cap) vk (.slice (some ⟨g5,0,none⟩) l.length c5) W (j + 1) (wr.setCell ⟨b4,mm,none⟩ (.bool false)):=by
    refine ⟨?_,a5A HV.out.own (fun k hk =>Below.heap_setCell _ _ _ _ (fun e =>by
      have h1:W.heap.size≤k:=a2M HV.out.own k hk;have h2:=HV.out.fs.lt.2.2.2;have h3:k = b4:=e
      omega)),HV.out.be.setCell (p:=⟨b4,mm,none⟩) HV.out.fs.h.b.2.2.2 _,(HV.out.be.setCell (p:=⟨b4,mm,none⟩) HV.out.fs.h.b.2.2.2 _).size⟩
    rw [c1U _ _ _ hlt,← HMM.out];exact HV.out.fs.setOn mm false
   have HV1:=zA0 hv1;clear hv1 ck cm hm;go_roundg k1
   case measure =>exact zR0 _
   case rel =>exact ⟨j + 1,by rw [zA1,zC1 1];exact hj,by first | rw [hw] | simp [hw],HV1⟩
  ·have hje:j = l.length:=by omega
   subst hje;obtain ⟨s3,hs3⟩:∃ s3:St,s3 = { s with stack:=s.stack.take a,on:=offs s.on l l.length }:=⟨_,rfl⟩;have fs3:FSN W.heap.size B F b1 b2 b4 A c g s3 (.slice (some ⟨b3,0,none⟩) a cap) vk wr:=by rw [hs3];exact HV.out.fs
   have FS3:=zA0 fs3;have HS3:=zA0 hs3;have hsort:=b3I (toI l) (.slice (some ⟨g5,0,none⟩) l.length c5) W.heap.size wr (by rw [a1U];exact HV.out.own) qT2;rw [b3F,a1U] at hsort;have HSORT:=zA0 hsort;have hkn:(s3.knots.map toI).length≤1000:=by rw [hs3,zP1];exact HHK.out
   have HKN:=zA0 hkn;clear hkn hsort fs3 hs3 ck
   go_wp2_with (first
    | (go_at_call 47;(with_reducible refine HSORT.out.mono ?_;rintro x w5 ⟨rfl,hown,hg5⟩;have fs4:FSN W.heap.size B F b1 b2 b4 A c g s3 (.slice (some ⟨b3,0,none⟩) a cap) vk w5:=(FS3.out.step (fun k hk =>hg5.block k (zJ1 hk HV.out.n) (fun e =>absurd (a2M hown k (show Value.ownBlock _ = some k from e.symm)) (zK1.2 hk))));have HOWN:=zA0 hown;have FS4:=zA0 fs4;have BE4:=zA0 (HV.out.be.grown hg5 (zE0 HB.out HV.out.n) (fun k hk =>zE0 HB.out (a2M hown k hk)));have ck:=fs4.h.cf;have HB5W:=zA0 (zE0 HB.out BE4.out.size);have HLK:=zA0 (show ((s3.knots.map toI).length + 1) * 24≤140737488355328 by have:=HKN.out;omega);have HOKP:=zA0 (okp_g5 fs4 hown);have HFRESH:=zA0 (b8J fs4);have HFK:=zA0 (own_FK hown (by rw [a1U];exact (a8R l)) hc5);clear fs4 hown hg5))
    | ((with_reducible refine a1I (b:=.append) (xs:=#[.tmp 49,.tmp 51]) rfl ?_);at_builtin;(refine Kd.b0P kL B rfl (.tmp 49) (.tmp 51) 39 43 (.slice none 0 0) 24 rfl Tryz.underlying39 infoL rfl qF0 qD0 vk (s3.knots.map toI) (toI (sortN l)) [.slice (some ⟨g5,0,none⟩) l.length c5] (fun k =>B≤k∧k≠F∧k≠b1∧k≠b2∧k≠b4∧some k≠(Value.slice (some ⟨b3,0,none⟩) a cap).ownBlock) (fun k =>k = g5) rfl rfl HFK.out HOKP.out HFRESH.out FS4.out.h.kn (zL0 B w5) HB5W.out HLK.out ?_;intro v52 w40 hn52 hb hg hat;obtain ⟨A9,c9,e9⟩:=Kd.a3V hn52;obtain ⟨nn,hnn⟩:∃ nn,nn = (s3.knots.map toI ++ [toI (sortN l)]).length:=⟨_,rfl⟩;rw [← hnn] at e9;subst e9;clear hnn;have HN52:=zA0 hn52;have HG:=zA0 hg;have dN:=zA0 hb;have hf40:=a1S FS4.out.h.f hg (Kd.N_ne FS4.out.h.kn FS4.out.h.f qF0);have hfz:=a0Q hf40 6;have hfc:=a0L hf40 6;clear hn52 hb hg hat hf40 ck)))
   have hn52:=HN52.out;rw [show s3.knots.map toI ++ [toI (sortN l)] = (s3.knots ++ [sortN l]).map toI by simp] at hn52;obtain ⟨fs9,be9⟩:=FS4.out.h.setKnots hn52 HG.out dN.out;refine bodyPost_end (results_none rfl _ _ _) rfl ?_;refine ⟨rfl,⟨.slice (some ⟨b3,0,none⟩) a cap,.slice A9 nn c9,?_⟩,BE4.out.trans be9⟩;have e:knotF n s = { s3 with knots:=s3.knots ++ [sortN l] }:=by
    rw [HS3.out];unfold knotF;rw [offs_all,HHL.out,HHA.out]
   rw [e];exact fs9
attribute [local go_sem] Oper.semAt_some a3J a3I a4D a4C
theorem imin' {a b m:Nat} (h:m = min a b):(if b < a then (b:Int) else (a:Int)) = (m:Int):=by
 split <;> omega
theorem pzS (n:Nat) (h:n≤1000):wrap64 ((n:Int) + 1) = ((n + 1:Nat):Int):=by simp only [wrap64];omega
theorem b7P {adj:Nat→List Nat} {N:Nat} {s:St} {G:List Nat} (h:tot s = s.next) (hc:cnt N s≤N):s.stack.length≤N:=by
 unfold tot at h;unfold cnt at hc;omega
theorem c2W:∀ (L:List (List Nat)),(∀ l,l ∈ L→l≠[])→L.length≤L.flatten.length
 | [],_ =>zM0 _
 | a :: r,h =>by
  have h1:=c2W r (fun l hl =>h l (zV0 _ hl));have h2:=List.length_pos_iff.2 (h a zU0);simp only [List.flatten_cons,zQ0,zX0];omega
theorem b8F {adj:Nat→List Nat} {N:Nat} {s:St} {G:List Nat} (hi:Inv adj N s G) (h:tot s = s.next) (hc:cnt N s≤N):s.knots.length≤N:=by
 have:=c2W s.knots (fun l hl =>(hi.kcl l hl).1);unfold tot at h;unfold cnt at hc;omega
theorem rowA {W:World} {ok:Nat→Prop} {A:Option Addr} {n:Nat} {g:List (List Int)} (h:Kd.F kL W ok A n g) (i:Nat) (hi:i < n) :
  ∃ ad A0 c0,A = some ad∧W.cell? (ad.add i) = some (.slice A0 (g.getD i []).length c0)∧(g.getD i []).length≤c0∧Kd.F kI W ok A0 (g.getD i []).length (g.getD i []):=by
 obtain ⟨ad',c,e,hcl,hK,hcc,_⟩:=Kd.F_get h [] (i:Int) qD0 qD0;rw [zP0] at hK hcc;obtain ⟨A0,c0,rfl,hle,_⟩:=Kd.a6Q hK;refine ⟨ad',A0,c0,e,by have hq:=hcc 0 _ rfl;simpa [Kd.slice] using hq,hle,fun W' hW =>?_⟩;obtain ⟨A1,c1,e1,_,hC⟩:=hK W' hW;injection e1 with e2 _
 injection e2 with e3 _ _
 rw [e3];exact hC
structure VL (B F b1 b2 b4:Nat) (A:Option Addr) (c:Nat) (g:List (List Int)) (k:Nat) (n:Nat) (s:St) (G:List Nat) (W0:World) (j:Nat) (t:St) (e:List Nat) (vs vk:Value) (W:World):Prop where
 is:t = ((adjF g n).take j).foldl (stepF (visitF (adjF g) k) n) (enterF n s)
 li:LInv (adjF g) g.length n s t G ((adjF g n).take j) e
 fs:FS B F b1 b2 b4 A c g t vs vk W
 be:Below B W0 W
 ct:cnt g.length t≤g.length
 tt:tot t = t.next
 bz:B≤W.heap.size
section
variable {B F b1 b2 b4:Nat} {A:Option Addr} {c:Nat} {g:List (List Int)} {k n:Nat} {s:St} {G:List Nat} {W0 W:World} {j:Nat} {t:St} {e:List Nat} {vs vk:Value}
theorem VL.pre (h:VL B F b1 b2 b4 A c g k n s G W0 j t e vs vk W) (hs:Inv (adjF g) g.length s G) (hn:n < g.length) (hw:whites g.length s≤k + 1) {m:Nat} (hm:m ∈ adjF g n):(∀ z,z ∈ n :: G→Tarj.Rch (adjF g) z m)∧whites g.length t≤k:=by
 refine ⟨fun z hz =>?_,?_⟩
 ·rcases zS0.1 hz with rfl | hz
  ·exact .one hm
  ·refine Tarj.Rch.trans (h.li.inv.frG z (zV0 _ hz) n (by rw [h.li.ext];simp) ?_) (.one hm);rw [h.li.idn,(h.li.keep z (hs.svis z (h.li.gs z hz))).1];exact Nat.le_succ_of_le (hs.ile z)
 ·have:=b4P (t:=t) hn (fun x hx =>by rw [(h.li.keep x hx).1];exact hx) h.li.nw (by rw [h.li.idn];exact Nat.succ_ne_zero _);omega
theorem VL.next (h:VL B F b1 b2 b4 A c g k n s G W0 j t e vs vk W) (hgo:GOk g) (hs:Inv (adjF g) g.length s G) (hn:n < g.length) (hw:whites g.length s≤k + 1) {m:Nat} (hm:(adjF g n)[j]? = some m) {W1:World} {vs1 vk1:Value}
  (hfs:FS B F b1 b2 b4 A c g (stepF (visitF (adjF g) k) n t m) vs1 vk1 W1) (hb:Below B W W1):∃ e1,VL B F b1 b2 b4 A c g k n s G W0 (j + 1) (stepF (visitF (adjF g) k) n t m) e1 vs1 vk1 W1:=by
 obtain ⟨hj,hje⟩:=List.getElem?_eq_some_iff.1 hm;have hmem:m ∈ adjF g n:=hje ▸ zE1 hj;have htk:(adjF g n).take (j + 1) = (adjF g n).take j ++ [m]:=by rw [zW0 hj,hje]
 obtain ⟨p1,p2⟩:=h.pre hs hn hw hmem;obtain ⟨e1,he1⟩:=c0J (vis:=visitF (adjF g) k) h.li hmem (fun h0 =>b3D hgo.adj k t (n :: G) m h.li.inv h0 (hgo.adj n hn m hmem) p1 p2);have hct:cnt g.length (stepF (visitF (adjF g) k) n t m) = cnt g.length t∧(tot t = t.next→tot (stepF (visitF (adjF g) k) n t m) = (stepF (visitF (adjF g) k) n t m).next):=by
  unfold stepF
  split
  ·next h0 =>exact b0V hgo.adj k m t (hgo.adj n hn m hmem) h0
  ·split <;> exact ⟨rfl,fun h =>h⟩
 exact ⟨e1,by rw [htk,List.foldl_append,← h.is];rfl,by rw [htk];exact he1,hfs,h.be.trans hb,by rw [hct.1];exact h.ct,hct.2 h.tt,zE0 h.bz hb.size⟩
end
theorem c0E (g:List (List Int)) (hgo:GOk g) (A:Option Addr) (c B F b1 b2 b4:Nat):∀ (k:Nat) (s:St) (G:List Nat) (n:Nat) (vs vk:Value) (W:World),
  FS B F b1 b2 b4 A c g s vs vk W→Inv (adjF g) g.length s G→cnt g.length s≤g.length→tot s = s.next→s.index n = 0→n < g.length→(∀ z,z ∈ G→Tarj.Rch (adjF g) z n)→whites g.length s≤k→B≤W.heap.size →
  Calls Tryz.prog 49 #[.pointer (some ⟨F,0,none⟩),.int .i64 (n:Nat)] W fun e W' =>e = .returned (.tuple #[])∧(∃ vs' vk',FS B F b1 b2 b4 A c g (visitF (adjF g) k n s) vs' vk' W')∧Below B W W':=by
 intro k
 induction k with
 | zero =>
  intro s G n vs vk W hfs hinv hc ht h0 hn hG hw hB;exfalso;have:whites g.length s = 0:=Nat.le_zero.1 hw;unfold whites at this;rw [List.countP_eq_zero] at this;exact this n (zZ0.2 hn) (by simpa using h0)
 | succ k ih =>
  intro s G n vs vk W hfs hinv hc ht h0 hn hG hw hB;have hn0:(0:Int)≤(n:Int):=zJ0 n;have hsn:s.next≤1000:=by have:=hgo.len;unfold cnt at hc;omega
  have hnx:wrap64 ((s.next:Int) + 1) = ((s.next + 1:Nat):Int):=by simp only [wrap64];omega
  have LST:=zA0 (show ((toI s.stack).length + 1) * 8≤140737488355328 by have:=b7P (adj:=adjF g) (G:=G) ht hc;have:=hgo.len;simp only [toI,zP1];omega);have IH:=zA0 ih;have GO:=zA0 hgo;have FS0:=zA0 hfs;have INV:=zA0 hinv;have HC:=zA0 hc;have HT:=zA0 ht;have H0:=zA0 h0;have HGR:=zA0 hG;have HW:=zA0 hw;have HBW:=zA0 hB;have ck:=hfs.cf;clear ih hgo hfs hinv hc ht h0 hG hw hB;go_enter Tryz.func49,Tryz.ntmps49
  go_upto_region 1 with (fail)
  have h1:FS B F b1 b2 b4 A c g { s with next:=s.next + 1 } vs vk (W.setCell ⟨F,5,none⟩ (.int .i64 ((s.next:Int) + 1))):=FS0.out.setNext (s.next + 1);have hb1:=(FS0.out.far F 5 (.inl rfl) (.int .i64 ((s.next:Int) + 1))).2.2.2;clear ck;generalize W.setCell ⟨F,5,none⟩ (.int .i64 ((s.next:Int) + 1)) = W1 at h1 hb1 ⊢;have HB1:=zA0 hb1;clear hb1;refine (wpIn_wide (n:=5)).1 ?_;refine wpIn_region_any mixedO ?_;refine a7G _ (fun ix_ =>match ix_ with | 0 =>.pointer (some ⟨F,0,none⟩) | 1 =>.pointer (some ⟨F,0,none⟩) | 2 =>.pointer (some ⟨F,1,none⟩) | 3 =>.slice (some ⟨b1,0,none⟩) g.length g.length | 4 =>.int .i64 (n:Nat) | 5 =>.pointer (some ⟨F,0,none⟩) | 6 =>.pointer (some ⟨F,0,none⟩) | 7 =>.pointer (some ⟨F,2,none⟩) | 8 =>.slice (some ⟨b2,0,none⟩) g.length g.length | 9 =>.int .i64 (n:Nat) | 10 =>.pointer (some ⟨F,0,none⟩) | 11 =>.pointer (some ⟨F,0,none⟩) | 12 =>.pointer (some ⟨F,5,none⟩) | 13 =>.int .i64 ((s.next + 1:Nat):Int) | 14 =>.pointer (some ⟨F,0,none⟩) | 15 =>.pointer (some ⟨F,0,none⟩) | 16 =>.pointer (some ⟨F,5,none⟩) | 17 =>.int .i64 ((s.next + 1:Nat):Int) | 18 =>.pointer (some ⟨b1,n,none⟩) | 19 =>undef | 20 =>.pointer (some ⟨b2,n,none⟩) | 21 =>undef | _ =>undef) (fun done Z =>FS B F b1 b2 b4 A c g ({ s with next:=s.next + 1,index:=if done 19 = true then Tarj.upd s.index n (s.next + 1) else s.index,low:=if done 21 = true then Tarj.upd s.low n (s.next + 1) else s.low }) vs vk Z∧Below B W1 Z) rfl qE0 _ ?hzr1 ?str1 ?enr1
  case hzr1 =>exact ⟨h1.below (a2D (zL0 _ _)),a2D (zL0 _ _)⟩
  case str1 =>
   intro m op done a Z ho hdn hdep hag hS K2 hK2;have hm:m < 22:=by
    by_cases h:m < 22
    ·exact h
    ·rw [Array.getElem?_eq_none qG1] at ho;cases ho
   obtain ⟨⟨zf0,zf1,zf2,zf3,zf4,zf5,zf6⟩,zr3,zr5,zr6⟩:=hS.1.cf;obtain ⟨⟨zn1,zn2,zn4⟩,zg1,zg2,zg4⟩:=hS.1.cn hn;obtain rfl | rfl | rfl | rfl | rfl | rfl | rfl | rfl | rfl | rfl | rfl | rfl | rfl | rfl | rfl | rfl | rfl | rfl | rfl | rfl | rfl | rfl:m = 0∨m = 1∨m = 2∨m = 3∨m = 4∨m = 5∨m = 6∨m = 7∨m = 8∨m = 9∨m = 10∨m = 11∨m = 12∨m = 13∨m = 14∨m = 15∨m = 16∨m = 17∨m = 18∨m = 19∨m = 20∨m = 21:=by omega
   ·cases ho;have e0:a.eval (.tmp 0) = .pointer (some ⟨F,0,none⟩):=hag.keep 0 rfl;refine a0G (i:=0) rfl rfl (fun c h =>by cases h) rfl ?_ (hK2 Z hS);have ec:∀ v,a.eval (.const v) = v:=fun _ =>rfl
    generalize a.eval = ev at *;simp [execOp,go_sem,ec,e0]
   ·cases ho;have e13:=hag.val_ (j:=0) (t:=13) rfl (hdep ⟨0,.data⟩ qI0 rfl);refine a0G (i:=1) rfl rfl (fun c h =>by cases h) rfl ?_ (hK2 Z hS);have ec:∀ v,a.eval (.const v) = v:=fun _ =>rfl
    generalize a.eval = ev at *;simp [execOp,go_sem,ec,e13]
   ·cases ho;have e14:=hag.val_ (j:=1) (t:=14) rfl (hdep ⟨1,.data⟩ qI0 rfl);refine a0G (i:=2) rfl rfl (fun c h =>by cases h) rfl ?_ (hK2 Z hS);have ec:∀ v,a.eval (.const v) = v:=fun _ =>rfl
    generalize a.eval = ev at *;simp [execOp,go_sem,ec,e14]
   ·cases ho;have e15:=hag.val_ (j:=2) (t:=15) rfl (hdep ⟨2,.data⟩ qI0 rfl);refine a0G (i:=3) rfl rfl (fun c h =>by cases h) rfl ?_ (hK2 Z hS);have ec:∀ v,a.eval (.const v) = v:=fun _ =>rfl
    generalize a.eval = ev at *;simp [execOp,go_sem,ec,e15,zf1]
   ·cases ho;have e1:a.eval (.tmp 1) = .int .i64 (n:Nat):=hag.keep 1 rfl;refine a0G (i:=4) rfl rfl (fun c h =>by cases h) rfl ?_ (hK2 Z hS);have ec:∀ v,a.eval (.const v) = v:=fun _ =>rfl
    generalize a.eval = ev at *;simp [execOp,go_sem,ec,e1]
   ·cases ho;have e0:a.eval (.tmp 0) = .pointer (some ⟨F,0,none⟩):=hag.keep 0 rfl;refine a0G (i:=5) rfl rfl (fun c h =>by cases h) rfl ?_ (hK2 Z hS);have ec:∀ v,a.eval (.const v) = v:=fun _ =>rfl
    generalize a.eval = ev at *;simp [execOp,go_sem,ec,e0]
   ·cases ho;have e18:=hag.val_ (j:=5) (t:=18) rfl (hdep ⟨5,.data⟩ qI0 rfl);refine a0G (i:=6) rfl rfl (fun c h =>by cases h) rfl ?_ (hK2 Z hS);have ec:∀ v,a.eval (.const v) = v:=fun _ =>rfl
    generalize a.eval = ev at *;simp [execOp,go_sem,ec,e18]
   ·cases ho;have e19:=hag.val_ (j:=6) (t:=19) rfl (hdep ⟨6,.data⟩ qI0 rfl);refine a0G (i:=7) rfl rfl (fun c h =>by cases h) rfl ?_ (hK2 Z hS);have ec:∀ v,a.eval (.const v) = v:=fun _ =>rfl
    generalize a.eval = ev at *;simp [execOp,go_sem,ec,e19]
   ·cases ho;have e20:=hag.val_ (j:=7) (t:=20) rfl (hdep ⟨7,.data⟩ qI0 rfl);refine a0G (i:=8) rfl rfl (fun c h =>by cases h) rfl ?_ (hK2 Z hS);have ec:∀ v,a.eval (.const v) = v:=fun _ =>rfl
    generalize a.eval = ev at *;simp [execOp,go_sem,ec,e20,zf2]
   ·cases ho;have e1:a.eval (.tmp 1) = .int .i64 (n:Nat):=hag.keep 1 rfl;refine a0G (i:=9) rfl rfl (fun c h =>by cases h) rfl ?_ (hK2 Z hS);have ec:∀ v,a.eval (.const v) = v:=fun _ =>rfl
    generalize a.eval = ev at *;simp [execOp,go_sem,ec,e1]
   ·cases ho;have e0:a.eval (.tmp 0) = .pointer (some ⟨F,0,none⟩):=hag.keep 0 rfl;refine a0G (i:=10) rfl rfl (fun c h =>by cases h) rfl ?_ (hK2 Z hS);have ec:∀ v,a.eval (.const v) = v:=fun _ =>rfl
    generalize a.eval = ev at *;simp [execOp,go_sem,ec,e0]
   ·cases ho;have e23:=hag.val_ (j:=10) (t:=23) rfl (hdep ⟨10,.data⟩ qI0 rfl);refine a0G (i:=11) rfl rfl (fun c h =>by cases h) rfl ?_ (hK2 Z hS);have ec:∀ v,a.eval (.const v) = v:=fun _ =>rfl
    generalize a.eval = ev at *;simp [execOp,go_sem,ec,e23]
   ·cases ho;have e24:=hag.val_ (j:=11) (t:=24) rfl (hdep ⟨11,.data⟩ qI0 rfl);refine a0G (i:=12) rfl rfl (fun c h =>by cases h) rfl ?_ (hK2 Z hS);have ec:∀ v,a.eval (.const v) = v:=fun _ =>rfl
    generalize a.eval = ev at *;simp [execOp,go_sem,ec,e24]
   ·cases ho;have e25:=hag.val_ (j:=12) (t:=25) rfl (hdep ⟨12,.data⟩ qI0 rfl);refine a0G (i:=13) rfl rfl (fun c h =>by cases h) rfl ?_ (hK2 Z hS);have ec:∀ v,a.eval (.const v) = v:=fun _ =>rfl
    generalize a.eval = ev at *;simp [execOp,go_sem,ec,e25,zf5]
   ·cases ho;have e0:a.eval (.tmp 0) = .pointer (some ⟨F,0,none⟩):=hag.keep 0 rfl;refine a0G (i:=14) rfl rfl (fun c h =>by cases h) rfl ?_ (hK2 Z hS);have ec:∀ v,a.eval (.const v) = v:=fun _ =>rfl
    generalize a.eval = ev at *;simp [execOp,go_sem,ec,e0]
   ·cases ho;have e27:=hag.val_ (j:=14) (t:=27) rfl (hdep ⟨14,.data⟩ qI0 rfl);refine a0G (i:=15) rfl rfl (fun c h =>by cases h) rfl ?_ (hK2 Z hS);have ec:∀ v,a.eval (.const v) = v:=fun _ =>rfl
    generalize a.eval = ev at *;simp [execOp,go_sem,ec,e27]
   ·cases ho;have e28:=hag.val_ (j:=15) (t:=28) rfl (hdep ⟨15,.data⟩ qI0 rfl);refine a0G (i:=16) rfl rfl (fun c h =>by cases h) rfl ?_ (hK2 Z hS);have ec:∀ v,a.eval (.const v) = v:=fun _ =>rfl
    generalize a.eval = ev at *;simp [execOp,go_sem,ec,e28]
   ·cases ho;have e29:=hag.val_ (j:=16) (t:=29) rfl (hdep ⟨16,.data⟩ qI0 rfl);refine a0G (i:=17) rfl rfl (fun c h =>by cases h) rfl ?_ (hK2 Z hS);have ec:∀ v,a.eval (.const v) = v:=fun _ =>rfl
    generalize a.eval = ev at *;simp [execOp,go_sem,ec,e29,zf5]
   ·cases ho;have e16:=hag.val_ (j:=3) (t:=16) rfl (hdep ⟨3,.data⟩ qI0 rfl);have e17:=hag.val_ (j:=4) (t:=17) rfl (hdep ⟨4,.data⟩ qI0 rfl);refine a0G (i:=18) rfl rfl (fun c h =>by cases h) ?_ ?_ (hK2 Z hS)
    ·generalize a.eval = ev at *;simp [Oper.about,resolve,Target.leads,Sem.run_pure,go_sem,e16,e17,hn,hn0]
    ·have ec:∀ v,a.eval (.const v) = v:=fun _ =>rfl
     generalize a.eval = ev at *;simp [execOp,go_sem,ec,e16,e17,hn,hn0]
   ·cases ho;have e31:=hag.val_ (j:=18) (t:=31) rfl (hdep ⟨18,.data⟩ qI0 rfl);have e26:=hag.val_ (j:=13) (t:=26) rfl (hdep ⟨13,.data⟩ qI0 rfl);refine a3L (i:=19) rfl rfl (fun c h =>by cases h) rfl (w':=Z.setCell ⟨b1,n,none⟩ (.int .i64 ((s.next + 1:Nat):Int))) ?_ (hK2 _ (⟨by simpa [Man.upd,hdn] using hS.1.setIndex n (s.next + 1),hS.2.trans (hS.1.far b1 n (.inr (.inl rfl)) _).2.2.2⟩));have ec:∀ v,a.eval (.const v) = v:=fun _ =>rfl
    generalize a.eval = ev at *;simp [execOp,go_sem,ec,e31,e26,zn1,zg1]
   ·cases ho;have e21:=hag.val_ (j:=8) (t:=21) rfl (hdep ⟨8,.data⟩ qI0 rfl);have e22:=hag.val_ (j:=9) (t:=22) rfl (hdep ⟨9,.data⟩ qI0 rfl);refine a0G (i:=20) rfl rfl (fun c h =>by cases h) ?_ ?_ (hK2 Z hS)
    ·generalize a.eval = ev at *;simp [Oper.about,resolve,Target.leads,Sem.run_pure,go_sem,e21,e22,hn,hn0]
    ·have ec:∀ v,a.eval (.const v) = v:=fun _ =>rfl
     generalize a.eval = ev at *;simp [execOp,go_sem,ec,e21,e22,hn,hn0]
   ·cases ho;have e32:=hag.val_ (j:=20) (t:=32) rfl (hdep ⟨20,.data⟩ qI0 rfl);have e30:=hag.val_ (j:=17) (t:=30) rfl (hdep ⟨17,.data⟩ qI0 rfl);refine a3L (i:=21) rfl rfl (fun c h =>by cases h) rfl (w':=Z.setCell ⟨b2,n,none⟩ (.int .i64 ((s.next + 1:Nat):Int))) ?_ (hK2 _ (⟨by simpa [Man.upd,hdn] using hS.1.setLow n (s.next + 1),hS.2.trans (hS.1.far b2 n (.inr (.inr (.inl rfl))) _).2.2.2⟩));have ec:∀ v,a.eval (.const v) = v:=fun _ =>rfl
    generalize a.eval = ev at *;simp [execOp,go_sem,ec,e32,e30,zn2,zg2]
  case enr1 =>
   intro Z1 done hdn hS;simp only [putTmps,dstOf,zV1,zX0,zN1,Nat.reduceAdd,zE2,zM1,zT1,zN0,zC0,zG0,zH0];obtain ⟨fs1,be1⟩:=hS;simp only [hdn 19 qF0,hdn 21 qF0,if_true] at fs1;have FS1:=zA0 fs1;have BE1:=zA0 (HB1.out.trans be1);have HBZ:=zA0 (show B≤Z1.heap.size from zE0 HBW.out BE1.out.size);have ST1:=zA0 fs1.st;have FR1:=zA0 (show ∀ q,Z1.heap.size≤q→q≠b1∧q≠b2 from fun q hq =>⟨fun x =>absurd (a1J fs1.x) (zH3.2 (x ▸ hq)),fun x =>absurd (a1J fs1.l) (zH3.2 (x ▸ hq))⟩);have ck:=fs1.cf;clear fs1 be1 hdn h1
   go_upto_region 3 with (first
    | ((with_reducible refine a1I (b:=.append) (xs:=#[.tmp 37,.tmp 39]) rfl ?_);at_builtin;refine Kd.a2Y kI B rfl (.tmp 37) (.tmp 39) 43 3 (.int .i64 0) 8 rfl Tryz.underlying43 b1K rfl qF0 qD0 vs (toI s.stack) (n:Int) [.int .i64 (n:Nat)] (fun k =>k≠b1∧k≠b2) (fun _ =>False) rfl rfl ?mk (fun _ h =>h.elim) FR1.out ST1.out (zL0 B Z1) HBZ.out LST.out ?_;(case mk =>rfl);intro v40 w40 ho hb hg hat;obtain ⟨A9,c9,e9,_,_⟩:=Kd.a4E ho;obtain ⟨nn,hnn⟩:∃ nn,nn = (toI s.stack ++ [(n:Int)]).length:=⟨_,rfl⟩;rw [← hnn] at e9;subst e9;clear hnn;have HO:=zA0 ho;have HG:=zA0 hg;have HAT:=zA0 hat;have dN:=zA0 hb;have hf40:=a1S FS1.out.f hg FS1.out.nsF;have hfz:=a0Q hf40 3;have hfc:=a0L hf40 3;clear ho hb hg hat hf40 ck))
   have ho2:kI.R 3 w40 B (fun q =>q≠b1∧q≠b2) (.slice A9 nn c9) (toI (s.stack ++ [n])):=by have:=HO.out;simpa [toI] using this
   obtain ⟨fs2,be2⟩:=FS1.out.setStack ho2 HG.out HAT.out dN.out;clear hfz hfc ho2;generalize w40.setCell ⟨F,3,none⟩ (.slice A9 nn c9) = W3 at fs2 be2 ⊢;have FS2:=zA0 fs2;have BE2:=zA0 (BE1.out.trans be2);have ck:=fs2.cf;have cn:=fs2.cn hn;clear fs2 be2 HO HG HAT dN ST1 FR1 FS1 LST;go_upto_region 4 with (fail)
   have fs3:FS B F b1 b2 b4 A c g (enterF n s) (.slice A9 nn c9) vk (W3.setCell ⟨b4,n,none⟩ (.bool true)):=FS2.out.setOn n true;have be3:=(FS2.out.far b4 n (.inr (.inr (.inr rfl))) (.bool true)).2.2.2;clear ck cn;generalize W3.setCell ⟨b4,n,none⟩ (.bool true) = W4 at fs3 be3 ⊢;obtain ⟨ad,A0,c0,eA,hrow,hle,hF0⟩:=rowA fs3.gF n hn;subst eA;obtain ⟨row,hrw⟩:∃ r,r = g.getD n []:=⟨_,rfl⟩;rw [← hrw] at hrow hle hF0;have FS3:=zA0 fs3;have BE3:=zA0 (BE2.out.trans be3);have FR:=zA0 hF0;have RW:=zA0 hrw;have hrl:row.length≤1000:=by rw [hrw];exact GO.out.row n
   have ck:=fs3.cf
   have HV0:=zA0 (show VL B F b1 b2 b4 (some ad) c g k n s G W 0 (enterF n s) [] (.slice A9 nn c9) vk W4 from ⟨rfl,by simpa using b8P INV.out H0.out hn HGR.out,FS3.out,BE3.out,by
    have:=a9Q hn H0.out;have h2:=HC.out;unfold cnt at h2 ⊢;show s.next + 1 + _≤_;omega,by
    have:=HT.out;simp only [tot,enterF,zQ0,zX0,zN1] at this ⊢
    omega,zE0 HBW.out BE3.out.size⟩)
   clear hF0 hrw fs3 be3;go_wp2;clear ck hrow;go_loopg [57,5] row.length (fun kq v57 v5 w' =>∃ (j:Nat) (t:St) (e:List Nat) (vs' vk':Value),j + kq = row.length∧v57 = .int .i64 (j:Nat)∧Hid (VL B F b1 b2 b4 (some ad) c g k n s G W j t e vs' vk' w'))
   case atStart =>exact ⟨0,_,_,_,_,by omega,rfl,HV0⟩
   case round =>
    obtain ⟨j,t,e,vs2,vk2,hj,rfl,HV⟩:=hrel;have FW:=zA0 (Kd.a6A (W1:=wr) FR.out (fun q hq _ =>(HV.out.be.block q hq).trans (BE3.out.block q hq).symm));have ck:=HV.out.fs.cf;have cn:=HV.out.fs.cn hn;by_cases hlt:j < row.length
    ·obtain ⟨ad0,eA0,hm⟩:=Kd.a2R (Kd.a5P FW.out) (j:Int) (zJ0 j) (zG1.2 hlt);subst eA0;rw [zP0] at hm;obtain ⟨mm,emm,hmn,hmj⟩:∃ mm:Nat,rd row (j:Int) = (mm:Int)∧mm < g.length∧(adjF g n)[j]? = some mm:=by
      have RW':=RW.out;have hlt':j < (g.getD n []).length:=by rw [← RW'];exact hlt
      obtain ⟨m0,m1⟩:=GO.out.ent n hn _ (zE1 hlt');refine ⟨((g.getD n [])[j]).toNat,?_,by omega,by unfold adjF;rw [List.getElem?_map,zF0 hlt'];rfl⟩;unfold rd;rw [RW',zP0,zK0 (l:=g.getD n []),zF0 hlt',zS2];omega
     rw [emm] at hm;clear emm;have HMJ:=zA0 hmj;have hmm0:(0:Int)≤(mm:Int):=zJ0 mm;have cm:=HV.out.fs.cn hmn;have hw:=pzS j (zE0 (zZ1 hlt) hrl);obtain ⟨k1,rfl⟩:∃ k1,gk = k1 + 1:=⟨gk - 1,by omega⟩;have hmem:mm ∈ adjF g n:=by obtain ⟨a,b⟩:=List.getElem?_eq_some_iff.1 hmj;exact b ▸ zE1 a
     clear hmj;by_cases hi0:t.index mm = 0
     ·have hib:((t.index mm:Int) == 0) = true:=by rw [hi0];rfl
      obtain ⟨p1,p2⟩:=HV.out.pre INV.out hn HW.out hmem;have hcall:=IH.out t (n :: G) mm vs2 vk2 wr HV.out.fs HV.out.li.inv HV.out.ct HV.out.tt hi0 hmn p1 p2 HV.out.bz;obtain ⟨t2,ht2⟩:∃ t2,t2 = visitF (adjF g) k mm t:=⟨_,rfl⟩;rw [← ht2] at hcall;have HCALL:=zA0 hcall;have HI0:=zA0 hi0;have HT2:=zA0 ht2;clear hcall p1 p2 ht2 hi0 hmem
      go_upto_region 9 with (first
       | (go_at_call 49;with_reducible refine HCALL.out.mono ?_;rintro x w2 ⟨rfl,⟨vs3,vk3,hfs3⟩,hbe3⟩;clear ck cn cm;have FS4:=zA0 hfs3;have BE4:=zA0 hbe3;have ck:=hfs3.cf;have cn:=hfs3.cn hn;have cm:=hfs3.cn hmn;clear hfs3 hbe3))
      obtain ⟨mv,hmv⟩:∃ mv,mv = min (t2.low n) (t2.low mm):=⟨_,rfl⟩;have hmin:=imin' hmv;have HMV:=zA0 hmv;clear hmv
      go_still_tail 21,mixedO
      change wpList _ _ _ _ _ (World.drew w2);have fs5:=FS4.out.below (a2D (zL0 w2.heap.size w2));have be5:=BE4.out.trans (a2D (zL0 B w2));clear ck cn cm;generalize World.drew w2 = w5 at fs5 be5 ⊢;have ck:=fs5.cf;have cn:=fs5.cn hn;have FS5:=zA0 fs5;have BE5:=zA0 be5;clear fs5 be5;go_wp2;have fs6:FS B F b1 b2 b4 (some ad) c g (stepF (visitF (adjF g) k) n t mm) vs3 vk3 (w5.setCell ⟨b2,n,none⟩ (.int .i64 (mv:Nat))):=by
       unfold stepF;rw [if_pos HI0.out,← HT2.out,← HMV.out];exact FS5.out.setLow n _
      obtain ⟨e1,hv1⟩:=HV.out.next GO.out INV.out hn HW.out HMJ.out fs6 (BE5.out.trans (FS5.out.far b2 n (.inr (.inr (.inl rfl))) _).2.2.2);have HV1:=zA0 hv1;clear hv1 fs6 hmin ck cn;go_roundg k1
      case measure =>exact zR0 _
      case rel =>exact ⟨j + 1,_,e1,_,_,by rw [zA1,zC1 1];exact hj,by first | rw [hw] | simp [hw],HV1⟩
     ·have hib:((t.index mm:Int) == 0) = false:=by simpa using hi0
      have HI0:=zA0 hi0;clear hi0 hmem;by_cases hon:t.on mm = true
      ·have HON:=zA0 hon;rw [hon] at cm;clear hon;go_upto_region 11 with (fail)
       obtain ⟨mv,hmv⟩:∃ mv,mv = min (t.low n) (t.index mm):=⟨_,rfl⟩;have hmin:=imin' hmv;have HMV:=zA0 hmv;clear hmv
       go_still_tail 21,mixedO
       change wpList _ _ _ _ _ (World.drew wr);have fs5:=HV.out.fs.below (a2D (zL0 wr.heap.size wr));have be5:=a2D (zL0 B wr);clear ck cn cm hm;generalize World.drew wr = w5 at fs5 be5 ⊢;have ck:=fs5.cf;have cn:=fs5.cn hn;have FS5:=zA0 fs5;have BE5:=zA0 be5;clear fs5 be5;go_wp2;have fs6:FS B F b1 b2 b4 (some ad) c g (stepF (visitF (adjF g) k) n t mm) vs2 vk2 (w5.setCell ⟨b2,n,none⟩ (.int .i64 (mv:Nat))):=by
        unfold stepF;rw [if_neg HI0.out,if_pos HON.out,← HMV.out];exact FS5.out.setLow n _
       obtain ⟨e1,hv1⟩:=HV.out.next GO.out INV.out hn HW.out HMJ.out fs6 (BE5.out.trans (FS5.out.far b2 n (.inr (.inr (.inl rfl))) _).2.2.2);have HV1:=zA0 hv1;clear hv1 fs6 hmin ck cn;go_roundg k1
       case measure =>exact zR0 _
       case rel =>exact ⟨j + 1,_,e1,_,_,by rw [zA1,zC1 1];exact hj,by first | rw [hw] | simp [hw],HV1⟩
      ·have HON:=zA0 hon;have honf:t.on mm = false:=by simpa using hon
       rw [honf] at cm;clear hon honf;go_wp2;have fs6:FS B F b1 b2 b4 (some ad) c g (stepF (visitF (adjF g) k) n t mm) vs2 vk2 wr:=by
        unfold stepF;rw [if_neg HI0.out,if_neg HON.out];exact HV.out.fs
       obtain ⟨e1,hv1⟩:=HV.out.next GO.out INV.out hn HW.out HMJ.out fs6 (zL0 B wr);have HV1:=zA0 hv1;clear hv1 fs6 ck cn cm hm;go_roundg k1
       case measure =>exact zR0 _
       case rel =>exact ⟨j + 1,_,e1,_,_,by rw [zA1,zC1 1];exact hj,by first | rw [hw] | simp [hw],HV1⟩
    ·have hje:j = row.length:=by omega
     have hlen:(adjF g n).length = row.length:=by rw [RW.out];simp [adjF]
     have hli:LInv (adjF g) g.length n s t G (adjF g n) e:=by have:=HV.out.li;rwa [hje,← hlen,zH1] at this
     have hst:n ∈ t.stack:=by rw [hli.ext];simp
     have hvs:visitF (adjF g) (k + 1) n s = leaveF n t:=by
      show leaveF n ((adjF g n).foldl (stepF (visitF (adjF g) k) n) (enterF n s)) = _;rw [HV.out.is,hje,← hlen,zH1]
     have HVS:=zA0 hvs;have HST:=zA0 hst;clear hli hvs hst hlen hje;by_cases hl:t.low n = t.index n
     ·have hlb:((t.low n:Int) == (t.index n:Int)) = true:=by rw [hl];simp
      have HLF:=zA0 (show leaveF n t = knotF n t by unfold leaveF;rw [if_pos hl]);clear hl;go_upto_region 13 with (fail)
      go_quiet (fail)
      have fs5:=HV.out.fs.below (a0A (zL0 wr.heap.size wr) nq);have be5:=a0A (zL0 B wr) nq;have FS5:=zA0 fs5;have BE5:=zA0 be5;clear ck cn fs5 be5;have hkc:=knot_any g (some ad) c B F b1 b2 b4 t n vs2 vk2 (wr.drewN nq) FS5.out HST.out (fun x hx =>HV.out.li.inv.vlt x (HV.out.li.inv.svis x hx)) (by have:=b7P (adj:=adjF g) (G:=G) HV.out.tt HV.out.ct;have:=GO.out.len;omega) (by have:=b8F HV.out.li.inv HV.out.tt HV.out.ct;have:=GO.out.len;omega) (zE0 HV.out.bz BE5.out.size);rw [← HLF.out,← HVS.out] at hkc;have HKC:=zA0 hkc;clear hkc
      go_wp2_with (first
       | (go_at_call 75;with_reducible refine HKC.out.mono ?_;rintro x w6 ⟨rfl,hfin,hbe6⟩;have HFIN:=zA0 hfin;have BE6:=zA0 hbe6;clear hfin hbe6))
      refine bodyPost_end (results_none rfl _ _ _) rfl ?_;exact ⟨rfl,HFIN.out,(HV.out.be.trans BE5.out).trans BE6.out⟩
     ·have hlb:((t.low n:Int) == (t.index n:Int)) = false:=by simpa using (fun h =>hl qD0)
      have HLF:=zA0 (show leaveF n t = t by unfold leaveF;rw [if_neg hl]);clear hl;go_upto_region 13 with (fail)
      go_quiet (fail)
      have fs5:=HV.out.fs.below (a0A (zL0 wr.heap.size wr) nq);have be5:=a0A (zL0 B wr) nq;have FS5:=zA0 fs5;have BE5:=zA0 be5;clear ck cn fs5 be5;go_wp2;refine bodyPost_end (results_none rfl _ _ _) rfl ?_;exact ⟨rfl,⟨vs2,vk2,by rw [HVS.out,HLF.out];exact FS5.out⟩,HV.out.be.trans BE5.out⟩
def vals (N:Nat) (f:Nat→Value):Array Value:=((List.range N).map f).toArray
theorem b7N (N:Nat) (f:Nat→Value) (n:Nat) (v:Value):(vals N f).setIfInBounds n v = vals N (Tarj.upd f n v):=by
 unfold vals;rw [zC0,b1E]
theorem a7U {N n:Nat} (f:Nat→Value) (h:n < N):(vals N f)[n]? = some (f n):=by simp [vals,h]
structure FD (B bo M:Nat) (v:Nat→Value) (r:Nat→List Nat) (W:World):Prop where
 o:W.heap[bo]? = some (.cells (vals M v) 43 (0,0))
 r:∀ i,i < M→kI.R 3 W B (fun k =>k≠bo) (v i) (toI (r i))
 d:∀ i j,i < M→j < M→i≠j→∀ k,(v i).ownBlock = some k→(v j).ownBlock≠some k
 b:B≤bo
section
variable {B bo M:Nat} {v:Nat→Value} {r:Nat→List Nat} {W W1:World}
theorem FD.below (h:FD B bo M v r W) (hb:Below W.heap.size W W1):FD B bo M v r W1 :=
 ⟨a0P h.o hb,fun i hi =>Kd.a3U (h.r i hi) hb,h.d,h.b⟩
theorem FD.lt (h:FD B bo M v r W) {i:Nat} (hi:i < M):∀ k,(v i).ownBlock = some k→B≤k∧k < W.heap.size:=fun k hk =>by
 have ho:=Kd.a3A (h.r i hi);obtain ⟨cells,hc⟩:=a2T ho k hk;exact ⟨a2M ho k hk,a1J hc⟩
theorem FD.ne (h:FD B bo M v r W) {i:Nat} (hi:i < M):some bo≠(v i).ownBlock:=fun e =>(h.r i hi).1 bo e.symm rfl
theorem FD.put (h:FD B bo M v r W) {i:Nat} (hi:i < M) {v1:Value} {xs:List Nat} (hr:kI.R 3 W1 B (fun k =>k≠bo) v1 (toI xs)) (hg:W.grownBy W1 (v i).ownBlock) (hat:v1.ownBlock = (v i).ownBlock∨∃ b,v1.ownBlock = some b∧W.heap.size≤b) :
  FD B bo M (Tarj.upd v i v1) (Tarj.upd r i xs) (W1.setCell ⟨bo,i,none⟩ v1):=by
 have ho:=a1S h.o hg (h.ne hi);refine ⟨a3G ho i _ (b7N _ _ _ _),fun j hj =>?_,fun a b ha hb hne k hk =>?_,h.b⟩
 ·by_cases e:j = i
  ·subst e;simp only [Tarj.upd,if_true];exact Kd.b4D (p:=⟨bo,j,none⟩) hr (fun k hk =>hk) _
  ·simp only [Tarj.upd,if_neg e];refine Kd.b4D (p:=⟨bo,i,none⟩) ?_ (fun k hk =>hk) _;refine Kd.a2W (Kd.c3U (Kd.a6P (ok:=fun k =>some k = (v j).ownBlock) rfl (h.r j hj) (fun k hk =>hk.symm)) hg (fun k hk e2 =>h.d j i hj hi e k hk.symm e2.symm)) (fun k hk =>(h.r j hj).1 k hk.symm)
 ·simp only [Tarj.upd] at hk ⊢
  split at hk
  ·next ea =>
   subst ea;rw [if_neg (fun e =>hne e.symm)];rcases hat with hat | ⟨q,hq,hle⟩
   ·rw [hat] at hk;exact h.d a b ha hb hne k hk
   ·rw [hq] at hk;intro e;have:=(h.lt hb k e).2;injection hk with hk
    omega
  ·next ea =>
   by_cases eb:b = i
   ·subst eb;rw [if_pos rfl];rcases hat with hat | ⟨q,hq,hle⟩
    ·rw [hat];exact h.d a b ha hb hne k hk
    ·rw [hq];intro e;have:=(h.lt ha k hk).2;injection e with e
     omega
   ·rw [if_neg eb];exact h.d a b ha hb hne k hk
theorem FD.b5E (h:FD B bo M v r W) {i:Nat} (hi:i < M) (v1:Value) (hg:W.grownBy W1 (v i).ownBlock) (hbb:Below B W W1):Below B W (W1.setCell ⟨bo,i,none⟩ v1):=hbb.setCell (p:=⟨bo,i,none⟩) h.b _
theorem FD.reads (h:FD B bo M v r W) (hM:M≤1000):kL.C W (some ⟨bo,0,none⟩) M ((List.range M).map fun i =>toI (r i)):=by
 refine ⟨by simp,by omega,fun hp =>⟨⟨bo,0,none⟩,rfl,fun j x hx =>?_⟩⟩;obtain ⟨hj,rfl⟩:=List.getElem?_eq_some_iff.1 hx;have hj':j < M:=by simpa using hj
 obtain ⟨A,c,e,hl,hC⟩:=Kd.a4E (h.r j hj');simp only [List.getElem_map,List.getElem_range];refine ⟨[v j],rfl,⟨A,c,by rw [e],hl,hC⟩,fun i u hu =>?_⟩
 match i,hu with
 | 0,hu =>
  simp only [zM1,Option.some.injEq] at hu;subst hu;rw [a5N];have:0 + (j * kL.sz + 0) = j:=by show 0 + (j * 1 + 0) = j;omega
  rw [this];exact (a0L h.o j).trans (a7U _ hj')
theorem FD.cell (h:FD B bo M v r W) {i:Nat} (hi:i < M):W.cell? ⟨bo,i,none⟩ = some (v i)∧W.frozen? ⟨bo,i,none⟩ = false:=⟨(a0L h.o i).trans (a7U _ hi),a0Q h.o i⟩
theorem FD.made (hB:B≤W.heap.size):FD B W.heap.size M (fun _ =>.slice none 0 0) (fun _ =>[]) (W.alloc (.cells (vals M (fun _ =>.slice none 0 0)) 43)) :=
 ⟨World.alloc_heap_new W _,fun i _ =>Kd.b0A _ _ _ _ _,fun i j _ _ _ k hk =>by simp [Value.ownBlock] at hk,hB⟩
end
structure RS (B R bl K:Nat) (lw:Nat→Nat) (v:Value) (l:List Nat) (W:World):Prop where
 r:W.heap[R]? = some (.cells #[v,.slice (some ⟨bl,0,none⟩) K K] 88 (0,0))
 lo:W.heap[bl]? = some (.cells (ints K lw) 3 (0,0))
 st:kI.R 3 W B (fun _ =>True) v (toI l)
 mem:∀ x,x ∈ l→x < K
 b:B≤R
 bl:bl < B
 len:l.length≤1000
structure Ht (B R:Nat) (W:World) (v:Value) (W':World) (v':Value):Prop where
 be:Below B W W'
 bk:∀ k,k < W.heap.size→k≠R→some k≠v.ownBlock→W'.heap[k]? = W.heap[k]?
 at_:v'.ownBlock = v.ownBlock∨∃ b,v'.ownBlock = some b∧W.heap.size≤b
section
variable {B R bl K:Nat} {lw:Nat→Nat} {v v1 v2:Value} {l:List Nat} {W W1 W2:World}
theorem Ht.refl (B R:Nat) (W:World) (v:Value):Ht B R W v W v:=⟨zL0 _ _,fun _ _ _ _ =>rfl,.inl rfl⟩
theorem Ht.trans (h:Ht B R W v W1 v1) (k:Ht B R W1 v1 W2 v2):Ht B R W v W2 v2:=by
 refine ⟨h.be.trans k.be,fun i hi hR hv =>(k.bk i (zJ1 hi h.be.size) hR (fun e =>?_)).trans (h.bk i hi hR hv),?_⟩
 ·rcases h.at_ with a | ⟨b,a,hb⟩
  ·rw [a] at e;exact hv e
  ·rw [a] at e;injection e with e;omega
 ·rcases k.at_ with a | ⟨b,a,hb⟩
  ·rw [a];exact h.at_
  ·exact .inr ⟨b,a,zE0 h.be.size hb⟩
theorem Ht.drew (h:Ht B R W v W1 v1) (n:Nat):Ht B R W v (W1.drewN n) v1:=h.trans ⟨a0A (zL0 _ _) n,fun _ _ _ _ =>rfl,.inl rfl⟩
theorem RS.below (h:RS B R bl K lw v l W) (hb:Below W.heap.size W W1):RS B R bl K lw v l W1 :=
 ⟨a0P h.r hb,a0P h.lo hb,Kd.a3U h.st hb,h.mem,h.b,h.bl,h.len⟩
theorem RS.drew (h:RS B R bl K lw v l W) (n:Nat):RS B R bl K lw v l (W.drewN n):=h.below (a0A (zL0 _ _) n)
theorem RS.nR (h:RS B R bl K lw v l W):some R≠v.ownBlock:=Kd.R_ne h.st h.r qF0
theorem RS.nl (h:RS B R bl K lw v l W):some bl≠v.ownBlock:=fun e =>by
 have:=a2M (Kd.a3A h.st) bl e.symm;have:=h.bl;omega
theorem RS.cf (h:RS B R bl K lw v l W):W.cell? ⟨R,0,none⟩ = some v∧W.cell? ⟨R,1,none⟩ = some (.slice (some ⟨bl,0,none⟩) K K)∧W.frozen? ⟨R,0,none⟩ = false :=
 ⟨(a0L h.r 0).trans rfl,(a0L h.r 1).trans rfl,a0Q h.r 0⟩
theorem RS.lwc (h:RS B R bl K lw v l W) {x:Nat} (hx:x < K):W.cell? ⟨bl,x,none⟩ = some (.int .i64 (lw x:Nat)):=(a0L h.lo x).trans (a3K _ hx)
theorem RS.form (h:RS B R bl K lw v l W) (hp:0 < l.length):∃ g cap,v = .slice (some ⟨g,0,none⟩) l.length cap∧l.length≤cap∧(∀ i (hi:i < l.length),W.cell? ⟨g,i,none⟩ = some (.int .i64 (l[i]:Nat))∧W.frozen? ⟨g,i,none⟩ = false):=by
 have ho:=Kd.a3A h.st;rcases ho.2 with ⟨rfl,h0⟩ | ⟨g,cap,cur,rfl,hb,hh,hn,hc,ht⟩
 ·rw [a1U] at h0;omega
 ·rw [a1U] at hn;refine ⟨g,cap,by rw [a1U],hn,fun i hi =>⟨?_,a0Q hh i⟩⟩;obtain ⟨A,c,e,_,hC⟩:=Kd.a4E h.st;injection e with e1 _ _
  subst e1;obtain ⟨ad,e2,hm⟩:=Kd.a2R hC (i:Int) (zJ0 i) (by rw [a1U];exact zG1.2 hi);cases e2;rw [zP0,a5N,zY1] at hm;rw [hm];unfold rd;rw [zP0,a7I _ _ hi]
theorem RS.turn (h:RS B R bl K lw v l W) {l1:List Nat} (hr:kI.R 3 W1 B (fun _ =>True) v1 (toI l1)) (hg:W.grownBy W1 v.ownBlock) (hat:v1.ownBlock = v.ownBlock∨∃ b,v1.ownBlock = some b∧W.heap.size≤b) (hbb:Below B W W1) (hm:∀ x,x ∈ l1→x < K) (hl:l1.length≤1000) :
  RS B R bl K lw v1 l1 (W1.setCell ⟨R,0,none⟩ v1)∧Ht B R W v (W1.setCell ⟨R,0,none⟩ v1) v1:=by
 have hb:=h.b;have hlt:=h.bl;have hf:=a1S h.r hg h.nR;have n1:some R≠v1.ownBlock:=Kd.R_ne hr hf qF0;refine ⟨⟨a3G hf 0 _ rfl,a2K (a1S h.lo hg h.nl) (show bl≠R by omega) _,?_,hm,h.b,h.bl,hl⟩,hbb.setCell (p:=⟨R,0,none⟩) hb _,fun k hk hR hv =>?_,hat⟩
 ·exact Kd.a2W (Kd.b4D (p:=⟨R,0,none⟩) (Kd.a6P (ok:=fun k =>some k = v1.ownBlock) rfl hr (fun k hk =>hk.symm)) (fun k hk e =>n1 (by rw [← hk];exact congrArg some (show R = k from e.symm))) _) (fun _ _ =>trivial)
 ·rw [Below.heap_setCell _ _ _ _ hR];exact hg.block k hk hv
end
theorem asInt (x:Int) (w:World):(Instr.typeAssert (.iface 3 (.int .i64 x)) 20 3 false).run Tryz.prog w = .ok (.int .i64 x) w:=by kernel_rfl
def ixP (R x:Nat) (v:Value) (i:Nat):Value:=match i with | 0 =>.pointer (some ⟨R,0,none⟩) | 1 =>.pointer (some ⟨R,0,none⟩) | 2 =>.pointer (some ⟨R,0,none⟩) | 3 =>.pointer (some ⟨R,0,none⟩) | 4 =>v | 5 =>.iface 3 (.int .i64 (x:Nat)) | 6 =>.int .i64 (x:Nat) | 9 =>.pointer (some ⟨R,0,none⟩) | 10 =>.pointer (some ⟨R,0,none⟩) | _ =>undef
def cstP (i:Nat):Bool:=i != 7 && i != 8 && i != 11
structure SP (B R bl K:Nat) (lw:Nat→Nat) (x:Nat) (l:List Nat) (v:Value) (W:World) (done:Nat→Bool) (val:Nat→Value) (Z:World):Prop where
 rs:RS B R bl K lw v l W
 hx:x < K
 hl:l.length + 1≤1000
 vv:∀ i,done i = true→cstP i = true→val i = ixP R x v i
 n4:done 4 = false→done 8 = false
 n7:done 7 = false→done 8 = false
 n8:done 8 = false→done 11 = false
 p8:done 8 = false→Below W.heap.size W Z
 b7:done 7 = true→done 8 = false→∃ Z0,Z = Z0.alloc (.cells #[.int .i64 (x:Nat)] 3)∧val 7 = .slice (some ⟨Z0.heap.size,0,none⟩) 1 1∧Below W.heap.size W Z0
 s8:done 8 = true→done 11 = false→∃ v1,val 8 = v1∧kI.R 3 Z B (fun _ =>True) v1 (toI (l ++ [x]))∧W.grownBy Z v.ownBlock∧(v1.ownBlock = v.ownBlock∨∃ b,v1.ownBlock = some b∧W.heap.size≤b)∧Below B W Z
 s11:done 11 = true→∃ v1,RS B R bl K lw v1 (l ++ [x]) Z∧Ht B R W v Z v1
section
variable {B R bl K:Nat} {lw:Nat→Nat} {x:Nat} {l:List Nat} {v:Value} {W Z:World} {done:Nat→Bool} {val:Nat→Value}
theorem SP.start (h:RS B R bl K lw v l W) (hx:x < K) (hl:l.length + 1≤1000):SP B R bl K lw x l v W (fun _ =>false) (fun _ =>undef) { W with drawn:=W.drawn + 1 } :=
 ⟨h,hx,hl,by simp,fun _ =>rfl,fun _ =>rfl,fun _ =>rfl,fun _ =>(zL0 W.heap.size W).drew,by simp,by simp,by simp⟩
theorem SP.v0 (h:SP B R bl K lw x l v W done val Z) (hd:done 0 = true):val 0 = .pointer (some ⟨R,0,none⟩):=h.vv 0 hd qF0
theorem SP.v1 (h:SP B R bl K lw x l v W done val Z) (hd:done 1 = true):val 1 = .pointer (some ⟨R,0,none⟩):=h.vv 1 hd qF0
theorem SP.v2 (h:SP B R bl K lw x l v W done val Z) (hd:done 2 = true):val 2 = .pointer (some ⟨R,0,none⟩):=h.vv 2 hd qF0
theorem SP.v3 (h:SP B R bl K lw x l v W done val Z) (hd:done 3 = true):val 3 = .pointer (some ⟨R,0,none⟩):=h.vv 3 hd qF0
theorem SP.v4 (h:SP B R bl K lw x l v W done val Z) (hd:done 4 = true):val 4 = v:=h.vv 4 hd qF0
theorem SP.v5 (h:SP B R bl K lw x l v W done val Z) (hd:done 5 = true):val 5 = .iface 3 (.int .i64 (x:Nat)):=h.vv 5 hd qF0
theorem SP.v6 (h:SP B R bl K lw x l v W done val Z) (hd:done 6 = true):val 6 = .int .i64 (x:Nat):=h.vv 6 hd qF0
theorem SP.v9 (h:SP B R bl K lw x l v W done val Z) (hd:done 9 = true):val 9 = .pointer (some ⟨R,0,none⟩):=h.vv 9 hd qF0
theorem SP.v10 (h:SP B R bl K lw x l v W done val Z) (hd:done 10 = true):val 10 = .pointer (some ⟨R,0,none⟩):=h.vv 10 hd qF0
theorem SP.do_ (h:SP B R bl K lw x l v W done val Z) (i:Nat) (hc:cstP i = true) {y:Value} (hy:y = ixP R x v i):SP B R bl K lw x l v W (upd done i) (setv val i y) Z:=by
 have e7:i≠7:=by rintro rfl;cases hc
 have e8:i≠8:=by rintro rfl;cases hc
 have e11:i≠11:=by rintro rfl;cases hc
 refine ⟨h.rs,h.hx,h.hl,fun j hj hcj =>?_,?_,?_,?_,?_,?_,?_,?_⟩
 ·simp only [upd,setv] at hj ⊢;by_cases e:j = i
  ·rw [if_pos e,e];exact hy
  ·rw [if_neg e] at hj ⊢;exact h.vv j hj hcj
 all_goals simp only [upd,setv,if_neg (Ne.symm e7),if_neg (Ne.symm e8),if_neg (Ne.symm e11)]
 ·by_cases e:4 = i
  ·rw [if_pos e];exact fun q =>by cases q
  ·rw [if_neg e];exact h.n4
 ·exact h.n7
 ·exact h.n8
 ·exact h.p8
 ·exact h.b7
 ·exact h.s8
 ·exact h.s11
theorem SP.rd (h:SP B R bl K lw x l v W done val Z) (h4:done 4 = false):Z.cell? ⟨R,0,none⟩ = some v:=(h.rs.below (h.p8 (h.n4 h4))).cf.1
theorem SP.do7 (h:SP B R bl K lw x l v W done val Z) (hd:done 7 = false):SP B R bl K lw x l v W (upd done 7) (setv val 7 (.slice (some ⟨Z.heap.size,0,none⟩) 1 1)) (Z.alloc (.cells #[.int .i64 (x:Nat)] 3)):=by
 have h8:=h.n7 hd;have h11:=h.n8 h8;refine ⟨h.rs,h.hx,h.hl,fun j hj hcj =>?_,?_,?_,?_,?_,?_,?_,?_⟩
 ·have e:j≠7:=by rintro rfl;cases hcj
  simp only [upd,setv,if_neg e] at hj ⊢;exact h.vv j hj hcj
 all_goals simp only [upd,setv,if_true,if_neg (show (4:Nat)≠7 by decide),if_neg (show (8:Nat)≠7 by decide),if_neg (show (11:Nat)≠7 by decide)]
 ·exact h.n4
 ·exact fun q =>by cases q
 ·exact h.n8
 ·exact fun q =>a0C (h.p8 q) _
 ·exact fun _ q =>⟨Z,rfl,rfl,h.p8 q⟩
 ·intro q;rw [h8] at q;cases q
 ·intro q;rw [h11] at q;cases q
theorem SP.do8 {Z0 w1:World} {v1:Value} (h:SP B R bl K lw x l v W done val Z) (h4:done 4 = true) (h7:done 7 = true) (hd:done 8 = false) (hb0:Below W.heap.size W Z0)
  (hr:kI.R 3 w1 B (fun _ =>True) v1 (toI l ++ [((x:Nat):Int)])) (hb:Below B W w1) (hg:Z0.grownBy w1 v.ownBlock) (hat:v1.ownBlock = v.ownBlock∨∃ b,v1.ownBlock = some b∧Z0.heap.size≤b) :
  SP B R bl K lw x l v W (upd done 8) (setv val 8 v1) w1:=by
 have h11:=h.n8 hd;have hgW:W.grownBy w1 v.ownBlock:=⟨hb.os,hb.tape,hb.output,hb.size,fun k hk hne =>(hg.block k (zJ1 hk hb0.size) hne).trans (hb0.block k hk)⟩;refine ⟨h.rs,h.hx,h.hl,fun j hj hcj =>?_,?_,?_,?_,?_,?_,?_,?_⟩
 ·have e:j≠8:=by rintro rfl;cases hcj
  simp only [upd,setv,if_neg e] at hj ⊢;exact h.vv j hj hcj
 all_goals simp only [upd,setv,if_true,if_neg (show (4:Nat)≠8 by decide),if_neg (show (7:Nat)≠8 by decide),if_neg (show (11:Nat)≠8 by decide)]
 ·intro q;rw [h4] at q;cases q
 ·intro q;rw [h7] at q;cases q
 ·exact fun q =>by cases q
 ·exact fun q =>by cases q
 ·exact fun _ q =>by cases q
 ·exact fun _ _ =>⟨v1,rfl,by simpa [toI] using hr,hgW,hat.imp_right (fun ⟨b,e,hle⟩ =>⟨b,e,zE0 hb0.size hle⟩),hb⟩
 ·intro q;rw [h11] at q;cases q
theorem SP.at8 (h:SP B R bl K lw x l v W done val Z) (h8:done 8 = true) (h11:done 11 = false) :
  ∃ A9 n9 c9,val 8 = .slice A9 n9 c9∧Z.cell? ⟨R,0,none⟩ = some v∧Z.frozen? ⟨R,0,none⟩ = false:=by
 obtain ⟨v1,e,hr,hg,_,_⟩:=h.s8 h8 h11;obtain ⟨A,c,e2,_,_⟩:=Kd.a4E hr;have ho:=a1S h.rs.r hg h.rs.nR;exact ⟨A,_,c,e.trans e2,(a0L ho 0).trans rfl,a0Q ho _⟩
theorem SP.do11 (h:SP B R bl K lw x l v W done val Z) (h8:done 8 = true) (hd:done 11 = false) {y v1:Value} (hv:val 8 = v1) :
  SP B R bl K lw x l v W (upd done 11) (setv val 11 y) (Z.setCell ⟨R,0,none⟩ v1):=by
 obtain ⟨v2,e,hr,hg,hat,hb⟩:=h.s8 h8 hd;obtain rfl:v1 = v2:=hv.symm.trans e
 obtain ⟨t1,t2⟩:=h.rs.turn hr hg hat hb (fun y hy =>by
  rcases zY0.1 hy with hy | hy
  ·exact h.rs.mem y hy
  ·rw [zD1.1 hy];exact h.hx) (by rw [zQ0];exact h.hl)
 refine ⟨h.rs,h.hx,h.hl,fun j hj hcj =>?_,?_,?_,?_,?_,?_,?_,?_⟩
 ·have e:j≠11:=by rintro rfl;cases hcj
  simp only [upd,setv,if_neg e] at hj ⊢;exact h.vv j hj hcj
 all_goals simp only [upd,setv,if_true,if_neg (show (4:Nat)≠11 by decide),if_neg (show (7:Nat)≠11 by decide),if_neg (show (8:Nat)≠11 by decide)]
 ·exact h.n4
 ·exact h.n7
 ·intro q;rw [h8] at q;cases q
 ·intro q;rw [h8] at q;cases q
 ·intro _ q;rw [h8] at q;cases q
 ·exact fun _ q =>by cases q
 ·exact fun _ =>⟨v1,t1,t2⟩
end
theorem b6Z {B R bl K:Nat} {lw:Nat→Nat} {v:Value} {l:List Nat} {W:World} (h:RS B R bl K lw v l W) :
  Calls Tryz.prog 53 #[.pointer (some ⟨R,0,none⟩)] W fun e W' =>e = .returned (.int .i64 (l.length:Nat))∧W' = W:=by
 have ck:=h.cf;obtain ⟨A,c,rfl,_,_⟩:=Kd.a4E h.st;rw [a1U] at ck;go_enter Tryz.func53,Tryz.ntmps53
 go_wp2;go_ret;exact ⟨rfl,rfl⟩
theorem a5L {B R bl K:Nat} {lw:Nat→Nat} {v:Value} {l:List Nat} {W:World} (h:RS B R bl K lw v l W) (i j:Nat) (hi:i < l.length) (hj:j < l.length) :
  Calls Tryz.prog 139 #[.pointer (some ⟨R,0,none⟩),.int .i64 (i:Nat),.int .i64 (j:Nat)] W fun e W' =>e = .returned (.bool (decide (lw l[i] < lw l[j])))∧∃ n,W' = W.drewN n:=by
 have ck:=h.cf;obtain ⟨gv,cap,rfl,hcap,hall⟩:=h.form qD0;obtain ⟨a,ha⟩:∃ a,a = l[i]:=⟨_,rfl⟩;obtain ⟨b,hb⟩:∃ b,b = l[j]:=⟨_,rfl⟩;have zi:=(hall i hi).1;have zj:=(hall j hj).1;rw [← ha] at zi ⊢;rw [← hb] at zj ⊢;have hak:a < K:=h.mem a (ha ▸ zE1 hi);have hbk:b < K:=h.mem b (hb ▸ zE1 hj);have ya:=h.lwc hak;have yb:=h.lwc hbk;have ha0:(0:Int)≤(a:Int):=zJ0 a;have hb0:(0:Int)≤(b:Int):=zJ0 b;have hi0:(0:Int)≤(i:Int):=zJ0 i;have hj0:(0:Int)≤(j:Int):=zJ0 j;have hres:decide ((lw a:Int) < (lw b:Int)) = decide (lw a < lw b):=by simp
 clear ha hb hall;go_enter Tryz.func139,Tryz.ntmps139
 go_upto_region 1 with (fail)
 go_quiet (fail)
 go_wp2;go_ret;exact ⟨by first | rfl | simp [hres],nq,rfl⟩
theorem push_any {B R bl K:Nat} {lw:Nat→Nat} {v:Value} {l:List Nat} {W:World} (h:RS B R bl K lw v l W) (x:Nat) (hx:x < K) (hl:l.length + 1≤1000) (hB:B≤W.heap.size) :
  Calls Tryz.prog 141 #[.pointer (some ⟨R,0,none⟩),.iface 3 (.int .i64 (x:Nat))] W fun e W' =>e = .returned (.tuple #[])∧∃ v',RS B R bl K lw v' (l ++ [x]) W'∧Ht B R W v W' v':=by
 have ck:=h.cf;have RS0:=zA0 h;have ST:=zA0 h.st;have HB:=zA0 hB;have HX:=zA0 hx;have LST:=zA0 (show ((toI l).length + 1) * 8≤140737488355328 by rw [a1U];omega);obtain ⟨A,c,e,_,_⟩:=Kd.a4E h.st;rw [a1U] at e;have HE:=zA0 e;have HLL:=zA0 hl;rw [e] at ck;clear h hB hx e hl;go_enter Tryz.func141,Tryz.ntmps141
 refine (wpIn_wide (n:=5)).1 ?_;refine wpIn_region_any mixedO ?_;refine a3R _ (fun _ =>undef) (fun done val Z =>SP B R bl K lw x l v W done val Z) rfl qE0 _ ?hz9 ?st9 ?en9
 case hz9 =>exact SP.start RS0.out HX.out HLL.out
 case st9 =>
  intro i o done val a Z ho hdn hdep hag hS K2 hK2;have hm:i < 12:=by
   by_cases h:i < 12
   ·exact h
   ·rw [Array.getElem?_eq_none qG1] at ho;cases ho
  obtain rfl | rfl | rfl | rfl | rfl | rfl | rfl | rfl | rfl | rfl | rfl | rfl:i = 0∨i = 1∨i = 2∨i = 3∨i = 4∨i = 5∨i = 6∨i = 7∨i = 8∨i = 9∨i = 10∨i = 11:=by omega
  ·cases ho;have e0:a.eval (.tmp 0) = .pointer (some ⟨R,0,none⟩):=hag.keep 0 rfl;refine a1E (i:=0) (r:=.pointer (some ⟨R,0,none⟩)) (w':=Z) rfl rfl (fun c h =>by cases h) rfl ?_ (hK2 _ _ (hS.do_ 0 rfl rfl));have ec:∀ v,a.eval (.const v) = v:=fun _ =>rfl
   generalize a.eval = ev at *;simp [execOp,go_sem,ec,e0]
  ·cases ho;have e0:a.eval (.tmp 0) = .pointer (some ⟨R,0,none⟩):=hag.keep 0 rfl;refine a1E (i:=1) (r:=.pointer (some ⟨R,0,none⟩)) (w':=Z) rfl rfl (fun c h =>by cases h) rfl ?_ (hK2 _ _ (hS.do_ 1 rfl rfl));have ec:∀ v,a.eval (.const v) = v:=fun _ =>rfl
   generalize a.eval = ev at *;simp [execOp,go_sem,ec,e0]
  ·cases ho;have e5:=(hag.val_ (j:=1) (t:=5) rfl (hdep ⟨1,.data⟩ qI0 rfl)).trans (hS.v1 (hdep ⟨1,.data⟩ qI0 rfl));refine a1E (i:=2) (r:=.pointer (some ⟨R,0,none⟩)) (w':=Z) rfl rfl (fun c h =>by cases h) rfl ?_ (hK2 _ _ (hS.do_ 2 rfl rfl));have ec:∀ v,a.eval (.const v) = v:=fun _ =>rfl
   generalize a.eval = ev at *;simp [execOp,go_sem,ec,e5]
  ·cases ho;have e6:=(hag.val_ (j:=2) (t:=6) rfl (hdep ⟨2,.data⟩ qI0 rfl)).trans (hS.v2 (hdep ⟨2,.data⟩ qI0 rfl));refine a1E (i:=3) (r:=.pointer (some ⟨R,0,none⟩)) (w':=Z) rfl rfl (fun c h =>by cases h) rfl ?_ (hK2 _ _ (hS.do_ 3 rfl rfl));have ec:∀ v,a.eval (.const v) = v:=fun _ =>rfl
   generalize a.eval = ev at *;simp [execOp,go_sem,ec,e6]
  ·cases ho;have e7:=(hag.val_ (j:=3) (t:=7) rfl (hdep ⟨3,.data⟩ qI0 rfl)).trans (hS.v3 (hdep ⟨3,.data⟩ qI0 rfl));have hz:=hS.rd hdn;refine a1E (i:=4) (r:=v) (w':=Z) rfl rfl (fun c h =>by cases h) rfl ?_ (hK2 _ _ (hS.do_ 4 rfl rfl));have ec:∀ v,a.eval (.const v) = v:=fun _ =>rfl
   generalize a.eval = ev at *;simp [execOp,go_sem,ec,e7,hz]
  ·cases ho;have e1:a.eval (.tmp 1) = .iface 3 (.int .i64 (x:Nat)):=hag.keep 1 rfl;refine a1E (i:=5) (r:=.iface 3 (.int .i64 (x:Nat))) (w':=Z) rfl rfl (fun c h =>by cases h) rfl ?_ (hK2 _ _ (hS.do_ 5 rfl rfl));have ec:∀ v,a.eval (.const v) = v:=fun _ =>rfl
   generalize a.eval = ev at *;simp [execOp,go_sem,ec,e1]
  ·cases ho;have e9:=(hag.val_ (j:=5) (t:=9) rfl (hdep ⟨5,.data⟩ qI0 rfl)).trans (hS.v5 (hdep ⟨5,.data⟩ qI0 rfl));refine a1E (i:=6) (r:=.int .i64 (x:Nat)) (w':=Z) rfl rfl (fun c h =>by cases h) rfl ?_ (hK2 _ _ (hS.do_ 6 rfl rfl));have ec:∀ v,a.eval (.const v) = v:=fun _ =>rfl
   generalize a.eval = ev at *;simp [execOp,go_sem,ec,e9,asInt]
  ·cases ho;have e10:=(hag.val_ (j:=6) (t:=10) rfl (hdep ⟨6,.data⟩ qI0 rfl)).trans (hS.v6 (hdep ⟨6,.data⟩ qI0 rfl));refine a1E (i:=7) (r:=.slice (some ⟨Z.heap.size,0,none⟩) 1 1) (w':=Z.alloc (.cells #[.int .i64 (x:Nat)] 3)) rfl rfl (fun c h =>by cases h) rfl ?_ (hK2 _ _ (hS.do7 hdn));generalize a.eval = ev at *;simp [execOp,go_sem,e10]
  ·cases ho;have e8:=(hag.val_ (j:=4) (t:=8) rfl (hdep ⟨4,.data⟩ qI0 rfl)).trans (hS.v4 (hdep ⟨4,.data⟩ qI0 rfl));have e11:=hag.val_ (j:=7) (t:=11) rfl (hdep ⟨7,.data⟩ qI0 rfl);have h7:=hdep ⟨7,.data⟩ qI0 rfl;have h4:=hdep ⟨4,.data⟩ qI0 rfl;obtain ⟨Z0,rfl,e7,hb0⟩:=hS.b7 h7 hdn;rw [e7] at e11;refine a7N (i:=8) (s:=.tmp 8) (x:=.tmp 11) (t:=43) (t':=43) rfl rfl rfl ?_;refine Kd.a5O kI B (w0:=W) rfl (.tmp 8) (.tmp 11) 43 3 (.int .i64 0) 8 rfl Tryz.underlying43 b1K rfl qF0 qF0 v (toI l) ((x:Nat):Int) [.int .i64 ((x:Nat):Int)] (fun _ =>True) (fun _ =>False) e8 e11 rfl (fun _ hk =>hk.elim) (fun _ _ =>trivial) (Kd.a3U ST.out hb0) (hb0.mono HB.out) (zE0 HB.out hb0.size) LST.out ?_;exact fun v1 w1 hr hb hg hat =>hK2 v1 w1 (hS.do8 h4 h7 hdn hb0 hr hb hg hat)
  ·cases ho;have e4:=(hag.val_ (j:=0) (t:=4) rfl (hdep ⟨0,.data⟩ qI0 rfl)).trans (hS.v0 (hdep ⟨0,.data⟩ qI0 rfl));refine a1E (i:=9) (r:=.pointer (some ⟨R,0,none⟩)) (w':=Z) rfl rfl (fun c h =>by cases h) rfl ?_ (hK2 _ _ (hS.do_ 9 rfl rfl));have ec:∀ v,a.eval (.const v) = v:=fun _ =>rfl
   generalize a.eval = ev at *;simp [execOp,go_sem,ec,e4]
  ·cases ho;have e13:=(hag.val_ (j:=9) (t:=13) rfl (hdep ⟨9,.data⟩ qI0 rfl)).trans (hS.v9 (hdep ⟨9,.data⟩ qI0 rfl));refine a1E (i:=10) (r:=.pointer (some ⟨R,0,none⟩)) (w':=Z) rfl rfl (fun c h =>by cases h) rfl ?_ (hK2 _ _ (hS.do_ 10 rfl rfl));have ec:∀ v,a.eval (.const v) = v:=fun _ =>rfl
   generalize a.eval = ev at *;simp [execOp,go_sem,ec,e13]
  ·cases ho;have e14:=(hag.val_ (j:=10) (t:=14) rfl (hdep ⟨10,.data⟩ qI0 rfl)).trans (hS.v10 (hdep ⟨10,.data⟩ qI0 rfl));have e12:=hag.val_ (j:=8) (t:=12) rfl (hdep ⟨8,.data⟩ qI0 rfl);have h8:=hdep ⟨8,.data⟩ qI0 rfl;obtain ⟨A9,n9,c9,e9,hz,hzf⟩:=hS.at8 h8 hdn;rw [e9] at e12;refine a3L (i:=11) rfl rfl (fun c h =>by cases h) rfl (w':=Z.setCell ⟨R,0,none⟩ (.slice A9 n9 c9)) ?_ (hK2 _ _ (hS.do11 h8 hdn e9));have ec:∀ v,a.eval (.const v) = v:=fun _ =>rfl
   generalize a.eval = ev at *;simp [execOp,go_sem,ec,e14,e12,hz,hzf]
 case en9 =>
  intro Z done val hdn hS;simp only [putTmps,dstOf,zV1,zX0,zN1,Nat.reduceAdd,zE2,zM1,zT1,zN0,zC0,zG0,zH0];obtain ⟨v9,hfd9,hbe9⟩:=hS.s11 (hdn 11 qF0);go_wp2;refine bodyPost_end (results_none rfl _ _ _) rfl ?_;exact ⟨rfl,v9,hfd9,hbe9⟩
theorem pop_any {B R bl K:Nat} {lw:Nat→Nat} {v:Value} {l:List Nat} {W:World} (h:RS B R bl K lw v l W) (hp:0 < l.length) (hB:B≤W.heap.size) :
  Calls Tryz.prog 140 #[.pointer (some ⟨R,0,none⟩)] W fun e W' =>e = .returned (.iface 3 (.int .i64 (l[l.length - 1]:Nat)))∧∃ v',RS B R bl K lw v' (l.take (l.length - 1)) W'∧Ht B R W v W' v':=by
 have ck:=h.cf;obtain ⟨gv,cap,rfl,hcap,hall⟩:=h.form hp;obtain ⟨k,hk⟩:∃ k,l.length = k + 1:=⟨l.length - 1,by omega⟩;obtain ⟨i3,hi3,hi3s⟩:=zF1.1 b1K;obtain ⟨htk,_,_⟩:=a7Z (P:=Tryz.prog) (k:=.i64) 43 3 Tryz.underlying43 hi3 qW2 (some ⟨gv,0,none⟩) cap (toI l) (k:Int) (zJ0 k) qT2 (by rw [a1U];exact hcap);rw [a1U,zP0,zI1,a1U,Nat.min_eq_left qD0] at htk;have ht:kI.R 3 W B (fun _ =>True) (.slice (some ⟨gv,0,none⟩) k cap) (toI (l.take k)):=by
  have ho0:=Kd.a3A h.st;rw [a1U] at ho0;have ho:=b0G ho0 (show k≤l.length by omega);refine Kd.a3Z ?_ (fun _ _ =>trivial);have hl:(toI (l.take k)).length = k:=by rw [a1U,zI1];omega
  rw [hl];have he:encs (Value.int .i64) (toI (l.take k)) = (encs (Value.int .i64) (toI l)).take (k * 1):=by simp [encs,toI,List.map_take]
  rw [he];exact ho
 obtain ⟨b,hb⟩:∃ b,b = l[k]:=⟨_,rfl⟩;have zj:=(hall k qD0).1;rw [← hb] at zj;have hlast:l[l.length - 1] = b:=by simp only [hk,Nat.add_sub_cancel,hb]
 rw [hlast];have hle:l.length - 1 = k:=by omega
 rw [hle];rw [hk] at ck htk hcap;have hw:wrap64 (((k + 1:Nat):Int) - 1) = (k:Int):=by have:=h.len;simp only [wrap64];omega
 have hw4:wrap64 (k:Int) = (k:Int):=by have:=h.len;simp only [wrap64];omega
 have hw3:IntKind.i64.wrap (k:Int) = (k:Int):=by rw [Go.Proofs.YthhgfncliffggaaGreatW.PrintLast.a1L];exact hw4
 have hnk:¬ ((k:Int) + 1≤(k:Int)):=by omega
 have hk0:(0:Int)≤(k:Int):=zJ0 k;have hk1:k < k + 1:=zR0 k;have RS0:=zA0 h;have HT:=zA0 ht;have HK:=zA0 hk;have HB:=zA0 hB;clear h ht hk hb hlast hle hall hp hB hi3 hi3s;go_enter Tryz.func140,Tryz.ntmps140
 go_upto_region 1 with (fail)
 refine (wpIn_wide (n:=5)).1 ?_;refine wpIn_region_any mixedO ?_;refine a7G _ (fun ix_ =>match ix_ with | 0 =>.pointer (some ⟨R,0,none⟩) | 1 =>.pointer (some ⟨R,0,none⟩) | 2 =>.pointer (some ⟨R,0,none⟩) | 3 =>.slice (some ⟨gv,0,none⟩) (k + 1) cap | 4 =>.pointer (some ⟨R,0,none⟩) | 5 =>.pointer (some ⟨R,0,none⟩) | 6 =>.pointer (some ⟨R,0,none⟩) | 7 =>.slice (some ⟨gv,0,none⟩) (k + 1) cap | 8 =>.int .i64 ((k + 1:Nat):Int) | 9 =>.int .i64 (k:Nat) | 10 =>.pointer (some ⟨gv,k,none⟩) | 11 =>.int .i64 (b:Nat) | 12 =>.int .i64 (b:Nat) | _ =>undef) (fun done Z =>Below W.heap.size W Z) rfl qE0 _ ?hzq1 ?stq1 ?enq1
 case hzq1 =>exact (zL0 W.heap.size W).drew
 case stq1 =>
  intro m op done a Z ho hdn hdep hag hS K2 hK2;have hm:m < 13:=by
   by_cases h:m < 13
   ·exact h
   ·rw [Array.getElem?_eq_none qG1] at ho;cases ho
  have zz:=(RS0.out.below hS).cf.1;rw [HK.out] at zz;have zk:=a0B hS zj;have hw2:=hw;obtain rfl | rfl | rfl | rfl | rfl | rfl | rfl | rfl | rfl | rfl | rfl | rfl | rfl:m = 0∨m = 1∨m = 2∨m = 3∨m = 4∨m = 5∨m = 6∨m = 7∨m = 8∨m = 9∨m = 10∨m = 11∨m = 12:=by omega
  ·cases ho;have e0:a.eval (.tmp 0) = .pointer (some ⟨R,0,none⟩):=hag.keep 0 rfl;refine a0G (i:=0) rfl rfl (fun c h =>by cases h) rfl ?_ (hK2 Z hS);have ec:∀ v,a.eval (.const v) = v:=fun _ =>rfl
   generalize a.eval = ev at *;simp [execOp,go_sem,ec,e0]
  ·cases ho;have e4:=hag.val_ (j:=0) (t:=4) rfl (hdep ⟨0,.data⟩ qI0 rfl);refine a0G (i:=1) rfl rfl (fun c h =>by cases h) rfl ?_ (hK2 Z hS);have ec:∀ v,a.eval (.const v) = v:=fun _ =>rfl
   generalize a.eval = ev at *;simp [execOp,go_sem,ec,e4]
  ·cases ho;have e5:=hag.val_ (j:=1) (t:=5) rfl (hdep ⟨1,.data⟩ qI0 rfl);refine a0G (i:=2) rfl rfl (fun c h =>by cases h) rfl ?_ (hK2 Z hS);have ec:∀ v,a.eval (.const v) = v:=fun _ =>rfl
   generalize a.eval = ev at *;simp [execOp,go_sem,ec,e5]
  ·cases ho;have e6:=hag.val_ (j:=2) (t:=6) rfl (hdep ⟨2,.data⟩ qI0 rfl);refine a0G (i:=3) rfl rfl (fun c h =>by cases h) rfl ?_ (hK2 Z hS);have ec:∀ v,a.eval (.const v) = v:=fun _ =>rfl
   generalize a.eval = ev at *;simp [execOp,go_sem,ec,e6,zz]
  ·cases ho;have e0:a.eval (.tmp 0) = .pointer (some ⟨R,0,none⟩):=hag.keep 0 rfl;refine a0G (i:=4) rfl rfl (fun c h =>by cases h) rfl ?_ (hK2 Z hS);have ec:∀ v,a.eval (.const v) = v:=fun _ =>rfl
   generalize a.eval = ev at *;simp [execOp,go_sem,ec,e0]
  ·cases ho;have e8:=hag.val_ (j:=4) (t:=8) rfl (hdep ⟨4,.data⟩ qI0 rfl);refine a0G (i:=5) rfl rfl (fun c h =>by cases h) rfl ?_ (hK2 Z hS);have ec:∀ v,a.eval (.const v) = v:=fun _ =>rfl
   generalize a.eval = ev at *;simp [execOp,go_sem,ec,e8]
  ·cases ho;have e9:=hag.val_ (j:=5) (t:=9) rfl (hdep ⟨5,.data⟩ qI0 rfl);refine a0G (i:=6) rfl rfl (fun c h =>by cases h) rfl ?_ (hK2 Z hS);have ec:∀ v,a.eval (.const v) = v:=fun _ =>rfl
   generalize a.eval = ev at *;simp [execOp,go_sem,ec,e9]
  ·cases ho;have e10:=hag.val_ (j:=6) (t:=10) rfl (hdep ⟨6,.data⟩ qI0 rfl);refine a0G (i:=7) rfl rfl (fun c h =>by cases h) rfl ?_ (hK2 Z hS);have ec:∀ v,a.eval (.const v) = v:=fun _ =>rfl
   generalize a.eval = ev at *;simp [execOp,go_sem,ec,e10,zz]
  ·cases ho;have e11:=hag.val_ (j:=7) (t:=11) rfl (hdep ⟨7,.data⟩ qI0 rfl);refine a0G (i:=8) rfl rfl (fun c h =>by cases h) ?_ ?_ (hK2 Z hS)
   ·generalize a.eval = ev at *;simp [Oper.about,resolve,Target.leads,Sem.run_pure,go_sem,e11]
   ·have ec:∀ v,a.eval (.const v) = v:=fun _ =>rfl
    generalize a.eval = ev at *;simp [execOp,go_sem,ec,e11]
  ·cases ho;have e12:=hag.val_ (j:=8) (t:=12) rfl (hdep ⟨8,.data⟩ qI0 rfl);refine a0G (i:=9) rfl rfl (fun c h =>by cases h) rfl ?_ (hK2 Z hS);have ec:∀ v,a.eval (.const v) = v:=fun _ =>rfl
   generalize a.eval = ev at *;simp [execOp,go_sem,ec,e12,hw,hw3]
  ·cases ho;have e7:=hag.val_ (j:=3) (t:=7) rfl (hdep ⟨3,.data⟩ qI0 rfl);have e13:=hag.val_ (j:=9) (t:=13) rfl (hdep ⟨9,.data⟩ qI0 rfl);refine a0G (i:=10) rfl rfl (fun c h =>by cases h) ?_ ?_ (hK2 Z hS)
   ·generalize a.eval = ev at *;simp [Oper.about,resolve,Target.leads,Sem.run_pure,go_sem,e7,e13,hk1,hk0,hnk]
   ·have ec:∀ v,a.eval (.const v) = v:=fun _ =>rfl
    generalize a.eval = ev at *;simp [execOp,go_sem,ec,e7,e13,hk1,hk0,hnk]
  ·cases ho;have e14:=hag.val_ (j:=10) (t:=14) rfl (hdep ⟨10,.data⟩ qI0 rfl);refine a0G (i:=11) rfl rfl (fun c h =>by cases h) rfl ?_ (hK2 Z hS);have ec:∀ v,a.eval (.const v) = v:=fun _ =>rfl
   generalize a.eval = ev at *;simp [execOp,go_sem,ec,e14,zk]
  ·cases ho;have e15:=hag.val_ (j:=11) (t:=15) rfl (hdep ⟨11,.data⟩ qI0 rfl);refine a0G (i:=12) rfl rfl (fun c h =>by cases h) rfl ?_ (hK2 Z hS);have ec:∀ v,a.eval (.const v) = v:=fun _ =>rfl
   generalize a.eval = ev at *;simp [execOp,go_sem,ec,e15]
 case enq1 =>
  intro Z1 done hdn hS;simp only [putTmps,dstOf,zV1,zX0,zN1,Nat.reduceAdd,zE2,zM1,zT1,zN0,zC0,zG0,zH0];have RS1:=zA0 (RS0.out.below hS);have HB1:=zA0 hS;have ck:=RS1.out.cf;rw [HK.out] at ck;clear hS hdn;go_upto_region 2 with (fail)
  go_still_tail 14,mixedO
  change wpList _ _ _ _ _ (World.drew Z1);have hb2:=HB1.out.trans (a2D (zL0 W.heap.size Z1));have rs2:=RS0.out.below hb2;have ht2:=Kd.a3U HT.out hb2;clear ck htk;generalize World.drew Z1 = Z2 at hb2 rs2 ht2 ⊢;have ck:=rs2.cf;rw [HK.out] at ck;have HB2:=zA0 hb2;have RS2:=zA0 rs2;have HT2:=zA0 ht2;clear hb2 rs2 ht2;have c3:Tryz.prog.concrete 3 = true:=by kernel_rfl
  go_wp2;go_ret;obtain ⟨t1,t2⟩:=RS2.out.turn HT2.out ⟨rfl,rfl,rfl,zM0 _,fun _ _ _ =>rfl⟩ (.inl qV2) (zL0 B Z2) (fun x hx =>RS0.out.mem x (zS3 hx)) (by rw [zI1];have:=RS0.out.len;omega);refine ⟨rfl,_,t1,Ht.trans ⟨HB2.out.mono HB.out,fun q hq _ _ =>HB2.out.block q hq,.inl rfl⟩ t2⟩
def swapL (l:List Nat) (i j:Nat):List Nat:=(l.set i (l.getD j 0)).set j (l.getD i 0)
theorem b0W (l:List Nat) (i j:Nat):(swapL l i j).length = l.length:=by simp [swapL]
theorem RS.put {B R bl K:Nat} {lw:Nat→Nat} {l:List Nat} {W:World} {gv cap:Nat} (h:RS B R bl K lw (.slice (some ⟨gv,0,none⟩) l.length cap) l W) (i x:Nat) (hx:x < K) :
  RS B R bl K lw (.slice (some ⟨gv,0,none⟩) l.length cap) (l.set i x) (W.setCell ⟨gv,i,none⟩ (.int .i64 (x:Nat)))∧Ht B R W (.slice (some ⟨gv,0,none⟩) l.length cap) (W.setCell ⟨gv,i,none⟩ (.int .i64 (x:Nat))) (.slice (some ⟨gv,0,none⟩) l.length cap):=by
 have nR:R≠gv:=fun e =>h.nR (by rw [e];rfl)
 have nl:bl≠gv:=fun e =>h.nl (by rw [e];rfl)
 have ho:=Kd.a3A h.st;have hge:B≤gv:=a2M ho gv rfl;rw [a1U] at ho;have h2:(W.setCell ⟨gv,i,none⟩ (.int .i64 (x:Nat))).ownsRow B 3 1 (.slice (some ⟨gv,0,none⟩) l.length cap) (toI (l.set i x)).length (encs (Value.int .i64) (toI (l.set i x))):=by
  have h3:=a1U l;have h4:=b9K (enc:=Value.int .i64) (xs:=toI l) (g:=gv) (cap:=cap) (e:=3) (base:=B) (W:=W) (by rw [h3];exact ho) (i:Int) ((x:Nat):Int);rw [zP0,h3] at h4;have h5:(toI l).set i ((x:Nat):Int) = toI (l.set i x):=by simp [toI,List.map_set]
  rw [h5] at h4;exact h4
 refine ⟨⟨a2K h.r nR _,a2K h.lo nl _,Kd.a3Z h2 (fun _ _ =>trivial),fun y hy =>?_,h.b,h.bl,by rw [zX1];exact h.len⟩,(zL0 B W).setCell (p:=⟨gv,i,none⟩) hge _,fun k hk _ hv =>Below.heap_setCell _ _ _ _ (fun e =>hv (by rw [show k = gv from e];rfl)),.inl rfl⟩;rcases List.mem_or_eq_of_mem_set hy with hy | rfl
 ·exact h.mem y hy
 ·exact hx
structure SW (B R bl K:Nat) (lw:Nat→Nat) (gv cap:Nat) (l:List Nat) (i j a b:Nat) (W:World) (d16 d23 d25 d27:Bool) (Z:World):Prop where
 rs:RS B R bl K lw (.slice (some ⟨gv,0,none⟩) l.length cap) (if d27 = true then (l.set i b).set j a else if d25 = true then l.set i b else l) Z
 ht:Ht B R W (.slice (some ⟨gv,0,none⟩) l.length cap) Z (.slice (some ⟨gv,0,none⟩) l.length cap)
 ha:l[i]? = some a
 hb:l[j]? = some b
 n16:d16 = false→d25 = false
 n23:d23 = false→d25 = false
 n25:d25 = false→d27 = false
section
variable {B R bl K:Nat} {lw:Nat→Nat} {gv cap:Nat} {l:List Nat} {i j a b:Nat} {W Z:World} {d16 d23 d25 d27:Bool}
theorem SW.start (h:RS B R bl K lw (.slice (some ⟨gv,0,none⟩) l.length cap) l W) (ha:l[i]? = some a) (hb:l[j]? = some b):SW B R bl K lw gv cap l i j a b W false false false false W.drew :=
 ⟨by simpa using h.below (a2D (zL0 W.heap.size W)),⟨a2D (zL0 B W),fun _ _ _ _ =>rfl,.inl rfl⟩,ha,hb,fun _ =>rfl,fun _ =>rfl,fun _ =>rfl⟩
theorem SW.cl (h:SW B R bl K lw gv cap l i j a b W d16 d23 d25 d27 Z):(if d27 = true then (l.set i b).set j a else if d25 = true then l.set i b else l).length = l.length:=by
 split
 ·simp
 ·split <;> simp
theorem SW.cell (h:SW B R bl K lw gv cap l i j a b W d16 d23 d25 d27 Z) {x:Nat} (hx:x < l.length):(∃ u,Z.cell? ⟨gv,x,none⟩ = some u)∧Z.frozen? ⟨gv,x,none⟩ = false:=by
 have hl:=h.cl;obtain ⟨g,c,e,_,hall⟩:=h.rs.form qD0;injection e with e1 _ _
 injection e1 with e1
 injection e1 with e1 _ _
 subst e1;have:=hall x qD0;exact ⟨⟨_,this.1⟩,this.2⟩
theorem SW.k16 (h:SW B R bl K lw gv cap l i j a b W d16 d23 d25 d27 Z):SW B R bl K lw gv cap l i j a b W true d23 d25 d27 Z:=⟨h.rs,h.ht,h.ha,h.hb,(fun e =>by cases e),h.n23,h.n25⟩
theorem SW.k23 (h:SW B R bl K lw gv cap l i j a b W d16 d23 d25 d27 Z):SW B R bl K lw gv cap l i j a b W d16 true d25 d27 Z:=⟨h.rs,h.ht,h.ha,h.hb,h.n16,(fun e =>by cases e),h.n25⟩
theorem SW.rd (h:SW B R bl K lw gv cap l i j a b W d16 d23 d25 d27 Z) (h5:d25 = false) {x y:Nat} (hx:l[x]? = some y):Z.cell? ⟨gv,x,none⟩ = some (.int .i64 (y:Nat)):=by
 have hr:=h.rs;rw [h.n25 h5,h5] at hr;simp only [Bool.false_eq_true,if_false] at hr;obtain ⟨h1,h2⟩:=List.getElem?_eq_some_iff.1 hx;obtain ⟨g,c,e,_,hall⟩:=hr.form qD0;injection e with e1 _ _
 injection e1 with e1
 injection e1 with e1 _ _
 subst e1;have:=(hall x h1).1;rwa [h2] at this
theorem SW.rdj (h:SW B R bl K lw gv cap l i j a b W d16 d23 d25 d27 Z) (h5:d16 = false) (hj:j < l.length):Z.cell? ⟨gv,j,none⟩ = some (.int .i64 (b:Nat)):=h.rd (h.n16 h5) h.hb
theorem SW.rdi (h:SW B R bl K lw gv cap l i j a b W d16 d23 d25 d27 Z) (h5:d23 = false) (hi:i < l.length):Z.cell? ⟨gv,i,none⟩ = some (.int .i64 (a:Nat)):=h.rd (h.n23 h5) h.ha
theorem SW.do25 (h:SW B R bl K lw gv cap l i j a b W d16 d23 d25 d27 Z) (h16:d16 = true) (h23:d23 = true) (h5:d25 = false) (hb:b < K):SW B R bl K lw gv cap l i j a b W d16 d23 true d27 (Z.setCell ⟨gv,i,none⟩ (.int .i64 (b:Nat))):=by
 have hr:=h.rs;have h7:=h.n25 h5;rw [h7,h5] at hr;simp only [Bool.false_eq_true,if_false] at hr;obtain ⟨t1,t2⟩:=hr.put i b hb;exact ⟨by rw [h7];simpa using t1,h.ht.trans t2,h.ha,h.hb,fun e =>(by rw [h16] at e;cases e),fun e =>(by rw [h23] at e;cases e),fun e =>by cases e⟩
theorem SW.do27 (h:SW B R bl K lw gv cap l i j a b W d16 d23 d25 d27 Z) (h25:d25 = true) (h7:d27 = false) (ha:a < K) (hi:i < l.length) (hj:j < l.length):SW B R bl K lw gv cap l i j a b W d16 d23 d25 true (Z.setCell ⟨gv,j,none⟩ (.int .i64 (a:Nat))):=by
 have hr:=h.rs;rw [h7,h25] at hr;simp only [Bool.false_eq_true,if_false,if_true] at hr;have hl:(l.set i b).length = l.length:=zX1;obtain ⟨t1,t2⟩:=RS.put (l:=l.set i b) (by rw [hl];exact hr) j a ha;rw [hl] at t1 t2;exact ⟨by simpa using t1,h.ht.trans t2,h.ha,h.hb,h.n16,h.n23,fun e =>by rw [h25] at e;cases e⟩
end
theorem a8Q {B R bl K:Nat} {lw:Nat→Nat} {v:Value} {l:List Nat} {W:World} (h:RS B R bl K lw v l W) (i j:Nat) (hi:i < l.length) (hj:j < l.length) :
  Calls Tryz.prog 142 #[.pointer (some ⟨R,0,none⟩),.int .i64 (i:Nat),.int .i64 (j:Nat)] W fun e W' =>e = .returned (.tuple #[])∧RS B R bl K lw v (swapL l i j) W'∧Ht B R W v W' v:=by
 obtain ⟨gv,cap,rfl,hcap,_⟩:=h.form qD0;obtain ⟨pa,ha⟩:∃ a,l[i]? = some a:=⟨_,zF0 hi⟩;obtain ⟨pb,hb⟩:∃ b,l[j]? = some b:=⟨_,zF0 hj⟩;have hi0:(0:Int)≤(i:Int):=zJ0 i;have hj0:(0:Int)≤(j:Int):=zJ0 j;have HAK:=zA0 (h.mem pa (List.mem_of_getElem? ha));have HBK:=zA0 (h.mem pb (List.mem_of_getElem? hb));have HA:=zA0 ha;have HBB:=zA0 hb;have RS0:=zA0 h;clear ha hb h;go_enter Tryz.func142,Tryz.ntmps142
 refine (wpIn_wide (n:=5)).1 ?_;refine wpIn_region_any mixedO ?_;refine a7G _ (fun ix_ =>match ix_ with | 0 =>.pointer (some ⟨R,0,none⟩) | 1 =>.pointer (some ⟨R,0,none⟩) | 2 =>.pointer (some ⟨R,0,none⟩) | 3 =>.slice (some ⟨gv,0,none⟩) l.length cap | 4 =>.int .i64 (i:Nat) | 5 =>.pointer (some ⟨R,0,none⟩) | 6 =>.pointer (some ⟨R,0,none⟩) | 7 =>.pointer (some ⟨R,0,none⟩) | 8 =>.slice (some ⟨gv,0,none⟩) l.length cap | 9 =>.int .i64 (j:Nat) | 10 =>.pointer (some ⟨R,0,none⟩) | 11 =>.pointer (some ⟨R,0,none⟩) | 12 =>.pointer (some ⟨R,0,none⟩) | 13 =>.slice (some ⟨gv,0,none⟩) l.length cap | 14 =>.int .i64 (j:Nat) | 15 =>.pointer (some ⟨gv,j,none⟩) | 16 =>.int .i64 (pb:Nat) | 17 =>.pointer (some ⟨R,0,none⟩) | 18 =>.pointer (some ⟨R,0,none⟩) | 19 =>.pointer (some ⟨R,0,none⟩) | 20 =>.slice (some ⟨gv,0,none⟩) l.length cap | 21 =>.int .i64 (i:Nat) | 22 =>.pointer (some ⟨gv,i,none⟩) | 23 =>.int .i64 (pa:Nat) | 24 =>.pointer (some ⟨gv,i,none⟩) | 25 =>undef | 26 =>.pointer (some ⟨gv,j,none⟩) | 27 =>undef | _ =>undef) (fun done Z =>SW B R bl K lw gv cap l i j pa pb W (done 16) (done 23) (done 25) (done 27) Z) rfl qE0 _ ?hzsw ?stsw ?ensw
 case hzsw =>exact SW.start RS0.out HA.out HBB.out
 case stsw =>
  intro m op done a Z ho hdn hdep hag hS K2 hK2;have hm:m < 28:=by
   by_cases h:m < 28
   ·exact h
   ·rw [Array.getElem?_eq_none qG1] at ho;cases ho
  have zz:=hS.rs.cf;obtain ⟨⟨ui,zci⟩,zfi⟩:=hS.cell hi;obtain ⟨⟨uj,zcj⟩,zfj⟩:=hS.cell hj;obtain rfl | rfl | rfl | rfl | rfl | rfl | rfl | rfl | rfl | rfl | rfl | rfl | rfl | rfl | rfl | rfl | rfl | rfl | rfl | rfl | rfl | rfl | rfl | rfl | rfl | rfl | rfl | rfl:m = 0∨m = 1∨m = 2∨m = 3∨m = 4∨m = 5∨m = 6∨m = 7∨m = 8∨m = 9∨m = 10∨m = 11∨m = 12∨m = 13∨m = 14∨m = 15∨m = 16∨m = 17∨m = 18∨m = 19∨m = 20∨m = 21∨m = 22∨m = 23∨m = 24∨m = 25∨m = 26∨m = 27:=by omega
  ·cases ho;have e0:a.eval (.tmp 0) = .pointer (some ⟨R,0,none⟩):=hag.keep 0 rfl;refine a0G (i:=0) rfl rfl (fun c h =>by cases h) rfl ?_ (hK2 Z hS);have ec:∀ v,a.eval (.const v) = v:=fun _ =>rfl
   generalize a.eval = ev at *;simp [execOp,go_sem,ec,e0]
  ·cases ho;have e6:=hag.val_ (j:=0) (t:=6) rfl (hdep ⟨0,.data⟩ qI0 rfl);refine a0G (i:=1) rfl rfl (fun c h =>by cases h) rfl ?_ (hK2 Z hS);have ec:∀ v,a.eval (.const v) = v:=fun _ =>rfl
   generalize a.eval = ev at *;simp [execOp,go_sem,ec,e6]
  ·cases ho;have e7:=hag.val_ (j:=1) (t:=7) rfl (hdep ⟨1,.data⟩ qI0 rfl);refine a0G (i:=2) rfl rfl (fun c h =>by cases h) rfl ?_ (hK2 Z hS);have ec:∀ v,a.eval (.const v) = v:=fun _ =>rfl
   generalize a.eval = ev at *;simp [execOp,go_sem,ec,e7]
  ·cases ho;have e8:=hag.val_ (j:=2) (t:=8) rfl (hdep ⟨2,.data⟩ qI0 rfl);refine a0G (i:=3) rfl rfl (fun c h =>by cases h) rfl ?_ (hK2 Z hS);have ec:∀ v,a.eval (.const v) = v:=fun _ =>rfl
   generalize a.eval = ev at *;simp [execOp,go_sem,ec,e8,zz.1]
  ·cases ho;have e1:a.eval (.tmp 1) = .int .i64 (i:Nat):=hag.keep 1 rfl;refine a0G (i:=4) rfl rfl (fun c h =>by cases h) rfl ?_ (hK2 Z hS);have ec:∀ v,a.eval (.const v) = v:=fun _ =>rfl
   generalize a.eval = ev at *;simp [execOp,go_sem,ec,e1]
  ·cases ho;have e0:a.eval (.tmp 0) = .pointer (some ⟨R,0,none⟩):=hag.keep 0 rfl;refine a0G (i:=5) rfl rfl (fun c h =>by cases h) rfl ?_ (hK2 Z hS);have ec:∀ v,a.eval (.const v) = v:=fun _ =>rfl
   generalize a.eval = ev at *;simp [execOp,go_sem,ec,e0]
  ·cases ho;have e11:=hag.val_ (j:=5) (t:=11) rfl (hdep ⟨5,.data⟩ qI0 rfl);refine a0G (i:=6) rfl rfl (fun c h =>by cases h) rfl ?_ (hK2 Z hS);have ec:∀ v,a.eval (.const v) = v:=fun _ =>rfl
   generalize a.eval = ev at *;simp [execOp,go_sem,ec,e11]
  ·cases ho;have e12:=hag.val_ (j:=6) (t:=12) rfl (hdep ⟨6,.data⟩ qI0 rfl);refine a0G (i:=7) rfl rfl (fun c h =>by cases h) rfl ?_ (hK2 Z hS);have ec:∀ v,a.eval (.const v) = v:=fun _ =>rfl
   generalize a.eval = ev at *;simp [execOp,go_sem,ec,e12]
  ·cases ho;have e13:=hag.val_ (j:=7) (t:=13) rfl (hdep ⟨7,.data⟩ qI0 rfl);refine a0G (i:=8) rfl rfl (fun c h =>by cases h) rfl ?_ (hK2 Z hS);have ec:∀ v,a.eval (.const v) = v:=fun _ =>rfl
   generalize a.eval = ev at *;simp [execOp,go_sem,ec,e13,zz.1]
  ·cases ho;have e2:a.eval (.tmp 2) = .int .i64 (j:Nat):=hag.keep 2 rfl;refine a0G (i:=9) rfl rfl (fun c h =>by cases h) rfl ?_ (hK2 Z hS);have ec:∀ v,a.eval (.const v) = v:=fun _ =>rfl
   generalize a.eval = ev at *;simp [execOp,go_sem,ec,e2]
  ·cases ho;have e0:a.eval (.tmp 0) = .pointer (some ⟨R,0,none⟩):=hag.keep 0 rfl;refine a0G (i:=10) rfl rfl (fun c h =>by cases h) rfl ?_ (hK2 Z hS);have ec:∀ v,a.eval (.const v) = v:=fun _ =>rfl
   generalize a.eval = ev at *;simp [execOp,go_sem,ec,e0]
  ·cases ho;have e16:=hag.val_ (j:=10) (t:=16) rfl (hdep ⟨10,.data⟩ qI0 rfl);refine a0G (i:=11) rfl rfl (fun c h =>by cases h) rfl ?_ (hK2 Z hS);have ec:∀ v,a.eval (.const v) = v:=fun _ =>rfl
   generalize a.eval = ev at *;simp [execOp,go_sem,ec,e16]
  ·cases ho;have e17:=hag.val_ (j:=11) (t:=17) rfl (hdep ⟨11,.data⟩ qI0 rfl);refine a0G (i:=12) rfl rfl (fun c h =>by cases h) rfl ?_ (hK2 Z hS);have ec:∀ v,a.eval (.const v) = v:=fun _ =>rfl
   generalize a.eval = ev at *;simp [execOp,go_sem,ec,e17]
  ·cases ho;have e18:=hag.val_ (j:=12) (t:=18) rfl (hdep ⟨12,.data⟩ qI0 rfl);refine a0G (i:=13) rfl rfl (fun c h =>by cases h) rfl ?_ (hK2 Z hS);have ec:∀ v,a.eval (.const v) = v:=fun _ =>rfl
   generalize a.eval = ev at *;simp [execOp,go_sem,ec,e18,zz.1]
  ·cases ho;have e2:a.eval (.tmp 2) = .int .i64 (j:Nat):=hag.keep 2 rfl;refine a0G (i:=14) rfl rfl (fun c h =>by cases h) rfl ?_ (hK2 Z hS);have ec:∀ v,a.eval (.const v) = v:=fun _ =>rfl
   generalize a.eval = ev at *;simp [execOp,go_sem,ec,e2]
  ·cases ho;have e19:=hag.val_ (j:=13) (t:=19) rfl (hdep ⟨13,.data⟩ qI0 rfl);have e20:=hag.val_ (j:=14) (t:=20) rfl (hdep ⟨14,.data⟩ qI0 rfl);refine a0G (i:=15) rfl rfl (fun c h =>by cases h) ?_ ?_ (hK2 Z hS)
   ·generalize a.eval = ev at *;simp [Oper.about,resolve,Target.leads,Sem.run_pure,go_sem,e19,e20,hj,hj0]
   ·have ec:∀ v,a.eval (.const v) = v:=fun _ =>rfl
    generalize a.eval = ev at *;simp [execOp,go_sem,ec,e19,e20,hj,hj0]
  ·cases ho;have e21:=hag.val_ (j:=15) (t:=21) rfl (hdep ⟨15,.data⟩ qI0 rfl);refine a0G (i:=16) rfl rfl (fun c h =>by cases h) rfl ?_ (hK2 Z hS.k16);have ec:∀ v,a.eval (.const v) = v:=fun _ =>rfl
   generalize a.eval = ev at *;simp [execOp,go_sem,ec,e21,(hS.rdj hdn hj)]
  ·cases ho;have e0:a.eval (.tmp 0) = .pointer (some ⟨R,0,none⟩):=hag.keep 0 rfl;refine a0G (i:=17) rfl rfl (fun c h =>by cases h) rfl ?_ (hK2 Z hS);have ec:∀ v,a.eval (.const v) = v:=fun _ =>rfl
   generalize a.eval = ev at *;simp [execOp,go_sem,ec,e0]
  ·cases ho;have e23:=hag.val_ (j:=17) (t:=23) rfl (hdep ⟨17,.data⟩ qI0 rfl);refine a0G (i:=18) rfl rfl (fun c h =>by cases h) rfl ?_ (hK2 Z hS);have ec:∀ v,a.eval (.const v) = v:=fun _ =>rfl
   generalize a.eval = ev at *;simp [execOp,go_sem,ec,e23]
  ·cases ho;have e24:=hag.val_ (j:=18) (t:=24) rfl (hdep ⟨18,.data⟩ qI0 rfl);refine a0G (i:=19) rfl rfl (fun c h =>by cases h) rfl ?_ (hK2 Z hS);have ec:∀ v,a.eval (.const v) = v:=fun _ =>rfl
   generalize a.eval = ev at *;simp [execOp,go_sem,ec,e24]
  ·cases ho;have e25:=hag.val_ (j:=19) (t:=25) rfl (hdep ⟨19,.data⟩ qI0 rfl);refine a0G (i:=20) rfl rfl (fun c h =>by cases h) rfl ?_ (hK2 Z hS);have ec:∀ v,a.eval (.const v) = v:=fun _ =>rfl
   generalize a.eval = ev at *;simp [execOp,go_sem,ec,e25,zz.1]
  ·cases ho;have e1:a.eval (.tmp 1) = .int .i64 (i:Nat):=hag.keep 1 rfl;refine a0G (i:=21) rfl rfl (fun c h =>by cases h) rfl ?_ (hK2 Z hS);have ec:∀ v,a.eval (.const v) = v:=fun _ =>rfl
   generalize a.eval = ev at *;simp [execOp,go_sem,ec,e1]
  ·cases ho;have e26:=hag.val_ (j:=20) (t:=26) rfl (hdep ⟨20,.data⟩ qI0 rfl);have e27:=hag.val_ (j:=21) (t:=27) rfl (hdep ⟨21,.data⟩ qI0 rfl);refine a0G (i:=22) rfl rfl (fun c h =>by cases h) ?_ ?_ (hK2 Z hS)
   ·generalize a.eval = ev at *;simp [Oper.about,resolve,Target.leads,Sem.run_pure,go_sem,e26,e27,hi,hi0]
   ·have ec:∀ v,a.eval (.const v) = v:=fun _ =>rfl
    generalize a.eval = ev at *;simp [execOp,go_sem,ec,e26,e27,hi,hi0]
  ·cases ho;have e28:=hag.val_ (j:=22) (t:=28) rfl (hdep ⟨22,.data⟩ qI0 rfl);refine a0G (i:=23) rfl rfl (fun c h =>by cases h) rfl ?_ (hK2 Z hS.k23);have ec:∀ v,a.eval (.const v) = v:=fun _ =>rfl
   generalize a.eval = ev at *;simp [execOp,go_sem,ec,e28,(hS.rdi hdn hi)]
  ·cases ho;have e9:=hag.val_ (j:=3) (t:=9) rfl (hdep ⟨3,.data⟩ qI0 rfl);have e10:=hag.val_ (j:=4) (t:=10) rfl (hdep ⟨4,.data⟩ qI0 rfl);refine a0G (i:=24) rfl rfl (fun c h =>by cases h) ?_ ?_ (hK2 Z hS)
   ·generalize a.eval = ev at *;simp [Oper.about,resolve,Target.leads,Sem.run_pure,go_sem,e9,e10,hi,hi0]
   ·have ec:∀ v,a.eval (.const v) = v:=fun _ =>rfl
    generalize a.eval = ev at *;simp [execOp,go_sem,ec,e9,e10,hi,hi0]
  ·cases ho;have e30:=hag.val_ (j:=24) (t:=30) rfl (hdep ⟨24,.data⟩ qI0 rfl);have e22:=hag.val_ (j:=16) (t:=22) rfl (hdep ⟨16,.data⟩ qI0 rfl);refine a3L (i:=25) rfl rfl (fun c h =>by cases h) rfl (w':=Z.setCell ⟨gv,i,none⟩ (.int .i64 (pb:Nat))) ?_ (hK2 _ (hS.do25 (hdep ⟨16,.data⟩ qI0 rfl) (hdep ⟨23,.phase⟩ qI0 rfl) hdn HBK.out));have ec:∀ v,a.eval (.const v) = v:=fun _ =>rfl
   generalize a.eval = ev at *;simp [execOp,go_sem,ec,e30,e22,zci,zfi]
  ·cases ho;have e14:=hag.val_ (j:=8) (t:=14) rfl (hdep ⟨8,.data⟩ qI0 rfl);have e15:=hag.val_ (j:=9) (t:=15) rfl (hdep ⟨9,.data⟩ qI0 rfl);refine a0G (i:=26) rfl rfl (fun c h =>by cases h) ?_ ?_ (hK2 Z hS)
   ·generalize a.eval = ev at *;simp [Oper.about,resolve,Target.leads,Sem.run_pure,go_sem,e14,e15,hj,hj0]
   ·have ec:∀ v,a.eval (.const v) = v:=fun _ =>rfl
    generalize a.eval = ev at *;simp [execOp,go_sem,ec,e14,e15,hj,hj0]
  ·cases ho;have e31:=hag.val_ (j:=26) (t:=31) rfl (hdep ⟨26,.data⟩ qI0 rfl);have e29:=hag.val_ (j:=23) (t:=29) rfl (hdep ⟨23,.data⟩ qI0 rfl);refine a3L (i:=27) rfl rfl (fun c h =>by cases h) rfl (w':=Z.setCell ⟨gv,j,none⟩ (.int .i64 (pa:Nat))) ?_ (hK2 _ (hS.do27 (hdep ⟨25,.chain⟩ qI0 rfl) hdn HAK.out hi hj));have ec:∀ v,a.eval (.const v) = v:=fun _ =>rfl
   generalize a.eval = ev at *;simp [execOp,go_sem,ec,e31,e29,zcj,zfj]
 case ensw =>
  intro Z1 done hdn hS;simp only [putTmps,dstOf,zV1,zX0,zN1,Nat.reduceAdd,zE2,zM1,zT1,zN0,zC0,zG0,zH0];have hr:=hS.rs;have ht:=hS.ht;rw [hdn 27 qF0] at hr;simp only [if_true] at hr;have HR9:=zA0 hr;have HT9:=zA0 ht;clear hr ht hS hdn;go_wp2;refine bodyPost_end (results_none rfl _ _ _) rfl ?_;refine ⟨rfl,?_,HT9.out⟩;have e:swapL l i j = (l.set i pb).set j pa:=by
   unfold swapL;rw [zK0,zK0,HA.out,HBB.out];rfl
  rw [e];exact HR9.out
def par (i:Nat):Nat:=(i - 1) / 2
def Hp (k:Nat→Nat) (n:Nat):Prop:=∀ i,0 < i→i < n→k (par i)≤k i
def UpI (k:Nat→Nat) (n j:Nat):Prop:=(∀ i,0 < i→i < n→i≠j→k (par i)≤k i)∧∀ i,0 < i→i < n→0 < j→par i = j→k (par j)≤k i
def DnI (k:Nat→Nat) (n i:Nat):Prop:=(∀ m,0 < m→m < n→par m≠i→k (par m)≤k m)∧∀ m,0 < m→m < n→0 < i→par m = i→k (par i)≤k m
def swk (k:Nat→Nat) (a b:Nat):Nat→Nat:=fun i =>if i = a then k b else if i = b then k a else k i
theorem a5E {i:Nat} (h:0 < i):par i < i:=by unfold par;omega
theorem UpI.zero {k:Nat→Nat} {n:Nat} (h:UpI k n 0):Hp k n:=fun i h0 hi =>h.1 i h0 hi qD0
theorem UpI.stop {k:Nat→Nat} {n j:Nat} (h:UpI k n j) (hk:¬ k j < k (par j)):Hp k n:=fun i h0 hi =>by
 by_cases e:i = j
 ·subst e;omega
 ·exact h.1 i h0 hi e
theorem UpI.step {k:Nat→Nat} {n j:Nat} (h:UpI k n j) (hj:0 < j) (hn:j < n) (hk:k j < k (par j)):UpI (swk k (par j) j) n (par j):=by
 have hp:=a5E hj;refine ⟨fun i h0 hi hne =>?_,fun i h0 hi hp0 he =>?_⟩
 ·have hpi:=a5E h0;by_cases e:i = j
  ·subst e;unfold swk;rw [if_pos rfl,if_neg qD0,if_pos rfl];omega
  ·have h1:=h.1 i h0 hi e;unfold swk;rw [if_neg hne,if_neg e];by_cases e2:par i = par j
   ·rw [if_pos e2];rw [e2] at h1;omega
   ·rw [if_neg e2];by_cases e3:par i = j
    ·rw [if_pos e3];exact h.2 i h0 hi hj e3
    ·rw [if_neg e3];exact h1
 ·have hpp:=a5E hp0;have hpi:=a5E h0;have h2:=h.1 (par j) hp0 qD0 qD0;unfold swk;rw [if_neg qD0,if_neg qD0];rw [if_neg qD0];by_cases e:i = j
  ·rw [if_pos e];exact h2
  ·rw [if_neg e];have h1:=h.1 i h0 hi e;rw [he] at h1;omega
theorem DnI.stop {k:Nat→Nat} {n i j:Nat} (h:DnI k n i) (hj:∀ m,0 < m→m < n→par m = i→k j≤k m) (hk:¬ k j < k i):Hp k n:=fun m h0 hm =>by
 by_cases e:par m = i
 ·have:=hj m h0 hm e;rw [e];omega
 ·exact h.1 m h0 hm e
theorem DnI.none {k:Nat→Nat} {n i:Nat} (h:DnI k n i) (hn:n≤2 * i + 1):Hp k n:=fun m h0 hm =>by
 by_cases e:par m = i
 ·unfold par at e;omega
 ·exact h.1 m h0 hm e
theorem DnI.step {k:Nat→Nat} {n i j:Nat} (h:DnI k n i) (hj:∀ m,0 < m→m < n→par m = i→k j≤k m) (hk:k j < k i) (hj0:0 < j) (hjn:j < n) (hpj:par j = i):DnI (swk k i j) n j:=by
 have hij:i < j:=by have:=a5E hj0;omega
 refine ⟨fun m h0 hm hne =>?_,fun m h0 hm _ he =>?_⟩
 ·have hpm:=a5E h0;by_cases e:m = j
  ·subst e;unfold swk;rw [if_pos hpj,if_neg qD0,if_pos rfl];omega
  ·by_cases e2:par m = i
   ·unfold swk;rw [if_pos e2,if_neg qD0,if_neg e];exact hj m h0 hm e2
   ·by_cases e3:m = i
    ·subst e3;unfold swk;rw [if_neg qD0,if_neg qD0,if_pos rfl];exact h.2 j hj0 hjn h0 hpj
    ·unfold swk;rw [if_neg e2,if_neg hne,if_neg e3,if_neg e];exact h.1 m h0 hm e2
 ·have hpm:=a5E h0;have h1:=h.1 m h0 hm qD0;rw [he] at h1;unfold swk;rw [if_pos hpj,if_neg qD0,if_neg qD0];exact h1
theorem Hp.congr {k k':Nat→Nat} {n:Nat} (h:Hp k n) (e:∀ m,m < n→k' m = k m):Hp k' n:=fun i h0 hi =>by
 have:=a5E h0;rw [e i hi,e (par i) qD0];exact h i h0 hi
theorem UpI.congr {k k':Nat→Nat} {n j:Nat} (h:UpI k n j) (e:∀ m,m < n→k' m = k m):UpI k' n j:=by
 refine ⟨fun i h0 hi hne =>?_,fun i h0 hi hj he =>?_⟩
 ·have:=a5E h0;rw [e i hi,e (par i) qD0];exact h.1 i h0 hi hne
 ·have:=a5E h0;have h3:=a5E hj;rw [e i hi,e (par j) qD0];exact h.2 i h0 hi hj he
theorem DnI.congr {k k':Nat→Nat} {n j:Nat} (h:DnI k n j) (e:∀ m,m < n→k' m = k m):DnI k' n j:=by
 refine ⟨fun i h0 hi hne =>?_,fun i h0 hi hj he =>?_⟩
 ·have:=a5E h0;rw [e i hi,e (par i) qD0];exact h.1 i h0 hi hne
 ·have:=a5E h0;have h3:=a5E hj;rw [e i hi,e (par j) qD0];exact h.2 i h0 hi hj he
theorem Hp.top {k:Nat→Nat} {n:Nat} (h:Hp k n):∀ i,i < n→k 0≤k i:=by
 intro i
 induction i using Nat.strongRecOn with
 | _ i ih =>
  intro hi;rcases zS1 i with h0 | h0
  ·rw [h0];exact zM0 _
  ·have:=a5E h0;exact zE0 (ih (par i) this qD0) (h i h0 hi)
def kys (lw:Nat→Nat) (l:List Nat):Nat→Nat:=fun i =>lw (l.getD i 0)
theorem a3Y (lw:Nat→Nat) (l:List Nat) (i:Nat) (h:i < l.length):lw l[i] = kys lw l i:=by
 unfold kys;rw [zK0,zF0 h];rfl
theorem b0I (lw:Nat→Nat) (l:List Nat) (i j:Nat) (hi:i < l.length) (hj:j < l.length) (m:Nat) (hm:m < l.length):kys lw (swapL l i j) m = swk (kys lw l) i j m:=by
 unfold kys swapL swk;simp only [zK0];rw [List.getElem?_set];by_cases e:j = m
 ·subst e;rw [if_pos rfl,zX1,if_pos hm];by_cases e2:j = i
  ·subst e2;simp
  ·simp [e2]
 ·rw [if_neg e,List.getElem?_set];by_cases e2:i = m
  ·subst e2;simp [hi]
  ·rw [if_neg e2,if_neg (Ne.symm e2),if_neg (Ne.symm e)]
theorem a9H (l:List Nat) (i j:Nat) (hi:i < l.length) (hj:j < l.length):(swapL l i j).Perm l:=by
 rw [List.perm_iff_count];intro a;unfold swapL;rw [List.count_set (by rw [zX1];exact hj),List.count_set hi];have h1:l.getD j 0 = l[j]:=by simp [zK0,hj]
 have h2:l.getD i 0 = l[i]:=by simp [zK0,hi]
 rw [h1,h2,List.getElem_set];have p1:l[i] = a→0 < l.count a:=fun e =>List.count_pos_iff.2 (e ▸ zE1 hi)
 have p2:l[j] = a→0 < l.count a:=fun e =>List.count_pos_iff.2 (e ▸ zE1 hj)
 by_cases e:i = j
 ·subst e;simp only [if_true];by_cases e1:l[i] = a
  ·have:=p1 e1;simp [e1];omega
  ·simp [e1]
 ·rw [if_neg e];by_cases e1:l[i] = a <;> by_cases e2:l[j] = a <;> simp [e1,e2] <;> (first | omega | (have:=p1 e1;omega) | (have:=p2 e2;omega) | skip)
theorem mLen (R:Nat) (w:World):(method 283 86 (.pointer (some ⟨R,0,none⟩)) "Len").run Tryz.prog w = .ok (53,.pointer (some ⟨R,0,none⟩)) w:=by kernel_rfl
theorem mLess (R:Nat) (w:World):(method 283 86 (.pointer (some ⟨R,0,none⟩)) "Less").run Tryz.prog w = .ok (139,.pointer (some ⟨R,0,none⟩)) w:=by kernel_rfl
theorem mSwap (R:Nat) (w:World):(method 283 86 (.pointer (some ⟨R,0,none⟩)) "Swap").run Tryz.prog w = .ok (142,.pointer (some ⟨R,0,none⟩)) w:=by kernel_rfl
theorem mPush (R:Nat) (w:World):(method 283 86 (.pointer (some ⟨R,0,none⟩)) "Push").run Tryz.prog w = .ok (141,.pointer (some ⟨R,0,none⟩)) w:=by kernel_rfl
theorem mPop (R:Nat) (w:World):(method 283 86 (.pointer (some ⟨R,0,none⟩)) "Pop").run Tryz.prog w = .ok (140,.pointer (some ⟨R,0,none⟩)) w:=by kernel_rfl
structure UP (B R bl K:Nat) (lw:Nat→Nat) (v:Value) (l0:List Nat) (W0:World) (j:Nat) (l:List Nat) (W:World):Prop where
 rs:RS B R bl K lw v l W
 pm:l.Perm l0
 up:UpI (kys lw l) l.length j
 ht:Ht B R W0 v W v
theorem up_any {B R bl K:Nat} {lw:Nat→Nat} {v:Value} {l:List Nat} {W:World} (h:RS B R bl K lw v l W) (j:Nat) (hj:j < l.length) (hu:UpI (kys lw l) l.length j) :
  Calls Tryz.prog 76 #[.iface 86 (.pointer (some ⟨R,0,none⟩)),.int .i64 (j:Nat)] W fun e W' =>e = .returned (.tuple #[])∧∃ l',RS B R bl K lw v l' W'∧l'.Perm l∧Hp (kys lw l') l'.length∧Ht B R W v W' v:=by
 have hm1:=mLess R;have hm2:=mSwap R;have H0:=zA0 (show UP B R bl K lw v l W j l W from ⟨h,List.Perm.refl _,hu,Ht.refl _ _ _ _⟩);have HLN:=zA0 h.len;clear h hu;go_enter Tryz.func76,Tryz.ntmps76
 go_wp2;go_loopg [1] j (fun kq v1 w' =>v1 = .int .i64 (kq:Nat)∧kq < l.length∧∃ l',Hid (UP B R bl K lw v l W kq l' w'))
 case atStart =>exact ⟨rfl,hj,l,H0⟩
 case round =>
  obtain ⟨rfl,hjl,l1,HU⟩:=hrel;rcases zS1 gk with h0 | h0
  ·subst h0;go_wp2;refine bodyPost_end (results_none rfl _ _ _) rfl ?_;exact ⟨rfl,l1,HU.out.rs,HU.out.pm,HU.out.up.zero,HU.out.ht⟩
  ·obtain ⟨q,rfl⟩:∃ q,gk = q + 1:=⟨gk - 1,by omega⟩;obtain ⟨p,hp⟩:∃ p,p = par (q + 1):=⟨_,rfl⟩;have hpq:p = q / 2:=by rw [hp];unfold par;rw [Nat.add_sub_cancel]
   have hlen1:l1.length = l.length:=HU.out.pm.length_eq;have hl1:q + 1 < l1.length:=by omega
   have hpl:p < l1.length:=by omega
   have hln:=HLN.out;have hw1:wrap64 (q:Int) = (q:Int):=by simp only [wrap64];omega
   have hw2:wrap64 ((q:Int).tdiv 2) = (p:Int):=by
    have e:(q:Int).tdiv 2 = ((q / 2:Nat):Int):=by rw [Int.tdiv_eq_ediv_of_nonneg (zJ0 q)];rfl
    rw [e,← hpq];simp only [wrap64];omega
   have hw3:wrap64 ((q:Int) / 2) = (p:Int):=by simp only [wrap64];omega
   have hne:((p:Int) == (q:Int) + 1) = false:=by simp;omega
   have hless:=a5L HU.out.rs (q + 1) p hl1 hpl;rw [a3Y lw l1 (q + 1) hl1,a3Y lw l1 p hpl] at hless;have HP:=zA0 hp;have HPQ:=zA0 hpq;have HL1:=zA0 hl1;have HPL:=zA0 hpl;clear hp hpq hl1 hpl hlen1 hln;by_cases hlt:kys lw l1 (q + 1) < kys lw l1 p
   ·rw [show decide (kys lw l1 (q + 1) < kys lw l1 p) = true from zD0 hlt] at hless;have HLESS:=zA0 (show Calls Tryz.prog 139 #[.pointer (some ⟨R,0,none⟩),.int .i64 ((q:Int) + 1),.int .i64 (p:Nat)] wr fun e W' =>e = .returned (.bool true)∧∃ n,W' = wr.drewN n from hless);have HLT:=zA0 hlt;clear hless hlt
    go_upto_region 2 with (first
     | (go_at_call 139;(with_reducible refine HLESS.out.mono ?_;rintro x w1 ⟨rfl,nd,rfl⟩)))
    have hswap:=a8Q (HU.out.rs.drew nd) p (q + 1) HPL.out HL1.out;have HSWAP:=zA0 (show Calls Tryz.prog 142 #[.pointer (some ⟨R,0,none⟩),.int .i64 (p:Nat),.int .i64 ((q:Int) + 1)] (wr.drewN nd) fun e W' =>e = .returned (.tuple #[])∧RS B R bl K lw v (swapL l1 p (q + 1)) W'∧Ht B R (wr.drewN nd) v W' v from hswap);clear hswap
    go_wp2_with (first
     | (go_at_call 142;(with_reducible refine HSWAP.out.mono ?_;rintro x w2 ⟨rfl,hrs2,hht2⟩;have HRS2:=zA0 hrs2;have HHT2:=zA0 hht2;clear hrs2 hht2)))
    go_roundg p
    case measure =>have:=HPQ.out;omega
    case rel =>
     refine ⟨rfl,by have:=HPL.out;have:=HU.out.pm.length_eq;omega,swapL l1 p (q + 1),zA0 ⟨HRS2.out,(a9H l1 p (q + 1) HPL.out HL1.out).trans HU.out.pm,?_,(HU.out.ht.drew nd).trans HHT2.out⟩⟩;rw [b0W];refine UpI.congr ?_ (fun m hm =>b0I lw l1 p (q + 1) HPL.out HL1.out m hm);have hk:kys lw l1 (q + 1) < kys lw l1 (par (q + 1)):=by
      rw [← HP.out];exact HLT.out
     have:=HU.out.up.step (Nat.succ_pos q) HL1.out hk;rw [← HP.out] at this;exact this
   ·rw [show decide (kys lw l1 (q + 1) < kys lw l1 p) = false from zO0 hlt] at hless;have HLESS:=zA0 (show Calls Tryz.prog 139 #[.pointer (some ⟨R,0,none⟩),.int .i64 ((q:Int) + 1),.int .i64 (p:Nat)] wr fun e W' =>e = .returned (.bool false)∧∃ n,W' = wr.drewN n from hless);have HLT:=zA0 hlt;clear hless hlt
    go_wp2_with (first
     | (go_at_call 139;(with_reducible refine HLESS.out.mono ?_;rintro x w1 ⟨rfl,nd,rfl⟩)))
    refine bodyPost_end (results_none rfl _ _ _) rfl ?_;refine ⟨rfl,l1,HU.out.rs.drew nd,HU.out.pm,HU.out.up.stop ?_,HU.out.ht.drew nd⟩;rw [← HP.out];exact HLT.out
structure DN (B R bl K:Nat) (lw:Nat→Nat) (v:Value) (l0:List Nat) (W0:World) (n i:Nat) (l:List Nat) (W:World):Prop where
 rs:RS B R bl K lw v l W
 pm:l.Perm l0
 dn:DnI (kys lw l) n i
 hi:∀ m,n≤m→l[m]? = l0[m]?
 ht:Ht B R W0 v W v
theorem c0I (l:List Nat) (i j m:Nat) (hi:i≠m) (hj:j≠m):(swapL l i j)[m]? = l[m]?:=by
 unfold swapL;rw [List.getElem?_set,if_neg hj,List.getElem?_set,if_neg hi]
theorem DN.next {B R bl K:Nat} {lw:Nat→Nat} {v:Value} {l0 l:List Nat} {W0 W W1:World} {n i j:Nat} (h:DN B R bl K lw v l0 W0 n i l W) (hn:n≤l0.length) (hj0:0 < j) (hjn:j < n) (hin:i < n) (hp:par j = i)
  (hm:∀ m,0 < m→m < n→par m = i→kys lw l j≤kys lw l m) (hk:kys lw l j < kys lw l i) (hr:RS B R bl K lw v (swapL l i j) W1) (ht:Ht B R W0 v W1 v):DN B R bl K lw v l0 W0 n j (swapL l i j) W1:=by
 have hl:=h.pm.length_eq;refine ⟨hr,(a9H l i j qD0 qD0).trans h.pm,?_,fun m hm =>(c0I l i j m qD0 qD0).trans (h.hi m hm),ht⟩;exact (h.dn.step hm hk hj0 hjn hp).congr (fun m hm =>b0I lw l i j qD0 qD0 m qD0)
theorem down_any {B R bl K:Nat} {lw:Nat→Nat} {v:Value} {l:List Nat} {W:World} (h:RS B R bl K lw v l W) (n:Nat) (hn:n≤l.length) (hd:DnI (kys lw l) n 0) :
  Calls Tryz.prog 77 #[.iface 86 (.pointer (some ⟨R,0,none⟩)),.int .i64 0,.int .i64 (n:Nat)] W fun e W' =>(∃ b,e = .returned (.bool b))∧∃ l',RS B R bl K lw v l' W'∧l'.Perm l∧Hp (kys lw l') n∧(∀ m,n≤m→l'[m]? = l[m]?)∧Ht B R W v W' v:=by
 have hm1:=mLess R;have hm2:=mSwap R;have H0:=zA0 (show DN B R bl K lw v l W n 0 l W from ⟨h,List.Perm.refl _,hd,fun _ _ =>rfl,Ht.refl _ _ _ _⟩);have hln:=h.len;have HL0:=zA0 hn;have hn1:n≤1000:=by omega
 clear h hd hn hln;go_enter Tryz.func77,Tryz.ntmps77
 go_wp2;go_loopg [7] n (fun kq v7 w' =>∃ (i:Nat) (l':List Nat),v7 = .int .i64 (i:Nat)∧i + kq = n∧(i < n∨i = 0)∧Hid (DN B R bl K lw v l W n i l' w'))
 case atStart =>exact ⟨0,l,rfl,by omega,.inr rfl,H0⟩
 case round =>
  obtain ⟨i,l1,rfl,hik,hin,HU⟩:=hrel;obtain ⟨c,hc⟩:∃ c,c = 2 * i + 1:=⟨_,rfl⟩;have hw1:wrap64 (2 * (i:Int)) = 2 * (i:Int):=by simp only [wrap64];omega
  have hw2:wrap64 (2 * (i:Int) + 1) = (c:Int):=by simp only [wrap64];omega
  have hw4:wrap64 ((c:Int) + 1) = (c:Int) + 1:=by simp only [wrap64];omega
  have hc0:¬ ((c:Int) < 0):=by omega
  have HLN:=zA0 (show n≤l1.length∧n≤1000 from ⟨by rw [HU.out.pm.length_eq];exact HL0.out,hn1⟩);by_cases hlt:c < n
  ·have hle:¬ (n≤c):=by omega
   have HC:=zA0 (show c = 2 * i + 1∧i < n∧c < n∧i + gk = n from ⟨hc,by omega,hlt,hik⟩);clear hc hik hin;by_cases hj2:c + 1 < n
   ·by_cases hkk:kys lw l1 (c + 1) < kys lw l1 c
    ·have HK2:=zA0 hkk
     have HL2:=zA0 (show Calls Tryz.prog 139 #[.pointer (some ⟨R,0,none⟩),.int .i64 ((c:Int) + 1),.int .i64 (c:Nat)] (wr) fun e W' =>e = .returned (.bool true)∧∃ n,W' = World.drewN (wr) n from by
      have q:=a5L (HU.out.rs) (c + 1) c qM0 qM0;rw [a3Y lw l1 (c + 1) qM0,a3Y lw l1 c qM0] at q;rw [show decide (kys lw l1 (c + 1) < kys lw l1 c) = true from zD0 hkk] at q
      exact q)
     clear hkk
     go_upto_region 8 with (first
      | (go_at_call 139;(with_reducible refine HL2.out.mono ?_;rintro x w1 ⟨rfl,n1,rfl⟩)))
     have hmin:∀ m,0 < m→m < n→par m = i→kys lw l1 (c + 1)≤kys lw l1 m:=by
      intro m h0 hm hp;have hc:=HC.out;have:m = c∨m = c + 1:=by unfold par at hp;omega
      rcases this with rfl | rfl
      ·have:=HK2.out;omega
      ·exact zM0 _
     have HMIN:=zA0 hmin;clear hmin;by_cases hkk:kys lw l1 (c + 1) < kys lw l1 i
     ·have HKK:=zA0 hkk
      have HL3:=zA0 (show Calls Tryz.prog 139 #[.pointer (some ⟨R,0,none⟩),.int .i64 ((c:Int) + 1),.int .i64 (i:Nat)] (World.drewN wr n1) fun e W' =>e = .returned (.bool true)∧∃ n,W' = World.drewN (World.drewN wr n1) n from by
       have q:=a5L (HU.out.rs.drew n1) (c + 1) i qM0 qM0;rw [a3Y lw l1 (c + 1) qM0,a3Y lw l1 i qM0] at q;rw [show decide (kys lw l1 (c + 1) < kys lw l1 i) = true from zD0 hkk] at q
       exact q)
      clear hkk
      go_upto_region 9 with (first
       | (go_at_call 139;(with_reducible refine HL3.out.mono ?_;rintro x w2 ⟨rfl,n2,rfl⟩)))
      have HSW:=zA0 (show Calls Tryz.prog 142 #[.pointer (some ⟨R,0,none⟩),.int .i64 (i:Nat),.int .i64 ((c:Int) + 1)] (World.drewN wr (n1 + n2)) fun e W' =>e = .returned (.tuple #[])∧RS B R bl K lw v (swapL l1 i (c + 1)) W'∧Ht B R (World.drewN wr (n1 + n2)) v W' v from a8Q ((HU.out.rs).drew (n1 + n2)) i (c + 1) qM0 qM0)
      go_wp2_with (first
       | (go_at_call 142;(with_reducible refine HSW.out.mono ?_;rintro x w3 ⟨rfl,hrs3,hht3⟩;have HRS3:=zA0 hrs3;have HHT3:=zA0 hht3;clear hrs3 hht3)))
      go_roundg (n - (c + 1))
      case measure =>have:=HC.out;omega
      case rel =>
       exact ⟨(c + 1),swapL l1 i (c + 1),rfl,by have:=HC.out;omega,by have:=HC.out;omega,zA0 (HU.out.next HL0.out qD2 qD2 qD2 (by unfold par;have:=HC.out;omega) HMIN.out HKK.out HRS3.out (((HU.out.ht).drew (n1 + n2)).trans HHT3.out))⟩
     ·have HKK:=zA0 hkk
      have HL3:=zA0 (show Calls Tryz.prog 139 #[.pointer (some ⟨R,0,none⟩),.int .i64 ((c:Int) + 1),.int .i64 (i:Nat)] (World.drewN wr n1) fun e W' =>e = .returned (.bool false)∧∃ n,W' = World.drewN (World.drewN wr n1) n from by
       have q:=a5L (HU.out.rs.drew n1) (c + 1) i qM0 qM0;rw [a3Y lw l1 (c + 1) qM0,a3Y lw l1 i qM0] at q;rw [show decide (kys lw l1 (c + 1) < kys lw l1 i) = false from zO0 hkk] at q
       exact q)
      clear hkk
      go_wp2_with (first
       | (go_at_call 139;(with_reducible refine HL3.out.mono ?_;rintro x w2 ⟨rfl,n2,rfl⟩)))
      go_ret;exact qX3
    ·have HK2:=zA0 hkk
     have HL2:=zA0 (show Calls Tryz.prog 139 #[.pointer (some ⟨R,0,none⟩),.int .i64 ((c:Int) + 1),.int .i64 (c:Nat)] (wr) fun e W' =>e = .returned (.bool false)∧∃ n,W' = World.drewN (wr) n from by
      have q:=a5L (HU.out.rs) (c + 1) c qM0 qM0;rw [a3Y lw l1 (c + 1) qM0,a3Y lw l1 c qM0] at q;rw [show decide (kys lw l1 (c + 1) < kys lw l1 c) = false from zO0 hkk] at q
      exact q)
     clear hkk
     go_upto_region 8 with (first
      | (go_at_call 139;(with_reducible refine HL2.out.mono ?_;rintro x w1 ⟨rfl,n1,rfl⟩)))
     have hmin:∀ m,0 < m→m < n→par m = i→kys lw l1 c≤kys lw l1 m:=by
      intro m h0 hm hp;have hc:=HC.out;have:m = c∨m = c + 1:=by unfold par at hp;omega
      rcases this with rfl | rfl
      ·exact zM0 _
      ·have:=HK2.out;omega
     have HMIN:=zA0 hmin;clear hmin;by_cases hkk:kys lw l1 c < kys lw l1 i
     ·have HKK:=zA0 hkk
      have HL3:=zA0 (show Calls Tryz.prog 139 #[.pointer (some ⟨R,0,none⟩),.int .i64 (c:Nat),.int .i64 (i:Nat)] (World.drewN wr n1) fun e W' =>e = .returned (.bool true)∧∃ n,W' = World.drewN (World.drewN wr n1) n from by
       have q:=a5L (HU.out.rs.drew n1) c i qM0 qM0;rw [a3Y lw l1 c qM0,a3Y lw l1 i qM0] at q;rw [show decide (kys lw l1 c < kys lw l1 i) = true from zD0 hkk] at q
       exact q)
      clear hkk
      go_upto_region 9 with (first
       | (go_at_call 139;(with_reducible refine HL3.out.mono ?_;rintro x w2 ⟨rfl,n2,rfl⟩)))
      have HSW:=zA0 (show Calls Tryz.prog 142 #[.pointer (some ⟨R,0,none⟩),.int .i64 (i:Nat),.int .i64 (c:Nat)] (World.drewN wr (n1 + n2)) fun e W' =>e = .returned (.tuple #[])∧RS B R bl K lw v (swapL l1 i c) W'∧Ht B R (World.drewN wr (n1 + n2)) v W' v from a8Q ((HU.out.rs).drew (n1 + n2)) i c qM0 qM0)
      go_wp2_with (first
       | (go_at_call 142;(with_reducible refine HSW.out.mono ?_;rintro x w3 ⟨rfl,hrs3,hht3⟩;have HRS3:=zA0 hrs3;have HHT3:=zA0 hht3;clear hrs3 hht3)))
      go_roundg (n - c)
      case measure =>have:=HC.out;omega
      case rel =>
       exact ⟨c,swapL l1 i c,rfl,by have:=HC.out;omega,by have:=HC.out;omega,zA0 (HU.out.next HL0.out qD2 qD2 qD2 (by unfold par;have:=HC.out;omega) HMIN.out HKK.out HRS3.out (((HU.out.ht).drew (n1 + n2)).trans HHT3.out))⟩
     ·have HKK:=zA0 hkk
      have HL3:=zA0 (show Calls Tryz.prog 139 #[.pointer (some ⟨R,0,none⟩),.int .i64 (c:Nat),.int .i64 (i:Nat)] (World.drewN wr n1) fun e W' =>e = .returned (.bool false)∧∃ n,W' = World.drewN (World.drewN wr n1) n from by
       have q:=a5L (HU.out.rs.drew n1) c i qM0 qM0;rw [a3Y lw l1 c qM0,a3Y lw l1 i qM0] at q;rw [show decide (kys lw l1 c < kys lw l1 i) = false from zO0 hkk] at q
       exact q)
      clear hkk
      go_wp2_with (first
       | (go_at_call 139;(with_reducible refine HL3.out.mono ?_;rintro x w2 ⟨rfl,n2,rfl⟩)))
      go_ret;exact qX3
   ·go_upto_region 8 with (fail)
    have hmin:∀ m,0 < m→m < n→par m = i→kys lw l1 c≤kys lw l1 m:=by
     intro m h0 hm hp;have hc:=HC.out;have:m = c∨m = c + 1:=by unfold par at hp;omega
     rcases this with rfl | rfl
     ·exact zM0 _
     ·omega
    have HMIN:=zA0 hmin;clear hmin;by_cases hkk:kys lw l1 c < kys lw l1 i
    ·have HKK:=zA0 hkk
     have HL3:=zA0 (show Calls Tryz.prog 139 #[.pointer (some ⟨R,0,none⟩),.int .i64 (c:Nat),.int .i64 (i:Nat)] (wr) fun e W' =>e = .returned (.bool true)∧∃ n,W' = World.drewN (wr) n from by
      have q:=a5L (HU.out.rs) c i qM0 qM0;rw [a3Y lw l1 c qM0,a3Y lw l1 i qM0] at q;rw [show decide (kys lw l1 c < kys lw l1 i) = true from zD0 hkk] at q
      exact q)
     clear hkk
     go_upto_region 9 with (first
      | (go_at_call 139;(with_reducible refine HL3.out.mono ?_;rintro x w2 ⟨rfl,n2,rfl⟩)))
     have HSW:=zA0 (show Calls Tryz.prog 142 #[.pointer (some ⟨R,0,none⟩),.int .i64 (i:Nat),.int .i64 (c:Nat)] (World.drewN wr n2) fun e W' =>e = .returned (.tuple #[])∧RS B R bl K lw v (swapL l1 i c) W'∧Ht B R (World.drewN wr n2) v W' v from a8Q ((HU.out.rs).drew n2) i c qM0 qM0)
     go_wp2_with (first
      | (go_at_call 142;(with_reducible refine HSW.out.mono ?_;rintro x w3 ⟨rfl,hrs3,hht3⟩;have HRS3:=zA0 hrs3;have HHT3:=zA0 hht3;clear hrs3 hht3)))
     go_roundg (n - c)
     case measure =>have:=HC.out;omega
     case rel =>
      exact ⟨c,swapL l1 i c,rfl,by have:=HC.out;omega,by have:=HC.out;omega,zA0 (HU.out.next HL0.out qD2 qD2 qD2 (by unfold par;have:=HC.out;omega) HMIN.out HKK.out HRS3.out (((HU.out.ht).drew n2).trans HHT3.out))⟩
    ·have HKK:=zA0 hkk
     have HL3:=zA0 (show Calls Tryz.prog 139 #[.pointer (some ⟨R,0,none⟩),.int .i64 (c:Nat),.int .i64 (i:Nat)] (wr) fun e W' =>e = .returned (.bool false)∧∃ n,W' = World.drewN (wr) n from by
      have q:=a5L (HU.out.rs) c i qM0 qM0;rw [a3Y lw l1 c qM0,a3Y lw l1 i qM0] at q;rw [show decide (kys lw l1 c < kys lw l1 i) = false from zO0 hkk] at q
      exact q)
     clear hkk
     go_wp2_with (first
      | (go_at_call 139;(with_reducible refine HL3.out.mono ?_;rintro x w2 ⟨rfl,n2,rfl⟩)))
     go_ret;exact ⟨⟨_,rfl⟩,l1,(HU.out.rs).drew n2,HU.out.pm,HU.out.dn.stop HMIN.out HKK.out,HU.out.hi,(HU.out.ht).drew n2⟩
  ·have hle:n≤c:=by omega
   have HC:=zA0 (show c = 2 * i + 1 from hc);clear hc hik hin;go_wp2;go_ret;refine ⟨?_,l1,HU.out.rs,HU.out.pm,HU.out.dn.none (by rw [← HC.out];exact hle),HU.out.hi,HU.out.ht⟩;by_cases e:0 < i
   ·right;simp [e]
   ·left;simp [e]
theorem b5T {B R bl K:Nat} {lw:Nat→Nat} {v:Value} {l:List Nat} {W:World} (h:RS B R bl K lw v l W) (hh:Hp (kys lw l) l.length) (x:Nat) (hx:x < K) (hl:l.length + 1≤1000) (hB:B≤W.heap.size) :
  Calls Tryz.prog 52 #[.iface 86 (.pointer (some ⟨R,0,none⟩)),.iface 3 (.int .i64 (x:Nat))] W fun e W' =>e = .returned (.tuple #[])∧∃ v' l',RS B R bl K lw v' l' W'∧l'.Perm (l ++ [x])∧Hp (kys lw l') l'.length∧Ht B R W v W' v':=by
 have hm1:=mPush R;have hm2:=mLen R;have hpush:=push_any h x hx hl hB;have HPUSH:=zA0 hpush;have hup:UpI (kys lw (l ++ [x])) (l ++ [x]).length l.length:=by
  rw [zQ0];refine ⟨fun i h0 hi hne =>?_,fun i h0 hi hj he =>?_⟩
  ·have hi':i < l.length:=by simp at hi;omega
   have hp:=a5E h0;have e:∀ m,m < l.length→kys lw (l ++ [x]) m = kys lw l m:=fun m hm =>by
    unfold kys;rw [zK0,zK0,List.getElem?_append_left hm]
   rw [e i hi',e (par i) qD0];exact hh i h0 hi'
  ·exfalso;simp at hi;unfold par at he;omega
 have HUP:=zA0 hup;have hw1:wrap64 ((l.length:Int)) = (l.length:Int):=by simp only [wrap64];omega
 have HB:=zA0 hB;clear hpush hup hh h hB;go_enter Tryz.func52,Tryz.ntmps52
 go_upto_region 1 with (first
  | (go_at_call 141;(with_reducible refine HPUSH.out.mono ?_;rintro z w1 ⟨rfl,v1,hrs1,hht1⟩;have HRS1:=zA0 hrs1;have HHT1:=zA0 hht1;clear hrs1 hht1)))
 have hlen:=b6Z HRS1.out;have HLEN:=zA0 hlen;have HUPA:=zA0 (up_any HRS1.out l.length (by rw [zQ0];exact zR0 _) HUP.out);clear hlen;have hla:((l ++ [x]).length:Int) = (l.length:Int) + 1:=by simp
 go_wp2_with (first
  | (go_at_call 53;(with_reducible refine HLEN.out.mono ?_;rintro z w2 ⟨rfl,hw2⟩;obtain rfl:w1 = w2:=hw2.symm))
  | (go_at_call 76;(with_reducible refine HUPA.out.mono ?_;rintro z w3 ⟨rfl,l3,hrs3,hpm3,hhp3,hht3⟩;have HRS3:=zA0 hrs3;have HPM3:=zA0 hpm3;have HHP3:=zA0 hhp3;have HHT3:=zA0 hht3;clear hrs3 hpm3 hhp3 hht3)))
 refine bodyPost_end (results_none rfl _ _ _) rfl ?_;exact ⟨rfl,v1,l3,HRS3.out,HPM3.out,HHP3.out,HHT1.out.trans HHT3.out⟩
theorem pop_dn {lw:Nat→Nat} {l:List Nat} {k:Nat} (hk:l.length = k + 1) (hh:Hp (kys lw l) l.length):DnI (kys lw (swapL l 0 k)) k 0:=by
 refine ⟨fun m h0 hm hne =>?_,fun m h0 hm h _ =>absurd h (zA2 0)⟩;have hp:=a5E h0;rw [b0I lw l 0 k qD0 qD0 m qD0,b0I lw l 0 k qD0 qD0 (par m) qD0];unfold swk;rw [if_neg hne,if_neg qD0,if_neg qD0,if_neg qD0];exact hh m h0 qD0
theorem take_hp {lw:Nat→Nat} {l:List Nat} {k:Nat} (hk:k≤l.length) (h:Hp (kys lw l) k):Hp (kys lw (l.take k)) (l.take k).length:=by
 have hl:(l.take k).length = k:=by rw [zI1];omega
 rw [hl];refine h.congr (fun m hm =>?_);unfold kys;rw [zK0,zK0,List.getElem?_take,if_pos hm]
theorem pop_perm {l l2:List Nat} {k x:Nat} (hk:l2.length = k + 1) (hx:l2[k]? = some x) (hp:l2.Perm l):(x :: l2.take k).Perm l:=by
 obtain ⟨h1,h2⟩:=List.getElem?_eq_some_iff.1 hx;have e:l2 = l2.take k ++ [x]:=by
  have:=zW0 h1;rw [h2] at this;rw [← this,← hk,zH1]
 refine List.Perm.trans ?_ hp
 conv =>rhs;rw [e]
 exact (List.perm_append_singleton x _).symm
theorem hpop_any {B R bl K:Nat} {lw:Nat→Nat} {v:Value} {l:List Nat} {W:World} (h:RS B R bl K lw v l W) (hh:Hp (kys lw l) l.length) (hp:0 < l.length) (hB:B≤W.heap.size) :
  Calls Tryz.prog 54 #[.iface 86 (.pointer (some ⟨R,0,none⟩))] W fun e W' =>∃ x v' l',e = .returned (.iface 3 (.int .i64 (x:Nat)))∧RS B R bl K lw v' l' W'∧(x :: l').Perm l∧Hp (kys lw l') l'.length∧Ht B R W v W' v'∧∀ y,y ∈ l→lw x≤lw y:=by
 have hm1:=mLen R;have hm2:=mSwap R;have hm3:=mPop R;obtain ⟨k,hk⟩:∃ k,l.length = k + 1:=⟨l.length - 1,by omega⟩;have hkl:=h.len;have hw1:wrap64 (k:Int) = (k:Int):=by simp only [wrap64];omega
 obtain ⟨x,hx⟩:∃ x,l[0]? = some x:=⟨_,zF0 hp⟩;have hmin:∀ y,y ∈ l→lw x≤lw y:=by
  intro y hy;obtain ⟨i,hi,rfl⟩:=List.getElem_of_mem hy;have:=hh.top i hi;unfold kys at this;rw [zK0,zK0,hx,zF0 hi] at this;exact this
 have hdn:=pop_dn hk hh;have hlen:=b6Z h;rw [hk] at hlen;have hswap:=a8Q h 0 k qD0 qD0;have HLEN:=zA0 (show Calls Tryz.prog 53 #[.pointer (some ⟨R,0,none⟩)] W fun e W' =>e = .returned (.int .i64 ((k:Int) + 1))∧W' = W from hlen);have HSW:=zA0 (show Calls Tryz.prog 142 #[.pointer (some ⟨R,0,none⟩),.int .i64 0,.int .i64 (k:Nat)] W fun e W' =>e = .returned (.tuple #[])∧RS B R bl K lw v (swapL l 0 k) W'∧Ht B R W v W' v from hswap);have HDNI:=zA0 hdn;have HK:=zA0 hk;have HX:=zA0 hx;have HMIN:=zA0 hmin;have HB:=zA0 hB;clear hlen hswap hdn hk hx hmin hB h hh hp hkl;go_enter Tryz.func54,Tryz.ntmps54
 go_upto_region 3 with (first
  | (go_at_call 53;(with_reducible refine HLEN.out.mono ?_;rintro z w2 ⟨rfl,hw2⟩;obtain rfl:W = w2:=hw2.symm))
  | (go_at_call 142;(with_reducible refine HSW.out.mono ?_;rintro z w2 ⟨rfl,hrs2,hht2⟩;have HRS2:=zA0 hrs2;have HHT2:=zA0 hht2;clear hrs2 hht2)))
 have HDOWN:=zA0 (down_any HRS2.out k (by rw [b0W,HK.out];exact Nat.le_succ k) HDNI.out)
 go_upto_region 4 with (first
  | (go_at_call 77;(with_reducible refine HDOWN.out.mono ?_;rintro z w3 ⟨⟨b3,rfl⟩,l3,hrs3,hpm3,hhp3,hfar3,hht3⟩;have HRS3:=zA0 hrs3;have HPM3:=zA0 hpm3;have HHP3:=zA0 hhp3;have HHT3:=zA0 hht3;have HFAR3:=zA0 hfar3;clear hrs3 hpm3 hhp3 hht3 hfar3)))
 have hl3:l3.length = k + 1:=by rw [HPM3.out.length_eq,b0W];exact HK.out
 have hx3:l3[k]? = some x:=by
  rw [HFAR3.out k (zM0 k)];unfold swapL;rw [List.getElem?_set,if_pos rfl,zX1,if_pos (by have:=HK.out;omega),zK0,HX.out];rfl
 have hpop:=pop_any HRS3.out qD0 (zE0 HB.out (HHT2.out.trans HHT3.out).be.size);have hlx:l3[l3.length - 1]'qD0 = x:=by
  obtain ⟨h1,h2⟩:=List.getElem?_eq_some_iff.1 hx3;have:l3.length - 1 = k:=by omega
  simp only [this];exact h2
 rw [hlx,show l3.length - 1 = k by omega] at hpop;have HPOP:=zA0 hpop;have HL3:=zA0 hl3;have HX3:=zA0 hx3;clear hpop hlx hl3 hx3
 go_wp2_with (first
  | (go_at_call 140;(with_reducible refine HPOP.out.mono ?_;rintro z w4 ⟨rfl,v4,hrs4,hht4⟩;have HRS4:=zA0 hrs4;have HHT4:=zA0 hht4;clear hrs4 hht4)))
 go_ret;exact ⟨x,v4,l3.take k,rfl,HRS4.out,pop_perm HL3.out HX3.out (HPM3.out.trans (a9H l 0 k (by have:=HK.out;omega) (by have:=HK.out;omega))),take_hp (by have:=HL3.out;omega) HHP3.out,(HHT2.out.trans HHT3.out).trans HHT4.out,HMIN.out⟩
def ix9 (bo bof M n mm:Nat) (g:List (List Int)) (cls:Nat→Nat) (v:Nat→Value) (i:Nat):Value:=match i with | 0 =>.slice (some ⟨bo,0,none⟩) M M | 1 =>.slice (some ⟨bof,0,none⟩) g.length g.length | 2 =>.int .i64 (n:Nat) | 3 =>.pointer (some ⟨bof,n,none⟩) | 4 =>.int .i64 (cls n:Nat) | 5 =>.slice (some ⟨bo,0,none⟩) M M | 6 =>.slice (some ⟨bof,0,none⟩) g.length g.length | 7 =>.int .i64 (n:Nat) | 8 =>.pointer (some ⟨bof,n,none⟩) | 9 =>.int .i64 (cls n:Nat) | 10 =>.pointer (some ⟨bo,cls n,none⟩) | 11 =>v (cls n) | 12 =>.slice (some ⟨bof,0,none⟩) g.length g.length | 13 =>.int .i64 (mm:Nat) | 14 =>.pointer (some ⟨bof,mm,none⟩) | 15 =>.int .i64 (cls mm:Nat) | 18 =>.pointer (some ⟨bo,cls n,none⟩) | _ =>undef
def cst9 (i:Nat):Bool:=i != 16 && i != 17 && i != 19
structure S9 (B bo bof M n mm:Nat) (g:List (List Int)) (cls:Nat→Nat) (v:Nat→Value) (r:Nat→List Nat) (W:World) (done:Nat→Bool) (val:Nat→Value) (Z:World):Prop where
 of:W.heap[bof]? = some (.cells (ints g.length cls) 3 (0,0))
 lo:bof < B
 fd:FD B bo M v r W
 vv:∀ i,done i = true→cst9 i = true→val i = ix9 bo bof M n mm g cls v i
 n11:done 11 = false→done 17 = false
 n16:done 16 = false→done 17 = false
 n17:done 17 = false→done 19 = false
 pz:done 17 = false→Below W.heap.size W Z
 b16:done 16 = true→done 17 = false→∃ Z0,Z = Z0.alloc (.cells #[.int .i64 (cls mm:Nat)] 3)∧val 16 = .slice (some ⟨Z0.heap.size,0,none⟩) 1 1∧Below W.heap.size W Z0
 s17:done 17 = true→done 19 = false→∃ v1,val 17 = v1∧kI.R 3 Z B (fun k =>k≠bo) v1 (toI (r (cls n) ++ [cls mm]))∧W.grownBy Z (v (cls n)).ownBlock∧(v1.ownBlock = (v (cls n)).ownBlock∨∃ b,v1.ownBlock = some b∧W.heap.size≤b)∧Below B W Z
 s19:done 19 = true→∃ v1,FD B bo M (Tarj.upd v (cls n) v1) (Tarj.upd r (cls n) (r (cls n) ++ [cls mm])) Z∧Below B W Z
section
variable {B bo bof M n mm:Nat} {g:List (List Int)} {cls:Nat→Nat} {v:Nat→Value} {r:Nat→List Nat} {W Z:World} {done:Nat→Bool} {val:Nat→Value}
theorem S9.start (of:W.heap[bof]? = some (.cells (ints g.length cls) 3 (0,0))) (lo:bof < B) (fd:FD B bo M v r W):S9 B bo bof M n mm g cls v r W (fun _ =>false) (fun _ =>undef) { W with drawn:=W.drawn + 1 } :=
 ⟨of,lo,fd,by simp,fun _ =>rfl,fun _ =>rfl,fun _ =>rfl,fun _ =>(zL0 W.heap.size W).drew,by simp,by simp,by simp⟩
theorem S9.v0 (h:S9 B bo bof M n mm g cls v r W done val Z) (hd:done 0 = true):val 0 = .slice (some ⟨bo,0,none⟩) M M:=h.vv 0 hd qF0
theorem S9.v1 (h:S9 B bo bof M n mm g cls v r W done val Z) (hd:done 1 = true):val 1 = .slice (some ⟨bof,0,none⟩) g.length g.length:=h.vv 1 hd qF0
theorem S9.v2 (h:S9 B bo bof M n mm g cls v r W done val Z) (hd:done 2 = true):val 2 = .int .i64 (n:Nat):=h.vv 2 hd qF0
theorem S9.v3 (h:S9 B bo bof M n mm g cls v r W done val Z) (hd:done 3 = true):val 3 = .pointer (some ⟨bof,n,none⟩):=h.vv 3 hd qF0
theorem S9.v4 (h:S9 B bo bof M n mm g cls v r W done val Z) (hd:done 4 = true):val 4 = .int .i64 (cls n:Nat):=h.vv 4 hd qF0
theorem S9.v5 (h:S9 B bo bof M n mm g cls v r W done val Z) (hd:done 5 = true):val 5 = .slice (some ⟨bo,0,none⟩) M M:=h.vv 5 hd qF0
theorem S9.v6 (h:S9 B bo bof M n mm g cls v r W done val Z) (hd:done 6 = true):val 6 = .slice (some ⟨bof,0,none⟩) g.length g.length:=h.vv 6 hd qF0
theorem S9.v7 (h:S9 B bo bof M n mm g cls v r W done val Z) (hd:done 7 = true):val 7 = .int .i64 (n:Nat):=h.vv 7 hd qF0
theorem S9.v8 (h:S9 B bo bof M n mm g cls v r W done val Z) (hd:done 8 = true):val 8 = .pointer (some ⟨bof,n,none⟩):=h.vv 8 hd qF0
theorem S9.v9 (h:S9 B bo bof M n mm g cls v r W done val Z) (hd:done 9 = true):val 9 = .int .i64 (cls n:Nat):=h.vv 9 hd qF0
theorem S9.v10 (h:S9 B bo bof M n mm g cls v r W done val Z) (hd:done 10 = true):val 10 = .pointer (some ⟨bo,cls n,none⟩):=h.vv 10 hd qF0
theorem S9.v11 (h:S9 B bo bof M n mm g cls v r W done val Z) (hd:done 11 = true):val 11 = v (cls n):=h.vv 11 hd qF0
theorem S9.v12 (h:S9 B bo bof M n mm g cls v r W done val Z) (hd:done 12 = true):val 12 = .slice (some ⟨bof,0,none⟩) g.length g.length:=h.vv 12 hd qF0
theorem S9.v13 (h:S9 B bo bof M n mm g cls v r W done val Z) (hd:done 13 = true):val 13 = .int .i64 (mm:Nat):=h.vv 13 hd qF0
theorem S9.v14 (h:S9 B bo bof M n mm g cls v r W done val Z) (hd:done 14 = true):val 14 = .pointer (some ⟨bof,mm,none⟩):=h.vv 14 hd qF0
theorem S9.v15 (h:S9 B bo bof M n mm g cls v r W done val Z) (hd:done 15 = true):val 15 = .int .i64 (cls mm:Nat):=h.vv 15 hd qF0
theorem S9.v18 (h:S9 B bo bof M n mm g cls v r W done val Z) (hd:done 18 = true):val 18 = .pointer (some ⟨bo,cls n,none⟩):=h.vv 18 hd qF0
theorem S9.do_ (h:S9 B bo bof M n mm g cls v r W done val Z) (i:Nat) (hc:cst9 i = true) {x:Value} (hx:x = ix9 bo bof M n mm g cls v i):S9 B bo bof M n mm g cls v r W (upd done i) (setv val i x) Z:=by
 have e16:i≠16:=by rintro rfl;cases hc
 have e17:i≠17:=by rintro rfl;cases hc
 have e19:i≠19:=by rintro rfl;cases hc
 refine ⟨h.of,h.lo,h.fd,fun j hj hcj =>?_,?_,?_,?_,?_,?_,?_,?_⟩
 ·simp only [upd,setv] at hj ⊢;by_cases e:j = i
  ·rw [if_pos e,e];exact hx
  ·rw [if_neg e] at hj ⊢;exact h.vv j hj hcj
 all_goals simp only [upd,setv,if_neg (Ne.symm e16),if_neg (Ne.symm e17),if_neg (Ne.symm e19)]
 ·by_cases e:11 = i
  ·rw [if_pos e];exact fun q =>by cases q
  ·rw [if_neg e];exact h.n11
 ·exact h.n16
 ·exact h.n17
 ·exact h.pz
 ·exact h.b16
 ·exact h.s17
 ·exact h.s19
theorem S9.bB (h:S9 B bo bof M n mm g cls v r W done val Z):Below B W Z:=by
 have hb:B≤W.heap.size:=zE0 h.fd.b (zZ1 (a1J h.fd.o));cases e7:done 17 with
 | false =>exact (h.pz e7).mono hb
 | true =>
  cases e9:done 19 with
  | false =>obtain ⟨_,_,_,_,_,q⟩:=h.s17 e7 e9;exact q
  | true =>obtain ⟨_,_,q⟩:=h.s19 e9;exact q
theorem S9.rd (h:S9 B bo bof M n mm g cls v r W done val Z) {j:Nat} (hj:j < g.length):Z.cell? ⟨bof,j,none⟩ = some (.int .i64 (cls j:Nat)) :=
 (a0L ((h.bB.block bof h.lo).trans h.of) j).trans (a3K _ hj)
theorem S9.rdo (h:S9 B bo bof M n mm g cls v r W done val Z) (h11:done 11 = false) (hcn:cls n < M):Z.cell? ⟨bo,cls n,none⟩ = some (v (cls n)) :=
 ((h.fd.below (h.pz (h.n11 h11))).cell hcn).1
theorem S9.do16 (h:S9 B bo bof M n mm g cls v r W done val Z) (hd:done 16 = false):S9 B bo bof M n mm g cls v r W (upd done 16) (setv val 16 (.slice (some ⟨Z.heap.size,0,none⟩) 1 1)) (Z.alloc (.cells #[.int .i64 (cls mm:Nat)] 3)):=by
 have h17:=h.n16 hd;have h19:=h.n17 h17;refine ⟨h.of,h.lo,h.fd,fun j hj hcj =>?_,?_,?_,?_,?_,?_,?_,?_⟩
 ·have e:j≠16:=by rintro rfl;cases hcj
  simp only [upd,setv,if_neg e] at hj ⊢;exact h.vv j hj hcj
 all_goals simp only [upd,setv,if_true,if_neg (show (11:Nat)≠16 by decide),if_neg (show (17:Nat)≠16 by decide),if_neg (show (19:Nat)≠16 by decide)]
 ·exact h.n11
 ·exact fun q =>by cases q
 ·exact h.n17
 ·exact fun q =>a0C (h.pz q) _
 ·exact fun _ q =>⟨Z,rfl,rfl,h.pz q⟩
 ·intro q;rw [h17] at q;cases q
 ·intro q;rw [h19] at q;cases q
theorem S9.do17 {Z0 w1:World} {v1:Value} (h:S9 B bo bof M n mm g cls v r W done val Z) (h11:done 11 = true) (h16:done 16 = true) (hd:done 17 = false) (hb0:Below W.heap.size W Z0)
  (hr:kI.R 3 w1 B (fun k =>k≠bo) v1 (toI (r (cls n)) ++ [((cls mm:Nat):Int)])) (hb:Below B W w1) (hg:Z0.grownBy w1 (v (cls n)).ownBlock) (hat:v1.ownBlock = (v (cls n)).ownBlock∨∃ b,v1.ownBlock = some b∧Z0.heap.size≤b) :
  S9 B bo bof M n mm g cls v r W (upd done 17) (setv val 17 v1) w1:=by
 have h19:=h.n17 hd;have hgW:W.grownBy w1 (v (cls n)).ownBlock:=⟨hb.os,hb.tape,hb.output,hb.size,fun k hk hne =>(hg.block k (zJ1 hk hb0.size) hne).trans (hb0.block k hk)⟩;refine ⟨h.of,h.lo,h.fd,fun j hj hcj =>?_,?_,?_,?_,?_,?_,?_,?_⟩
 ·have e:j≠17:=by rintro rfl;cases hcj
  simp only [upd,setv,if_neg e] at hj ⊢;exact h.vv j hj hcj
 all_goals simp only [upd,setv,if_true,if_neg (show (11:Nat)≠17 by decide),if_neg (show (16:Nat)≠17 by decide),if_neg (show (19:Nat)≠17 by decide)]
 ·intro q;rw [h11] at q;cases q
 ·intro q;rw [h16] at q;cases q
 ·exact fun q =>by cases q
 ·exact fun q =>by cases q
 ·exact fun _ q =>by cases q
 ·exact fun _ _ =>⟨v1,rfl,by simpa [toI] using hr,hgW,hat.imp_right (fun ⟨b,e,hle⟩ =>⟨b,e,zE0 hb0.size hle⟩),hb⟩
 ·intro q;rw [h19] at q;cases q
theorem S9.at17 (h:S9 B bo bof M n mm g cls v r W done val Z) (h17:done 17 = true) (h19:done 19 = false) (hcn:cls n < M) :
  ∃ A9 n9 c9,val 17 = .slice A9 n9 c9∧Z.cell? ⟨bo,cls n,none⟩ = some (v (cls n))∧Z.frozen? ⟨bo,cls n,none⟩ = false:=by
 obtain ⟨v1,e,hr,hg,_,_⟩:=h.s17 h17 h19;obtain ⟨A,c,e2,_,_⟩:=Kd.a4E hr;have ho:=a1S h.fd.o hg (h.fd.ne hcn);exact ⟨A,_,c,e.trans e2,(a0L ho _).trans (a7U _ hcn),a0Q ho _⟩
theorem S9.do19 (h:S9 B bo bof M n mm g cls v r W done val Z) (h17:done 17 = true) (hd:done 19 = false) (hcn:cls n < M) {x v1:Value} (hv:val 17 = v1) :
  S9 B bo bof M n mm g cls v r W (upd done 19) (setv val 19 x) (Z.setCell ⟨bo,cls n,none⟩ v1):=by
 obtain ⟨v2,e,hr,hg,hat,hb⟩:=h.s17 h17 hd;obtain rfl:v1 = v2:=hv.symm.trans e;refine ⟨h.of,h.lo,h.fd,fun j hj hcj =>?_,?_,?_,?_,?_,?_,?_,?_⟩
 ·have e:j≠19:=by rintro rfl;cases hcj
  simp only [upd,setv,if_neg e] at hj ⊢;exact h.vv j hj hcj
 all_goals simp only [upd,setv,if_true,if_neg (show (11:Nat)≠19 by decide),if_neg (show (16:Nat)≠19 by decide),if_neg (show (17:Nat)≠19 by decide)]
 ·exact h.n11
 ·exact h.n16
 ·intro q;rw [h17] at q;cases q
 ·intro q;rw [h17] at q;cases q
 ·intro _ q;rw [h17] at q;cases q
 ·exact fun _ q =>by cases q
 ·exact fun _ =>⟨v1,h.fd.put hcn hr hg hat,h.fd.b5E hcn v1 hg hb⟩
end
def rowIns (cls:Nat→Nat) (n:Nat) (r:Nat→List Nat) (m:Nat):Nat→List Nat:=if cls m = cls n then r else Tarj.upd r (cls n) (r (cls n) ++ [cls m])
def rowsAt (cls:Nat→Nat) (adj:Nat→List Nat) (n:Nat):Nat→List Nat:=(List.range n).foldl (fun r x =>(adj x).foldl (rowIns cls x) r) (fun _ =>[])
theorem b9E (cls:Nat→Nat) (n:Nat) (r:Nat→List Nat) (m c:Nat) (h:∀ i,(r i).length≤c):∀ i,(rowIns cls n r m i).length≤c + 1:=by
 intro i;unfold rowIns
 split
 ·exact Nat.le_succ_of_le (h i)
 ·simp only [Tarj.upd]
  split
  ·rw [zQ0];exact Nat.succ_le_succ (h _)
  ·exact Nat.le_succ_of_le (h i)
def cmpN (l:List Nat):List Nat:=(Go.Lib.compact (srt (toI l))).map Int.toNat
theorem b8C (d:Array Int):∀ m,m≤d.size→∀ x,x ∈ Go.Lib.compactUpTo d m→x ∈ d.toList
 | 0,_,x,h =>by simp [Go.Lib.compactUpTo] at h
 | m + 1,hm,x,h =>by
  rw [Go.Lib.compactUpTo_succ,zY0] at h;rcases h with h | h
  ·exact b8C d m (Nat.le_of_succ_le hm) x h
  ·split at h
   ·rw [zD1] at h;subst h;rw [getElem!_pos d m hm];exact Array.getElem_mem_toList hm
   ·cases h
theorem b6V {l:List Int} {x:Int} (h:x ∈ Go.Lib.compact l):x ∈ l:=by
 have:=b8C l.toArray l.length qI0 x h;simpa using this
theorem b0E (l:List Nat):toI (cmpN l) = Go.Lib.compact (srt (toI l)):=by
 unfold cmpN toI;rw [List.map_map];have key:∀ L:List Int,(∀ x,x ∈ L→0≤x)→L.map (Int.ofNat ∘ Int.toNat) = L:=by
  intro L
  induction L with
  | nil =>intro _;rfl
  | cons a q ih =>
   intro h;rw [zH2,ih (fun x hx =>h x (zV0 _ hx))];have:=h a zU0;simp only [Function.comp,Int.ofNat_eq_natCast];rw [zV3 this]
 refine key _ (fun x hx =>?_);have h1:=b6V hx;rw [show (List.map Int.ofNat l) = toI l from rfl,b3F] at h1;obtain ⟨y,_,rfl⟩:=zG2.1 h1;exact zJ0 y
theorem own_sl {w:World} {base e size n:Nat} {v:Value} {xs:List Value} (h:w.ownsRow base e size v n xs):∃ A n' c,v = .slice A n' c:=by
 rcases h.2 with ⟨rfl,_⟩ | ⟨g,cap,cur,rfl,_⟩ <;> exact ⟨_,_,_,rfl⟩
structure FL (B bo M:Nat) (v:Nat→Value) (r:Nat→List Nat) (W0 W:World):Prop where
 fd:FD B bo M v r W
 be:Below B W0 W
theorem b8K (g:List (List Int)) (hgo:GOk g) (A:Option Addr) (c bof M:Nat) (cls:Nat→Nat) (W:World) (hg:Kd.F kL W (fun k =>k < W.heap.size) A g.length g) (hof:W.heap[bof]? = some (.cells (ints g.length cls) 3 (0,0)))
  (hM:M≤1000) (hcl:∀ x,x < g.length→cls x < M) (hlc:g.length≤c) :
  Calls Tryz.prog 50 #[.slice A g.length c,.slice (some ⟨bof,0,none⟩) g.length g.length,.int .i64 (M:Nat)] W fun e W' =>∃ bo,e = .returned (.slice (some ⟨bo,0,none⟩) M M)∧(∃ v,FD W.heap.size bo M v (fun i =>cmpN (rowsAt cls (adjF g) g.length i)) W')∧Below W.heap.size W W':=by
 have hMl:=a4Z (P:=Tryz.prog) 39 43 (.slice none 0 0) 24 Tryz.underlying39 infoL rfl qF0 (M:Int) (zJ0 M) qU2;rw [zP0] at hMl;have hmade:madeCells #[(.slice none 0 0:Value)] M = vals M (fun _ =>.slice none 0 0):=by
  unfold madeCells vals;apply Array.ext_getElem?;intro j;by_cases hj:j < M
  ·simp [hj,Nat.mod_one]
  ·simp [hj]
 rw [hmade] at hMl;have hbo:FD W.heap.size W.heap.size M (fun _ =>.slice none 0 0) (fun _ =>[]) (W.alloc (.cells (vals M (fun _ =>.slice none 0 0)) 43)):=FD.made (zM0 _);have hbe:Below W.heap.size W (W.alloc (.cells (vals M (fun _ =>.slice none 0 0)) 43)):=a0C (zL0 _ _) _;have hbl:bof < W.heap.size:=a1J hof;have GO:=zA0 hgo;have HG:=zA0 hg;have HOF:=zA0 hof;have HCL:=zA0 hcl;have HBL:=zA0 hbl;have FL0:=zA0 (show FL W.heap.size W.heap.size M (fun _ =>.slice none 0 0) (fun _ =>[]) W (W.alloc (.cells (vals M (fun _ =>.slice none 0 0)) 43)) from ⟨hbo,hbe⟩);have hgl:=hgo.len;clear hmade hbo hbe hgo hg hof hcl hbl;go_enter Tryz.func50,Tryz.ntmps50
 go_upto_region 2 with (fail)
 generalize W.alloc (.cells (vals M (fun _ =>.slice none 0 0)) 43) = W2 at FL0 ⊢;obtain ⟨bo,hbo⟩:∃ bo,W.heap.size = bo:=⟨_,rfl⟩;rw [hbo] at FL0 HG HBL ⊢;have HBO:=zA0 hbo;clear hbo hMl;go_wp2;go_loopg [18] g.length (fun kq v18 w' =>∃ (n:Nat) (v:Nat→Value),n + kq = g.length∧v18 = .int .i64 (n:Nat)∧(∀ i,(rowsAt cls (adjF g) n i).length≤n * 1000)∧Hid (FL bo bo M v (rowsAt cls (adjF g) n) W w'))
 case atStart =>exact ⟨0,_,by omega,rfl,fun i =>zL2 _,FL0⟩
 case round =>
  obtain ⟨n,v0,hn',rfl,hrl,HL⟩:=hrel;by_cases hn:n < g.length
  ·have hn0:(0:Int)≤(n:Int):=zJ0 n;have hGr:=Kd.a6A (W1:=wr) HG.out (fun k hk _ =>HL.out.be.block k hk);obtain ⟨ad,A0,c0,eA,hrow,hle,hF0⟩:=rowA hGr n hn;subst eA;obtain ⟨row,hrw⟩:∃ r,r = g.getD n []:=⟨_,rfl⟩;rw [← hrw] at hrow hle hF0;have FR:=zA0 hF0;have RW:=zA0 hrw;have hrlen:row.length≤1000:=by rw [hrw];exact GO.out.row n
   obtain ⟨k1,rfl⟩:∃ k1,gk = k1 + 1:=⟨gk - 1,by omega⟩;clear hGr hF0 hrw;go_wp2;have HL0:=zA0 (show FL bo bo M v0 (((adjF g n).take 0).foldl (rowIns cls n) (rowsAt cls (adjF g) n)) W wr from by rw [zD2];exact HL.out);have hrl0:∀ i,(((adjF g n).take 0).foldl (rowIns cls n) (rowsAt cls (adjF g) n) i).length≤n * 1000 + 0:=by rw [zD2];exact hrl
   have HRL:=zA0 hrl;have FR1:=zA0 (show ∀ W',(∀ k,k < bo→W'.heap[k]? = wr.heap[k]?)→Kd.F kI W' (fun k =>k < bo) A0 row.length row from fun W' h =>Kd.a6A FR.out (fun k hk _ =>h k hk));have HLW:=zA0 (show ∀ k,k < bo→wr.heap[k]? = W.heap[k]? from fun k hk =>HL.out.be.block k hk);clear hrl HL FR hrow;generalize wr = wr0 at FR1 HLW HL0 ⊢;go_loopg [25] row.length (fun kq v25 w' =>∃ (j:Nat) (v:Nat→Value),j + kq = row.length∧v25 = .int .i64 (j:Nat)∧(∀ i,(((adjF g n).take j).foldl (rowIns cls n) (rowsAt cls (adjF g) n) i).length≤n * 1000 + j)∧Hid (FL bo bo M v (((adjF g n).take j).foldl (rowIns cls n) (rowsAt cls (adjF g) n)) W w'))
   case atStart =>exact ⟨0,v0,by omega,rfl,hrl0,HL0⟩
   case round =>
    obtain ⟨j,v,hj,rfl,hrj,HJ⟩:=hrel;clear HL0 hrl0;have hkw:∀ k,k < bo→wr.heap[k]? = wr0.heap[k]?:=fun k hk =>(HJ.out.be.block k hk).trans (HLW.out k hk).symm
    by_cases hlt:j < row.length
    ·obtain ⟨ad0,eA0,hm⟩:=Kd.a2R (Kd.a5P (FR1.out wr hkw)) (j:Int) (zJ0 j) (zG1.2 hlt);subst eA0;rw [zP0] at hm;obtain ⟨mm,emm,hmm,hmj⟩:∃ mm:Nat,rd row (j:Int) = (mm:Int)∧mm < g.length∧(adjF g n)[j]? = some mm:=by
      have RW':=RW.out;have hlt':j < (g.getD n []).length:=by rw [← RW'];exact hlt
      obtain ⟨m0,m1⟩:=GO.out.ent n hn _ (zE1 hlt');refine ⟨((g.getD n [])[j]).toNat,?_,by omega,by unfold adjF;rw [List.getElem?_map,zF0 hlt'];rfl⟩;unfold rd;rw [RW',zP0,zK0 (l:=g.getD n []),zF0 hlt',zS2];omega
     rw [emm] at hm;clear emm hkw;have HMJ:=zA0 hmj;have hmm0:(0:Int)≤(mm:Int):=zJ0 mm;have hw:=pzS j (zE0 (zZ1 hlt) hrlen);have hcn:cls n < M:=HCL.out n hn;have hcm:cls mm < M:=HCL.out mm hmm;have hcn0:(0:Int)≤(cls n:Int):=zJ0 _;have hofw:wr.heap[bof]? = some (.cells (ints g.length cls) 3 (0,0)):=(HJ.out.be.block bof HBL.out).trans HOF.out;have HOFW:=zA0 hofw;have z1:=(a0L hofw n).trans (a3K _ hn);have z2:=(a0L hofw mm).trans (a3K _ hmm);have HRJ:=zA0 hrj;obtain ⟨k2,rfl⟩:∃ k2,gk = k2 + 1:=⟨gk - 1,by omega⟩;clear hmj hofw hrj;have hstep:((adjF g n).take (j + 1)).foldl (rowIns cls n) (rowsAt cls (adjF g) n) = rowIns cls n (((adjF g n).take j).foldl (rowIns cls n) (rowsAt cls (adjF g) n)) mm:=by
      obtain ⟨h1,h2⟩:=List.getElem?_eq_some_iff.1 HMJ.out;rw [zW0 h1,List.foldl_append,h2];rfl
     have HSTEP:=zA0 hstep;clear hstep;by_cases heq:cls mm = cls n
     ·have hne:((cls mm:Int) != (cls n:Int)) = false:=by simp [heq]
      have HEQ:=zA0 heq;clear heq;go_upto_region 8 with (fail)
      go_quiet (fail)
      have hl5:FL bo bo M v (((adjF g n).take (j + 1)).foldl (rowIns cls n) (rowsAt cls (adjF g) n)) W (wr.drewN nq):=by
       rw [HSTEP.out];unfold rowIns;rw [if_pos HEQ.out];exact ⟨HJ.out.fd.below (a0A (zL0 _ _) nq),HJ.out.be.trans (a0A (zL0 _ _) nq)⟩
      have HL5:=zA0 hl5;have hr5:∀ i,(((adjF g n).take (j + 1)).foldl (rowIns cls n) (rowsAt cls (adjF g) n) i).length≤n * 1000 + (j + 1):=by
       rw [HSTEP.out];unfold rowIns;rw [if_pos HEQ.out];exact fun i =>Nat.le_succ_of_le (HRJ.out i)
      clear hl5 z1 z2 hm;go_wp2;go_roundg k2
      case measure =>exact zR0 _
      case rel =>exact ⟨j + 1,v,by rw [zA1,zC1 1];exact hj,by first | rw [hw] | simp [hw],hr5,HL5⟩
     ·have hne:((cls mm:Int) != (cls n:Int)) = true:=by simpa using (fun h =>heq qD0)
      have HEQ:=zA0 heq;clear heq;go_upto_region 8 with (fail)
      go_quiet (fail)
      have hl5:=HJ.out.fd.below (a0A (zL0 wr.heap.size wr) nq);have hb5:=HJ.out.be.trans (a0A (zL0 bo wr) nq);have hof5:=(a0A (zL0 bo wr) nq).block bof HBL.out;rw [HOFW.out] at hof5;clear z1 z2 hm;generalize wr.drewN nq = W5 at hl5 hb5 hof5 ⊢;obtain ⟨r,hr⟩:∃ r,r = ((adjF g n).take j).foldl (rowIns cls n) (rowsAt cls (adjF g) n):=⟨_,rfl⟩;have HR:=zA0 hr;have hlr:((toI (r (cls n))).length + 1) * 8≤140737488355328:=by
       have:=HRJ.out (cls n);rw [← hr] at this;rw [a1U];have h2:n≤1000:=by have:=GO.out.len;omega
       have h3:n * 1000≤1000 * 1000:=zO1 _ h2;omega
      have HLR:=zA0 hlr;rw [← hr] at hl5;have HFD:=zA0 hl5;have HB5:=zA0 hb5;have HOF5:=zA0 hof5;have HB9:=zA0 (show bo≤W5.heap.size from zZ1 (a1J hl5.o));clear hl5 hb5 hof5 hr hlr;go_upto_region 9 with (fail)
      refine (wpIn_wide (n:=5)).1 ?_;refine wpIn_region_any mixedO ?_;refine a3R _ (fun _ =>undef) (fun done val Z =>S9 bo bo bof M n mm g cls v r W5 done val Z) rfl qE0 _ ?hz9 ?st9 ?en9
      case hz9 =>exact S9.start HOF5.out HBL.out HFD.out
      case st9 =>
       intro i o done val a Z ho hdn hdep hag hS K2 hK2;have hm:i < 20:=by
        by_cases h:i < 20
        ·exact h
        ·rw [Array.getElem?_eq_none qG1] at ho;cases ho
       obtain rfl | rfl | rfl | rfl | rfl | rfl | rfl | rfl | rfl | rfl | rfl | rfl | rfl | rfl | rfl | rfl | rfl | rfl | rfl | rfl:i = 0∨i = 1∨i = 2∨i = 3∨i = 4∨i = 5∨i = 6∨i = 7∨i = 8∨i = 9∨i = 10∨i = 11∨i = 12∨i = 13∨i = 14∨i = 15∨i = 16∨i = 17∨i = 18∨i = 19:=by omega
       ·cases ho;have e7:a.eval (.tmp 7) = .slice (some ⟨bo,0,none⟩) M M:=hag.keep 7 rfl;refine a1E (i:=0) (r:=.slice (some ⟨bo,0,none⟩) M M) (w':=Z) rfl rfl (fun c h =>by cases h) rfl ?_ (hK2 _ _ (hS.do_ 0 rfl rfl));have ec:∀ v,a.eval (.const v) = v:=fun _ =>rfl
        generalize a.eval = ev at *;simp [execOp,go_sem,ec,e7]
       ·cases ho;have e1:a.eval (.tmp 1) = .slice (some ⟨bof,0,none⟩) g.length g.length:=hag.keep 1 rfl;refine a1E (i:=1) (r:=.slice (some ⟨bof,0,none⟩) g.length g.length) (w':=Z) rfl rfl (fun c h =>by cases h) rfl ?_ (hK2 _ _ (hS.do_ 1 rfl rfl));have ec:∀ v,a.eval (.const v) = v:=fun _ =>rfl
        generalize a.eval = ev at *;simp [execOp,go_sem,ec,e1]
       ·cases ho;have e8:a.eval (.tmp 8) = .int .i64 (n:Nat):=hag.keep 8 rfl;refine a1E (i:=2) (r:=.int .i64 (n:Nat)) (w':=Z) rfl rfl (fun c h =>by cases h) rfl ?_ (hK2 _ _ (hS.do_ 2 rfl rfl));have ec:∀ v,a.eval (.const v) = v:=fun _ =>rfl
        generalize a.eval = ev at *;simp [execOp,go_sem,ec,e8]
       ·cases ho;have e39:=(hag.val_ (j:=1) (t:=39) rfl (hdep ⟨1,.data⟩ qI0 rfl)).trans (hS.v1 (hdep ⟨1,.data⟩ qI0 rfl));have e40:=(hag.val_ (j:=2) (t:=40) rfl (hdep ⟨2,.data⟩ qI0 rfl)).trans (hS.v2 (hdep ⟨2,.data⟩ qI0 rfl));refine a0G (i:=3) (r:=.pointer (some ⟨bof,n,none⟩)) (w':=Z) rfl rfl (fun c h =>by cases h) ?_ ?_ (hK2 _ _ (hS.do_ 3 rfl rfl))
        ·generalize a.eval = ev at *;simp [Oper.about,resolve,Target.leads,Sem.run_pure,go_sem,e39,e40,hn,hn0]
        ·have ec:∀ v,a.eval (.const v) = v:=fun _ =>rfl
         generalize a.eval = ev at *;simp [execOp,go_sem,ec,e39,e40,hn,hn0]
       ·cases ho;have e41:=(hag.val_ (j:=3) (t:=41) rfl (hdep ⟨3,.data⟩ qI0 rfl)).trans (hS.v3 (hdep ⟨3,.data⟩ qI0 rfl));have hz:=hS.rd hn;refine a1E (i:=4) (r:=.int .i64 (cls n:Nat)) (w':=Z) rfl rfl (fun c h =>by cases h) rfl ?_ (hK2 _ _ (hS.do_ 4 rfl rfl));have ec:∀ v,a.eval (.const v) = v:=fun _ =>rfl
        generalize a.eval = ev at *;simp [execOp,go_sem,ec,e41,hz]
       ·cases ho;have e7:a.eval (.tmp 7) = .slice (some ⟨bo,0,none⟩) M M:=hag.keep 7 rfl;refine a1E (i:=5) (r:=.slice (some ⟨bo,0,none⟩) M M) (w':=Z) rfl rfl (fun c h =>by cases h) rfl ?_ (hK2 _ _ (hS.do_ 5 rfl rfl));have ec:∀ v,a.eval (.const v) = v:=fun _ =>rfl
        generalize a.eval = ev at *;simp [execOp,go_sem,ec,e7]
       ·cases ho;have e1:a.eval (.tmp 1) = .slice (some ⟨bof,0,none⟩) g.length g.length:=hag.keep 1 rfl;refine a1E (i:=6) (r:=.slice (some ⟨bof,0,none⟩) g.length g.length) (w':=Z) rfl rfl (fun c h =>by cases h) rfl ?_ (hK2 _ _ (hS.do_ 6 rfl rfl));have ec:∀ v,a.eval (.const v) = v:=fun _ =>rfl
        generalize a.eval = ev at *;simp [execOp,go_sem,ec,e1]
       ·cases ho;have e8:a.eval (.tmp 8) = .int .i64 (n:Nat):=hag.keep 8 rfl;refine a1E (i:=7) (r:=.int .i64 (n:Nat)) (w':=Z) rfl rfl (fun c h =>by cases h) rfl ?_ (hK2 _ _ (hS.do_ 7 rfl rfl));have ec:∀ v,a.eval (.const v) = v:=fun _ =>rfl
        generalize a.eval = ev at *;simp [execOp,go_sem,ec,e8]
       ·cases ho;have e44:=(hag.val_ (j:=6) (t:=44) rfl (hdep ⟨6,.data⟩ qI0 rfl)).trans (hS.v6 (hdep ⟨6,.data⟩ qI0 rfl));have e45:=(hag.val_ (j:=7) (t:=45) rfl (hdep ⟨7,.data⟩ qI0 rfl)).trans (hS.v7 (hdep ⟨7,.data⟩ qI0 rfl));refine a0G (i:=8) (r:=.pointer (some ⟨bof,n,none⟩)) (w':=Z) rfl rfl (fun c h =>by cases h) ?_ ?_ (hK2 _ _ (hS.do_ 8 rfl rfl))
        ·generalize a.eval = ev at *;simp [Oper.about,resolve,Target.leads,Sem.run_pure,go_sem,e44,e45,hn,hn0]
        ·have ec:∀ v,a.eval (.const v) = v:=fun _ =>rfl
         generalize a.eval = ev at *;simp [execOp,go_sem,ec,e44,e45,hn,hn0]
       ·cases ho;have e46:=(hag.val_ (j:=8) (t:=46) rfl (hdep ⟨8,.data⟩ qI0 rfl)).trans (hS.v8 (hdep ⟨8,.data⟩ qI0 rfl));have hz:=hS.rd hn;refine a1E (i:=9) (r:=.int .i64 (cls n:Nat)) (w':=Z) rfl rfl (fun c h =>by cases h) rfl ?_ (hK2 _ _ (hS.do_ 9 rfl rfl));have ec:∀ v,a.eval (.const v) = v:=fun _ =>rfl
        generalize a.eval = ev at *;simp [execOp,go_sem,ec,e46,hz]
       ·cases ho;have e43:=(hag.val_ (j:=5) (t:=43) rfl (hdep ⟨5,.data⟩ qI0 rfl)).trans (hS.v5 (hdep ⟨5,.data⟩ qI0 rfl));have e47:=(hag.val_ (j:=9) (t:=47) rfl (hdep ⟨9,.data⟩ qI0 rfl)).trans (hS.v9 (hdep ⟨9,.data⟩ qI0 rfl));refine a0G (i:=10) (r:=.pointer (some ⟨bo,cls n,none⟩)) (w':=Z) rfl rfl (fun c h =>by cases h) ?_ ?_ (hK2 _ _ (hS.do_ 10 rfl rfl))
        ·generalize a.eval = ev at *;simp [Oper.about,resolve,Target.leads,Sem.run_pure,go_sem,e43,e47,hcn,hcn0]
        ·have ec:∀ v,a.eval (.const v) = v:=fun _ =>rfl
         generalize a.eval = ev at *;simp [execOp,go_sem,ec,e43,e47,hcn,hcn0]
       ·cases ho;have e48:=(hag.val_ (j:=10) (t:=48) rfl (hdep ⟨10,.data⟩ qI0 rfl)).trans (hS.v10 (hdep ⟨10,.data⟩ qI0 rfl));have hz:=hS.rdo hdn hcn;refine a1E (i:=11) (r:=v (cls n)) (w':=Z) rfl rfl (fun c h =>by cases h) rfl ?_ (hK2 _ _ (hS.do_ 11 rfl rfl));have ec:∀ v,a.eval (.const v) = v:=fun _ =>rfl
        generalize a.eval = ev at *;simp [execOp,go_sem,ec,e48,hz]
       ·cases ho;have e1:a.eval (.tmp 1) = .slice (some ⟨bof,0,none⟩) g.length g.length:=hag.keep 1 rfl;refine a1E (i:=12) (r:=.slice (some ⟨bof,0,none⟩) g.length g.length) (w':=Z) rfl rfl (fun c h =>by cases h) rfl ?_ (hK2 _ _ (hS.do_ 12 rfl rfl));have ec:∀ v,a.eval (.const v) = v:=fun _ =>rfl
        generalize a.eval = ev at *;simp [execOp,go_sem,ec,e1]
       ·cases ho;have e11:a.eval (.tmp 11) = .int .i64 (mm:Nat):=hag.keep 11 rfl;refine a1E (i:=13) (r:=.int .i64 (mm:Nat)) (w':=Z) rfl rfl (fun c h =>by cases h) rfl ?_ (hK2 _ _ (hS.do_ 13 rfl rfl));have ec:∀ v,a.eval (.const v) = v:=fun _ =>rfl
        generalize a.eval = ev at *;simp [execOp,go_sem,ec,e11]
       ·cases ho;have e50:=(hag.val_ (j:=12) (t:=50) rfl (hdep ⟨12,.data⟩ qI0 rfl)).trans (hS.v12 (hdep ⟨12,.data⟩ qI0 rfl));have e51:=(hag.val_ (j:=13) (t:=51) rfl (hdep ⟨13,.data⟩ qI0 rfl)).trans (hS.v13 (hdep ⟨13,.data⟩ qI0 rfl));refine a0G (i:=14) (r:=.pointer (some ⟨bof,mm,none⟩)) (w':=Z) rfl rfl (fun c h =>by cases h) ?_ ?_ (hK2 _ _ (hS.do_ 14 rfl rfl))
        ·generalize a.eval = ev at *;simp [Oper.about,resolve,Target.leads,Sem.run_pure,go_sem,e50,e51,hmm,hmm0]
        ·have ec:∀ v,a.eval (.const v) = v:=fun _ =>rfl
         generalize a.eval = ev at *;simp [execOp,go_sem,ec,e50,e51,hmm,hmm0]
       ·cases ho;have e52:=(hag.val_ (j:=14) (t:=52) rfl (hdep ⟨14,.data⟩ qI0 rfl)).trans (hS.v14 (hdep ⟨14,.data⟩ qI0 rfl));have hz:=hS.rd hmm;refine a1E (i:=15) (r:=.int .i64 (cls mm:Nat)) (w':=Z) rfl rfl (fun c h =>by cases h) rfl ?_ (hK2 _ _ (hS.do_ 15 rfl rfl));have ec:∀ v,a.eval (.const v) = v:=fun _ =>rfl
        generalize a.eval = ev at *;simp [execOp,go_sem,ec,e52,hz]
       ·cases ho;have e53:=(hag.val_ (j:=15) (t:=53) rfl (hdep ⟨15,.data⟩ qI0 rfl)).trans (hS.v15 (hdep ⟨15,.data⟩ qI0 rfl));refine a1E (i:=16) (r:=.slice (some ⟨Z.heap.size,0,none⟩) 1 1) (w':=Z.alloc (.cells #[.int .i64 (cls mm:Nat)] 3)) rfl rfl (fun c h =>by cases h) rfl ?_ (hK2 _ _ (hS.do16 hdn));generalize a.eval = ev at *;simp [execOp,go_sem,e53]
       ·cases ho;have e49:=(hag.val_ (j:=11) (t:=49) rfl (hdep ⟨11,.data⟩ qI0 rfl)).trans (hS.v11 (hdep ⟨11,.data⟩ qI0 rfl));have e54:=hag.val_ (j:=16) (t:=54) rfl (hdep ⟨16,.data⟩ qI0 rfl);have h16:=hdep ⟨16,.data⟩ qI0 rfl;have h11:=hdep ⟨11,.data⟩ qI0 rfl;obtain ⟨Z0,rfl,e16,hb0⟩:=hS.b16 h16 hdn;rw [e16] at e54;refine a7N (i:=17) (s:=.tmp 49) (x:=.tmp 54) (t:=43) (t':=43) rfl rfl rfl ?_;refine Kd.a5O kI bo (w0:=W5) rfl (.tmp 49) (.tmp 54) 43 3 (.int .i64 0) 8 rfl Tryz.underlying43 b1K rfl qF0 qF0 (v (cls n)) (toI (r (cls n))) ((cls mm:Nat):Int) [.int .i64 ((cls mm:Nat):Int)] (fun k =>k≠bo) (fun _ =>False) e49 e54 rfl (fun _ hk =>hk.elim) (fun k hk =>by have h1:=a1J HFD.out.o;have h2:=hb0.size;omega) ((HFD.out.below hb0).r _ hcn) (hb0.mono HB9.out) (zE0 HB9.out hb0.size) HLR.out ?_;exact fun v1 w1 hr hb hg hat =>hK2 v1 w1 (hS.do17 h11 h16 hdn hb0 hr hb hg hat)
       ·cases ho;have e38:=(hag.val_ (j:=0) (t:=38) rfl (hdep ⟨0,.data⟩ qI0 rfl)).trans (hS.v0 (hdep ⟨0,.data⟩ qI0 rfl));have e42:=(hag.val_ (j:=4) (t:=42) rfl (hdep ⟨4,.data⟩ qI0 rfl)).trans (hS.v4 (hdep ⟨4,.data⟩ qI0 rfl));refine a0G (i:=18) (r:=.pointer (some ⟨bo,cls n,none⟩)) (w':=Z) rfl rfl (fun c h =>by cases h) ?_ ?_ (hK2 _ _ (hS.do_ 18 rfl rfl))
        ·generalize a.eval = ev at *;simp [Oper.about,resolve,Target.leads,Sem.run_pure,go_sem,e38,e42,hcn,hcn0]
        ·have ec:∀ v,a.eval (.const v) = v:=fun _ =>rfl
         generalize a.eval = ev at *;simp [execOp,go_sem,ec,e38,e42,hcn,hcn0]
       ·cases ho;have e56:=(hag.val_ (j:=18) (t:=56) rfl (hdep ⟨18,.data⟩ qI0 rfl)).trans (hS.v18 (hdep ⟨18,.data⟩ qI0 rfl));have e55:=hag.val_ (j:=17) (t:=55) rfl (hdep ⟨17,.data⟩ qI0 rfl);have h17:=hdep ⟨17,.data⟩ qI0 rfl;obtain ⟨A9,n9,c9,e9,hz,hzf⟩:=hS.at17 h17 hdn hcn;rw [e9] at e55;refine a3L (i:=19) rfl rfl (fun c h =>by cases h) rfl (w':=Z.setCell ⟨bo,cls n,none⟩ (.slice A9 n9 c9)) ?_ (hK2 _ _ (hS.do19 h17 hdn hcn e9));have ec:∀ v,a.eval (.const v) = v:=fun _ =>rfl
        generalize a.eval = ev at *;simp [execOp,go_sem,ec,e56,e55,hz,hzf]
      case en9 =>
       intro Z done val hdn hS;simp only [putTmps,dstOf,zV1,zX0,zN1,Nat.reduceAdd,zE2,zM1,zT1,zN0,zC0,zG0,zH0];obtain ⟨v9,hfd9,hbe9⟩:=hS.s19 (hdn 19 qF0);have hl9:FL bo bo M (Tarj.upd v (cls n) v9) (((adjF g n).take (j + 1)).foldl (rowIns cls n) (rowsAt cls (adjF g) n)) W Z:=by
        rw [HSTEP.out,← HR.out];unfold rowIns;rw [if_neg HEQ.out];exact ⟨hfd9,HB5.out.trans hbe9⟩
       have hr9:∀ i,(((adjF g n).take (j + 1)).foldl (rowIns cls n) (rowsAt cls (adjF g) n) i).length≤n * 1000 + (j + 1):=by
        rw [HSTEP.out];exact b9E _ _ _ _ _ HRJ.out
       have HL9:=zA0 hl9;clear hl9 hfd9 hbe9 hdn hS;go_wp2;go_roundg k2
       case measure =>exact zR0 _
       case rel =>exact ⟨j + 1,_,by rw [zA1,zC1 1];exact hj,by first | rw [hw] | simp [hw],hr9,HL9⟩
    ·have hje:j = row.length:=by omega
     have hla:(adjF g n).length = row.length:=by rw [RW.out];simp [adjF]
     have hrs:rowsAt cls (adjF g) (n + 1) = ((adjF g n).take j).foldl (rowIns cls n) (rowsAt cls (adjF g) n):=by
      rw [hje,← hla,zH1];unfold rowsAt;rw [List.range_succ,List.foldl_append];rfl
     have hr9:∀ i,(rowsAt cls (adjF g) (n + 1) i).length≤(n + 1) * 1000:=by
      rw [hrs];exact fun i =>zE0 (hrj i) qD0
     have HL9:=zA0 (show FL bo bo M v (rowsAt cls (adjF g) (n + 1)) W wr from by rw [hrs];exact HJ.out);have hw:=pzS n qD0;clear hrs hrj hje hla hkw;go_wp2;go_roundg k1
     case measure =>exact zR0 _
     case rel =>exact ⟨n + 1,v,by rw [zA1,zC1 1];exact hn',by first | rw [hw] | simp [hw],hr9,HL9⟩
  ·have hne:n = g.length:=by omega
   subst hne;obtain ⟨r,hr⟩:∃ r,r = rowsAt cls (adjF g) g.length:=⟨_,rfl⟩;rw [← hr] at HL hrl;have HR:=zA0 hr;have HQ0:=zA0 (show FL bo bo M v0 (fun i =>if i < 0 then cmpN (r i) else r i) W wr from by simpa using HL.out);have hrl1:∀ i,(r i).length≤1000 * 1000:=fun i =>zE0 (hrl i) (zO1 _ hgl)
   have HRL:=zA0 hrl1;clear hrl hrl1 hr HL;go_wp2;go_loopg [61] M (fun kq v61 w' =>∃ (i:Nat) (v:Nat→Value),i + kq = M∧v61 = .int .i64 (i:Nat)∧Hid (FL bo bo M v (fun x =>if x < i then cmpN (r x) else r x) W w'))
   case atStart =>exact ⟨0,v0,by omega,rfl,HQ0⟩
   case round =>
    obtain ⟨i,v,hi',rfl,HI⟩:=hrel;clear HQ0;by_cases hi:i < M
    ·have hi0:(0:Int)≤(i:Int):=zJ0 i;have hw:=pzS i qD0;obtain ⟨k1,rfl⟩:∃ k1,gk = k1 + 1:=⟨gk - 1,by omega⟩;have hri:=HI.out.fd.r i hi;simp only [zA2,if_false] at hri;obtain ⟨A7,c7,e7,hl7,_⟩:=Kd.a4E hri;rw [a1U] at e7 hl7;have z1:=(HI.out.fd.cell hi).1;rw [e7] at z1;have hrx:=HRL.out i;have hsort:=b3I (toI (r i)) (v i) bo wr (Kd.a3A hri) qT2;rw [b3F,e7] at hsort;have HSORT:=zA0 hsort;have HE7:=zA0 e7;have HRI:=zA0 hri;clear hsort e7 hri
     go_upto_region 16 with (first
      | (go_at_call 47;(with_reducible refine HSORT.out.mono ?_;rintro x w5 ⟨rfl,hown,hg5⟩;have hcomp:=b1O (toI (sortN (r i))) (.slice A7 (r i).length c7) bo w5 (by have h:=hown;rw [a1U] at h;rw [a1U,a8R];exact h) (by rw [a1U,a8R];omega);rw [← b3F,← b0E] at hcomp;have HCOMP:=zA0 hcomp;have HG5:=zA0 hg5;clear hown hg5 hcomp)))
     have HFD5:=zA0 (a1S HI.out.fd.o (by have:=HG5.out;rw [← HE7.out] at this;exact this) (HI.out.fd.ne hi));clear z1
     go_wp2_with (first
      | (go_at_call 48;(with_reducible refine HCOMP.out.mono ?_;rintro x w6 ⟨v1,rfl,hown6,hg6,hob⟩;obtain ⟨A8,n8,c8,rfl⟩:=own_sl hown6;have HOWN6:=zA0 hown6;have HG6:=zA0 hg6;have HOB:=zA0 hob;have hb6:=a1S HFD5.out hg6 (by have:=HI.out.fd.ne hi;rw [HE7.out] at this;exact this);have hfc:=a0L hb6 i;have hfz:=a0Q hb6 i;rw [a7U _ hi] at hfc;clear hown6 hg6 hob hb6)))
     have hg7:wr.grownBy w6 (v i).ownBlock:=by
      rw [HE7.out];exact ⟨HG6.out.os.trans HG5.out.os,HG6.out.tape.trans HG5.out.tape,HG6.out.output.trans HG5.out.output,zE0 HG5.out.size HG6.out.size,fun k hk hne =>(HG6.out.block k (zJ1 hk HG5.out.size) hne).trans (HG5.out.block k hk hne)⟩
     have hr6:kI.R 3 w6 bo (fun k =>k≠bo) (.slice A8 n8 c8) (toI (cmpN (r i))):=Kd.a3Z HOWN6.out (fun k hk =>by
      rw [HOB.out,← HE7.out] at hk
      exact HRI.out.1 k hk)
     have hb6:Below bo wr w6:=(zL0 bo wr).grown hg7 (zZ1 (a1J HI.out.fd.o)) (fun k hk =>(HI.out.fd.lt hi k hk).1);have hfd:=HI.out.fd.put hi hr6 hg7 (.inl (by rw [HOB.out,HE7.out]));have hbe:=HI.out.be.trans (HI.out.fd.b5E hi (.slice A8 n8 c8) hg7 hb6);have hfn:Tarj.upd (fun x =>if x < i then cmpN (r x) else r x) i (cmpN (r i)) = fun x =>if x < i + 1 then cmpN (r x) else r x:=by
      funext x
      simp only [Tarj.upd];by_cases e:x = i
      ·subst e;simp
      ·rw [if_neg e];by_cases e2:x < i
       ·rw [if_pos e2,if_pos qD0]
       ·rw [if_neg e2,if_neg qD0]
     rw [hfn] at hfd;have HI9:=zA0 (show FL bo bo M _ (fun x =>if x < i + 1 then cmpN (r x) else r x) W _ from ⟨hfd,hbe⟩);clear hg7 hr6 hb6 hfd hbe hfn hfc hfz hrx;go_roundg k1
     case measure =>exact zR0 _
     case rel =>exact ⟨i + 1,_,by rw [zA1,zC1 1];exact hi',by first | rw [hw] | simp [hw],HI9⟩
    ·have hie:i = M:=by omega
     subst hie;go_wp2;go_ret;refine ⟨bo,rfl,⟨v,?_⟩,?_⟩
     ·rw [HBO.out];refine ⟨HI.out.fd.o,fun j hj =>?_,HI.out.fd.d,HI.out.fd.b⟩;have:=HI.out.fd.r j hj;rw [if_pos hj,HR.out] at this;exact this
     ·rw [HBO.out];exact HI.out.be
end Go.Proofs.YthhgfncliffggaaGreat.Man
