/- A part of the proof that EffectsKnots returns true for every argument. No conditions beyond the given statement's own. -/
import Derived.Test.YthhgfncliffggaaGreatEK2
import Derived.Test.YthhgfncliffggaaGreatEK3
import Derived.Test.YthhgfncliffggaaGreatEK4
import Derived.Deep.RegionHeld3
import Derived.WalkMore
import Derived.Says
set_option linter.unusedVariables false
set_option linter.unusedSimpArgs false
namespace Go.Proofs.YthhgfncliffggaaGreat.Pr
open Go.RowKit Go.Proofs.YthhgfncliffggaaGreatW.PrintWords Go.Proofs.YthhgfncliffggaaGreatW.PrintLast Go.Proofs.YthhgfncliffggaaGreatW.PrintMore
attribute [local go_sem] a3W a3V a4R a4Q a3Q a3P a4J a4I   -- for this text's walks alone
def r03_Big.l0:Nat→Int→Int→List (S34)→Option (Bool)
 | 0,_,_,_ =>none
 | k + 1,x3,x4,x162000 =>if x4 < (x162000.length:Int) then (if 0≤x4 then ((r03_Deep.f k ((a1C x162000 x4).f2) 60).bind fun t163 =>(if t163 ≥ 60 then (some true) else ((r03_Count.f k ((a1C x162000 x4).f2)).bind fun t165 =>(r03_Big.l0 k (wrap64 (x3 + (wrap64 (t165 + (((a1C x162000 x4).f1).length:Int))))) (wrap64 (x4 + 1)) x162000)))) else (none)) else (if x3 > 3000 then (some true) else (some (decide ((x162000.length:Int) > 1000))))
def r03_Big.f (k:Nat) (aG:List (S34)):Option (Bool):=r03_Big.l0 k 0 0 aG
def r03_Big.T7:Bool × List (List Nat × List Nat):=(true,[([],[]),([],[]),([1],[1]),([],[]),([2,3],[2,3]),([4],[4]),([5],[5]),([6],[6]),([],[]),([8],[8]),([],[]),([9,10],[9,10]),([11],[11]),([12],[12]),([13],[13]),([7,14],[7,14]),([0,15],[0,15]),([16,7,0,1,2,3,4,5,6,7,8,9,10,11,12,13,14,15,16],[0,16])])
def r03_Big.B7:List Nat:=[0,0,2,0,14,30,62,126,0,256,0,1792,3840,7936,16128,32766,65535,131071]
theorem r03_Big.tab7:rtab .any (opsOf Tryz.f7 7) = r03_Big.T7:=by kernel_rfl
theorem r03_Big.bits7:waitsOk r03_Big.T7.2 r03_Big.B7 = true:=by kernel_rfl
set_option maxHeartbeats 8000000 in
set_option maxRecDepth 100000 in
theorem r03_Big.calls (k:Nat) (dG:Option Addr) (bU:Nat) (aG:List (S34)) (r:Bool) (w:World) (eI:Kd.C k34 w dG aG.length aG) (eJ:aG.length≤bU) (h:r03_Big.f k aG = some r) :
    Calls Tryz.prog 7 #[.agg #[.slice dG aG.length bU]] w fun e w' =>e = .returned (.bool r)∧Below w.heap.size w w':=by
 have hu24:=Tryz.underlying24;have eK:=a0C.mk eI;have nA:=a0C.mk eJ;clear eI eJ;have HB:=a0C.mk (zJ0 w.heap.size w);have H:(r03_Big.l0 k 0 0 aG) = some r:=h;clear h;have H':=a0C.mk H;clear H;go_enter Tryz.func7,Tryz.ntmps7
 go_wp2_with (first | ((with_reducible refine a0V (N:=1) rfl ?_);(try (refine a2T (by rfl) ?_;dsimp only));refine a2C ?hg (N:=1) ?hd (cs:=#[.slice dG aG.length bU]) (t:=24) ?hr ?_;(case hd =>rfl);(case hg =>rfl);(case hr =>first | (go_simp;done) | (go_simp;rfl));intro eL hg w2 hbox hb;have bY:=a0C.mk (a0L qB0 hb);have bZ:=a0C.mk (hbox);have eM:=a0C.mk ((by rw [hg];exact (a0R qB0):w.heap.size≤eL));have eV:=a0C.mk ((by rw [hg];exact (a0R qB0):w.heap.size≤eL));clear HB;have HB:=bY;have bF:=bZ;have GW161:=eM;have dH:=eV;clear bY bZ eM eV;clear hb hbox hg));go_loopg [3,4] k (fun kq v3 v4 w' =>∃ (aC:Int) (aA:Int),v3 = .int .i64 aC∧v4 = .int .i64 aA∧a0C (r03_Big.l0 kq aC aA aG = some r)∧a0C (kq≤k)∧a0C (w'.heap[eL]? = some (.cells #[(.slice dG aG.length bU)] 24 (0,0)))∧a0C (Below w.heap.size w w'))
 case atStart =>exact ⟨(0),(0),qE0,qE0,H',⟨zG0 _⟩,⟨by (with_reducible repeat (first | refine a0P ?_ _ | refine a0X ?_ | refine a0K ?_ _));exact bF.out⟩,⟨by repeat (first | (with_reducible first | exact HB.out | apply a0B | apply a0A | apply a0D | refine a0G ?_ dH.out) | exact HB.out)⟩⟩
 case round =>
  clear H';obtain ⟨aC,aA,rfl,rfl,HA,HK1,bF,HB⟩:=hrel;cases gk with
  | zero =>exact absurd HA.out (by simp [r03_Big.l0])
  | succ k1 =>
   have H:=HA.out;clear HA;simp only [r03_Big.l0] at H;by_cases c3:aA < (aG.length:Int)
   ·rw [if_pos c3] at H;have c3b0:decide (aA < (aG.length:Int)) = true:=zC0 c3;clear c3;by_cases c4:0≤aA
    ·rw [if_pos c4] at H;have c4b0:decide (0≤aA) = true:=zC0 c4;clear c4;obtain ⟨t163,A5,H⟩:=ob_ H;by_cases c6:t163 ≥ 60
     ·rw [if_pos c6] at H;have c6b0:decide (60≤t163) = true:=zC0 c6;clear c6;obtain rfl:=zD0 H;have lW:=cf1 bF.out;have p162:0≤(aA:Int):=zB0 qA0;have q162:aA < (aG.length:Int):=zB0 qA0;obtain ⟨ad162,lX,lY,gT,gU,e162,cB,cC,cD,cE,cG,cH,cI⟩:=a6I eK.out aA p162 q162;cases e162;replace cB:=a0E HB.out cB;replace cC:=a0E HB.out cC;replace cD:=a0E HB.out cD;have kR:=a0C.mk cG;have kS:=a0C.mk cE;clear cG cE;have eX:=a0C.mk cI;have eY:=a0C.mk cH;clear cI cH;replace p162:=eq_true p162;replace q162:=eq_true q162;go_wp2_with (first | ((with_reducible refine a1A (f:=24) rfl ?_);refine a2B (some 18) rfl rfl Tryz.func24 qH0 rfl #[.slice gT ((a1C aG aA).f2).length gU,.int .i64 60] rfl qC0 ?_;(with_reducible refine (r03_Deep.calls k1 _ _ ((a1C aG aA).f2) 60 t163 _ ?side1 ?side2 A5.out).mono ?_);(case side1 =>repeat (first | exact (Kd.a0I eX.out HB.out) | (with_reducible refine Kd.a1E ?_ _) | (with_reducible refine Kd.a1D ?_ _) | (with_reducible refine Kd.a1I ?_)));(case side2 =>exact eY.out);rintro e w8 ⟨rfl,hb⟩;refine ⟨_,rfl,?_⟩;replace bF:=a0C.mk (a0U (g:=eL) (o:=.cells #[.slice (some ad162) aG.length bU] 24 (0,0)) qG1 hb);replace HB:=a0C.mk (a0L qN0 hb);(try clear hb)));go_ret;exact qR3
     ·rw [if_neg c6] at H;have c6b0:decide (60≤t163) = false:=zL0 c6;clear c6;obtain ⟨t165,A9,H⟩:=ob_ H;have H':=a0C.mk H;clear H;have nI:=cf1 bF.out;have p162:0≤(aA:Int):=zB0 qA0;have q162:aA < (aG.length:Int):=zB0 qA0;obtain ⟨ad162,lX,lY,gT,gU,e162,cB,cC,cD,cE,cG,cH,cI⟩:=a6I eK.out aA p162 q162;cases e162;replace cB:=a0E HB.out cB;replace cC:=a0E HB.out cC;replace cD:=a0E HB.out cD;have kR:=a0C.mk cG;have kS:=a0C.mk cE;clear cG cE;have eX:=a0C.mk cI;have eY:=a0C.mk cH;clear cI cH;replace p162:=eq_true p162;replace q162:=eq_true q162
      try go_wp2_with (first | ((with_reducible refine a1A (f:=24) rfl ?_);refine a2B (some 18) rfl rfl Tryz.func24 qH0 rfl #[.slice gT ((a1C aG aA).f2).length gU,.int .i64 60] rfl qC0 ?_;(with_reducible refine (r03_Deep.calls k1 _ _ ((a1C aG aA).f2) 60 t163 _ ?side1 ?side2 A5.out).mono ?_);(case side1 =>repeat (first | exact (Kd.a0I eX.out HB.out) | (with_reducible refine Kd.a1E ?_ _) | (with_reducible refine Kd.a1D ?_ _) | (with_reducible refine Kd.a1I ?_)));(case side2 =>exact eY.out);rintro e w11 ⟨rfl,hb⟩;refine ⟨_,rfl,?_⟩;replace bF:=a0C.mk (a0U (g:=eL) (o:=.cells #[.slice (some ad162) aG.length bU] 24 (0,0)) qG1 hb);replace HB:=a0C.mk (a0L qN0 hb);(try clear hb)))
      have bY:=a0C.mk (a0X bF.out);have bZ:=a0C.mk (a0D HB.out);clear bF;clear HB;have bF:=bY;have HB:=bZ;clear bY bZ;have p164:0≤(aA:Int):=zB0 qA0;have q164:aA < (aG.length:Int):=zB0 qA0;obtain ⟨ad164,kF,kG,gV,gW,e164,dI,cJ,cM,iC,iD,iE,iF⟩:=a6I eK.out aA p164 q164;have iG:=cM;have iH:=cJ;have iI:=dI;obtain rfl:ad162 = ad164:=(by injection e164);replace dI:=a0E HB.out dI;replace cJ:=a0E HB.out cJ;replace cM:=a0E HB.out cM;have kU:=a0C.mk iD;have nJ:=a0C.mk iC;clear iD iC;have iJ:=a0C.mk iF;have kV:=a0C.mk iE;clear iF iE;replace p164:=eq_true p164;replace q164:=eq_true q164;have p166:0≤(aA:Int):=zB0 qA0;have q166:aA < (aG.length:Int):=zB0 qA0;obtain ⟨ad166,pT,pU,pV,pW,e166,dJ,cN,cO,iK,iL,iM,iN⟩:=a6I eK.out aA p166 q166;have iO:=cO;have iP:=cN;have iQ:=dJ;obtain rfl:ad162 = ad166:=(by injection e166);replace dJ:=a0E HB.out dJ;replace cN:=a0E HB.out cN;replace cO:=a0E HB.out cO;have kW:=a0C.mk iL;have nK:=a0C.mk iK;clear iL iK;have kX:=a0C.mk iN;have nL:=a0C.mk iM;clear iN iM;replace p166:=eq_true p166;replace q166:=eq_true q166;have ea_:=zD0 (cJ.symm.trans cN);injection ea_ with ea_ en_ ec_
      subst ea_;subst ec_;clear en_;have ea_:=zD0 (cM.symm.trans cO);injection ea_ with ea_ en_ ec_
      subst ea_;subst ec_;clear en_;refine c0M (n:=18) (S:=fun w' =>w'.cell? ⟨eL,0,none⟩ = some (.slice (some ad162) aG.length bU)∧w'.cell? (ad162.add ((aA).toNat * 3)) = some (.string ((a1C aG aA).f0))∧w'.cell? ⟨(ad162.add ((aA).toNat * 3)).block,(ad162.add ((aA).toNat * 3)).off + 1,none⟩ = some (.slice kF ((a1C aG aA).f1).length kG)∧w'.cell? ⟨(ad162.add ((aA).toNat * 3)).block,(ad162.add ((aA).toNat * 3)).off + 2,none⟩ = some (.slice gV ((a1C aG aA).f2).length gW)∧w'.cell? (ad162.add ((aA).toNat * 3)) = some (.string ((a1C aG aA).f0))∧w'.cell? ⟨(ad162.add ((aA).toNat * 3)).block,(ad162.add ((aA).toNat * 3)).off + 1,none⟩ = some (.slice kF ((a1C aG aA).f1).length kG)∧w'.cell? ⟨(ad162.add ((aA).toNat * 3)).block,(ad162.add ((aA).toNat * 3)).off + 2,none⟩ = some (.slice gV ((a1C aG aA).f2).length gW)) (ds:=[]) #[false,false,false,false,false,false,false,false,false,false,false,false,false,false,false,false,false,false] qH0 rfl rfl ⟨(a0O bF.out 0).trans rfl,(a0E HB.out iI),(a0E HB.out iH),(a0E HB.out iG),(a0E HB.out iQ),(a0E HB.out iP),(a0E HB.out iO)⟩ (fun hHeld =>?_);refine b0L r03_Big.tab7 r03_Big.bits7 (fun HT_ HW_ =>?_);generalize w11.drew = w12 at bF HB kU iJ kW kX dI cJ cM dJ cN cO hHeld ⊢;refine pz_ 0 (some 20) HT_.out rfl rfl (fun _ _ _ h =>h) (h:=?_);refine pz_ 1 (some 21) HT_.out rfl rfl (fun _ _ _ h =>h) (h:=?_);refine pz_ 3 (some 23) HT_.out rfl rfl (fun _ _ _ h =>h) (h:=?_);refine pz_ 8 (some 28) HT_.out rfl rfl (fun _ _ _ h =>h) (h:=?_);refine pz_ 10 (some 30) HT_.out rfl rfl (fun _ _ _ h =>h) (h:=?_);refine b0N (i:=2) (N:=some 22) (v:=?_) (a':=?_) #[true,true,true,true,false,false,false,false,true,false,true,false,false,false,false,false,false,false] rfl rfl (a5X HT_.out HW_.out qH0) (fun _ _ _ h =>h) (Or.inl ⟨by rfl,?_⟩) hHeld ?_ ?_;rotate_left
      ·rintro w' ⟨s0,s1,s2,s3,s4,s5,s6⟩;go_simp
       with_reducible rfl
      rotate_left
      ·simp only [Act.put,zN0,zX0,zY0,a4H,a4S]
       rfl
      refine pz_ 4 (some 24) HT_.out rfl rfl (fun _ _ _ h =>h) (h:=?_);refine pz_ 5 (some 25) HT_.out rfl rfl (fun _ _ _ h =>h) (h:=?_);refine b0N (i:=6) (N:=some 26) (v:=?_) (a':=?_) #[true,true,true,true,true,true,true,false,true,false,true,false,false,false,false,false,false,false] rfl rfl (a5X HT_.out HW_.out qH0) (fun _ _ _ h =>h) (Or.inl ⟨by rfl,?_⟩) hHeld ?_ ?_;rotate_left
      ·rintro w' ⟨s0,s1,s2,s3,s4,s5,s6⟩;go_simp
       with_reducible rfl
      rotate_left
      ·simp only [Act.put,zN0,zX0,zY0,a4H,a4S]
       rfl
      refine b0N (i:=9) (N:=some 29) (v:=?_) (a':=?_) #[true,true,true,true,true,true,true,false,true,true,true,false,false,false,false,false,false,false] rfl rfl (a5X HT_.out HW_.out qH0) (fun _ _ _ h =>h) (Or.inl ⟨by rfl,?_⟩) hHeld ?_ ?_;rotate_left
      ·rintro w' ⟨s0,s1,s2,s3,s4,s5,s6⟩;go_simp
       with_reducible rfl
      rotate_left
      ·simp only [Act.put,zN0,zX0,zY0,a4H,a4S]
       rfl
      refine pz_ 11 (some 31) HT_.out rfl rfl (fun _ _ _ h =>h) (h:=?_);refine pz_ 12 (some 32) HT_.out rfl rfl (fun _ _ _ h =>h) (h:=?_);refine b0N (i:=13) (N:=some 33) (v:=?_) (a':=?_) #[true,true,true,true,true,true,true,false,true,true,true,true,true,true,false,false,false,false] rfl rfl (a5X HT_.out HW_.out qH0) (fun _ _ _ h =>h) (Or.inl ⟨by rfl,?_⟩) hHeld ?_ ?_;rotate_left
      ·rintro w' ⟨s0,s1,s2,s3,s4,s5,s6⟩;go_simp
       with_reducible rfl
      rotate_left
      ·simp only [Act.put,zN0,zX0,zY0,a4H,a4S]
       rfl
      refine pz_ 14 (some 34) HT_.out rfl rfl (fun _ _ _ h =>h) (h:=?_);refine one_ (i:=7) (N:=some 27) #[true,true,true,true,true,true,true,true,true,true,true,true,true,true,true,false,false,false] rfl rfl (b5C HT_.out qH0) qF0 (fun K hK =>?_);refine c2W Tryz.func25 qH0 rfl #[.slice gV ((a1C aG aA).f2).length gW] (by rfl) rfl rfl qC0 ?_
      with_reducible refine (r03_Count.calls k1 _ _ ((a1C aG aA).f2) t165 _ ?side1 ?side2 A9.out).mono ?_
      (case side1 =>repeat (first | exact (Kd.a0I iJ.out HB.out) | (with_reducible refine Kd.a1E ?_ _) | (with_reducible refine Kd.a1D ?_ _) | (with_reducible refine Kd.a1I ?_)))
      (case side2 =>exact kV.out)
      rintro e w13 ⟨rfl,hb⟩;refine ⟨_,rfl,?_⟩;have bY:=a0C.mk (a0U (g:=eL) (o:=.cells #[.slice (some ad162) aG.length bU] 24 (0,0)) qG1 hb);have bZ:=a0C.mk (a0L qN0 hb);clear bF;clear HB;have bF:=bY;have HB:=bZ;clear bY bZ
      (try clear hb)
      (try clear hb2)
      (try clear hk)
      (try clear hi)
      refine hK.out _ _ ⟨(a0O bF.out 0).trans rfl,(a0E HB.out iI),(a0E HB.out iH),(a0E HB.out iG),(a0E HB.out iQ),(a0E HB.out iP),(a0E HB.out iO)⟩ (fun hHeld =>?_);clear hK K;refine c2C (a':=?_) ?_ ?_;rotate_left
      ·show Act.put _ (some 27) _ = _;simp only [Act.put,zN0,zX0,zY0,a4H,a4S]
       rfl
      refine pz_ 15 (some 35) HT_.out rfl rfl (fun _ _ _ h =>h) (h:=?_);refine pz_ 16 (some 36) HT_.out rfl rfl (fun _ _ _ h =>h) (h:=?_);refine pz_ 17 (some 3) HT_.out rfl rfl (fun _ _ _ h =>h) (h:=?_);refine done_ (b6S HT_.out qH0) ?_
      try go_wp2
      go_roundg k1
      case measure =>have:=HK1.out;omega
      case rel =>exact ⟨(wrap64 (aC + (wrap64 (t165 + (((a1C aG aA).f1).length:Int))))),(wrap64 (aA + 1)),qE0,qE0,H',⟨by have:=HK1.out;omega⟩,⟨by (with_reducible repeat (first | refine a0P ?_ _ | refine a0X ?_ | refine a0K ?_ _));exact bF.out⟩,⟨by repeat (first | (with_reducible first | exact HB.out | apply a0B | apply a0A | apply a0D | refine a0G ?_ dH.out) | exact HB.out)⟩⟩
    ·rw [if_neg c4] at H;exact absurd H qG0
   ·rw [if_neg c3] at H;have c3b0:decide (aA < (aG.length:Int)) = false:=zL0 c3;clear c3;by_cases c14:aC > 3000
    ·rw [if_pos c14] at H;have c14b0:decide (3000 < aC) = true:=zC0 c14;clear c14;obtain rfl:=zD0 H;have nM:=cf1 bF.out;go_wp2;go_ret;exact qR3
    ·rw [if_neg c14] at H;have c14b0:decide (3000 < aC) = false:=zL0 c14;clear c14;obtain rfl:=zD0 H;have nN:=cf1 bF.out;go_wp2;go_ret;exact qR3
def r12_Has.l0:Nat→List Int→Int→Int→Option (Bool)
 | 0,_,_,_ =>none
 | k + 1,x0,x1,x5 =>if x5 < (x0.length:Int) then (if 0≤x5 then (if (rd x0 x5) = x1 then (some true) else (r12_Has.l0 k x0 x1 (wrap64 (x5 + 1)))) else (none)) else (some false)
def r12_Has.f (k:Nat) (l0:List Int) (a1:Int):Option (Bool):=r12_Has.l0 k l0 a1 0
set_option maxHeartbeats 8000000 in
set_option maxRecDepth 100000 in
theorem r12_Has.calls (k:Nat) (A0:Option Addr) (c0:Nat) (l0:List Int) (a1:Int) (r:Bool) (w:World) (hr0:Kd.C (Kd.int .i64) w A0 l0.length l0) (hc0:l0.length≤c0) (h:r12_Has.f k l0 a1 = some r) :
    Calls Tryz.prog 61 #[.slice A0 l0.length c0,.int .i64 a1] w fun e w' =>e = .returned (.bool r)∧a0Z w w':=by
 have HR0:=a0C.mk hr0;have HC0:=a0C.mk hc0;clear hr0 hc0;have H:(r12_Has.l0 k l0 a1 0) = some r:=h;clear h;have H':=a0C.mk H;clear H;go_enter Tryz.func61,Tryz.ntmps61
 go_wp2;go_loopg [5] k (fun kq v5 w' =>∃ (aV:Int),v5 = .int .i64 aV∧a0C (r12_Has.l0 kq l0 a1 aV = some r)∧a0C (kq≤k)∧a0Z w w')
 case atStart =>exact ⟨(0),qE0,H',⟨zG0 _⟩,by repeat (first | exact a0Z.refl _ | apply a0Z.step)⟩
 case round =>
  clear H';obtain ⟨aV,rfl,HA,HK1,⟨m1,rfl⟩⟩:=hrel;cases gk with
  | zero =>exact absurd HA.out (by simp [r12_Has.l0])
  | succ k1 =>
   have H:=HA.out;clear HA;simp only [r12_Has.l0] at H;by_cases c3:aV < (l0.length:Int)
   ·rw [if_pos c3] at H;have c3b0:decide (aV < (l0.length:Int)) = true:=zC0 c3;clear c3;by_cases c4:0≤aV
    ·rw [if_pos c4] at H;have c4b0:decide (0≤aV) = true:=zC0 c4;clear c4;by_cases c5:(rd l0 aV) = a1
     ·rw [if_pos c5] at H;have c5b0:((rd l0 aV) == a1) = true:=beq_iff_eq.mpr c5;have c5b1:((rd l0 aV) != a1) = false:=bne_eq_false_iff_eq.mpr c5;clear c5;obtain rfl:=zD0 H;have p167:0≤(aV:Int):=zB0 qA0;have q167:aV < (l0.length:Int):=zB0 qA0;obtain ⟨ad167,e167,kY⟩:=Kd.a1Q HR0.out aV p167 q167;cases e167;replace p167:=eq_true p167;replace q167:=eq_true q167;go_wp2;go_ret;exact qN3
     ·rw [if_neg c5] at H;have c5b0:((rd l0 aV) == a1) = false:=beq_eq_false_iff_ne.mpr c5;have c5b1:((rd l0 aV) != a1) = true:=bne_iff_ne.mpr c5;have H':=a0C.mk H;clear H;have p167:0≤(aV:Int):=zB0 qA0;have q167:aV < (l0.length:Int):=zB0 qA0;obtain ⟨ad167,e167,kY⟩:=Kd.a1Q HR0.out aV p167 q167;cases e167;replace p167:=eq_true p167;replace q167:=eq_true q167;go_wp2;go_roundg k1
      case measure =>have:=HK1.out;omega
      case rel =>exact ⟨(wrap64 (aV + 1)),qE0,H',⟨by have:=HK1.out;omega⟩,by repeat (first | exact a0Z.refl _ | apply a0Z.step)⟩
    ·rw [if_neg c4] at H;exact absurd H qG0
   ·rw [if_neg c3] at H;have c3b0:decide (aV < (l0.length:Int)) = false:=zL0 c3;clear c3;obtain rfl:=zD0 H;go_wp2;go_ret;exact qN3
mutual
def r12_May.l0:Nat→List (List Int)→Int→Option (Bool)
 | 0,_,_ =>none
 | k + 1,x0,x3 =>if x3 < (x0.length:Int) then (r12_May.l1 k x0 x3 0) else (some (decide ((x0.length:Int)≤1000)))
def r12_May.l1:Nat→List (List Int)→Int→Int→Option (Bool)
 | 0,_,_,_ =>none
 | k + 1,x0,x3,x4 =>if 0≤x3 then (if x3 < (x0.length:Int) then (if x4 < ((a0W x0 x3).length:Int) then (if 0≤x4 then (if (rd (a0W x0 x3) x4) < 0 then (some false) else (if (rd (a0W x0 x3) x4) ≥ (x0.length:Int) then (some false) else (if x4 > 0 then (if 0≤(wrap64 (x4 - 1)) then (if (wrap64 (x4 - 1)) < ((a0W x0 x3).length:Int) then (if (rd (a0W x0 x3) (wrap64 (x4 - 1))) ≥ (rd (a0W x0 x3) x4) then (some false) else (r12_May.l1 k x0 x3 (wrap64 (x4 + 1)))) else (none)) else (none)) else (r12_May.l1 k x0 x3 (wrap64 (x4 + 1)))))) else (none)) else (r12_May.l0 k x0 (wrap64 (x3 + 1)))) else (none)) else (none)
end
def r12_May.f (k:Nat) (l0:List (List Int)):Option (Bool):=r12_May.l0 k l0 0
set_option maxHeartbeats 8000000 in
set_option maxRecDepth 100000 in
theorem r12_May.calls (k:Nat) (A0:Option Addr) (c0:Nat) (l0:List (List Int)) (r:Bool) (w:World) (hr0:Kd.C (Kd.slice 3 (Kd.int .i64)) w A0 l0.length l0) (hc0:l0.length≤c0) (h:r12_May.f k l0 = some r) :
    Calls Tryz.prog 36 #[.slice A0 l0.length c0] w fun e w' =>e = .returned (.bool r)∧a0Z w w':=by
 have HR0:=a0C.mk hr0;have HC0:=a0C.mk hc0;clear hr0 hc0;have H:(r12_May.l0 k l0 0) = some r:=h;clear h;have H':=a0C.mk H;clear H;go_enter Tryz.func36,Tryz.ntmps36
 go_wp2
 repeat (go_quiet (fail);try go_wp2)
 go_loopg [3] k (fun kq v3 w' =>∃ (aC:Int),v3 = .int .i64 aC∧a0C (r12_May.l0 kq l0 aC = some r)∧a0C (kq≤k)∧a0Z w w')
 case atStart =>exact ⟨(0),qE0,H',⟨zG0 _⟩,by repeat (first | exact a0Z.refl _ | apply a0Z.step)⟩
 case round =>
  clear H';obtain ⟨aC,rfl,HA,HK1,⟨m1,rfl⟩⟩:=hrel;cases gk with
  | zero =>exact absurd HA.out (by simp [r12_May.l0])
  | succ k1 =>
   have H:=HA.out;clear HA;simp only [r12_May.l0] at H;by_cases c2:aC < (l0.length:Int)
   ·rw [if_pos c2] at H;have c2b0:decide (aC < (l0.length:Int)) = true:=zC0 c2;clear c2;have H':=a0C.mk H;clear H;go_wp2
    repeat (go_quiet (fail);try go_wp2)
    go_loopg [4] k1 (fun kq v4 w' =>∃ (aH:Int),v4 = .int .i64 aH∧a0C (r12_May.l1 kq l0 aC aH = some r)∧a0C (kq≤k1)∧a0Z w w')
    case atStart =>exact ⟨(0),qE0,H',⟨zG0 _⟩,by repeat (first | exact a0Z.refl _ | apply a0Z.step)⟩
    case round =>
     clear H';obtain ⟨aH,rfl,HA,HK2,⟨m2,rfl⟩⟩:=hrel;cases gk with
     | zero =>exact absurd HA.out (by simp [r12_May.l1])
     | succ k2 =>
      have H:=HA.out;clear HA;simp only [r12_May.l1] at H;by_cases c3:0≤aC
      ·rw [if_pos c3] at H;have c3b0:decide (0≤aC) = true:=zC0 c3;clear c3;by_cases c4:aC < (l0.length:Int)
       ·rw [if_pos c4] at H;have c4b0:decide (aC < (l0.length:Int)) = true:=zC0 c4;clear c4;by_cases c5:aH < ((a0W l0 aC).length:Int)
        ·rw [if_pos c5] at H;have c5b0:decide (aH < ((a0W l0 aC).length:Int)) = true:=zC0 c5;clear c5;by_cases c6:0≤aH
         ·rw [if_pos c6] at H;have c6b0:decide (0≤aH) = true:=zC0 c6;clear c6;by_cases c7:(rd (a0W l0 aC) aH) < 0
          ·rw [if_pos c7] at H;have c7b0:decide ((rd (a0W l0 aC) aH) < 0) = true:=zC0 c7;clear c7;obtain rfl:=zD0 H;have p168:0≤(aC:Int):=zB0 qA0;have q168:aC < (l0.length:Int):=zB0 qA0;obtain ⟨ad168,eN,eO,e168,aI,aJ,aK⟩:=a3I HR0.out aC p168 q168;cases e168;have cQ:=a0C.mk aK;have cR:=a0C.mk aJ;clear aK aJ;replace p168:=eq_true p168;replace q168:=eq_true q168;have p169:0≤(aC:Int):=zB0 qA0;have q169:aC < (l0.length:Int):=zB0 qA0;obtain ⟨ad169,eZ,fA,e169,bN,aX,aY⟩:=a3I HR0.out aC p169 q169;obtain rfl:ad168 = ad169:=(by injection e169);have bO:=a0C.mk aY;have dK:=a0C.mk aX;clear aY aX;replace p169:=eq_true p169;replace q169:=eq_true q169;have ea_:=zD0 (aI.symm.trans bN);injection ea_ with ea_ en_ ec_
           subst ea_;subst ec_;clear en_;have p170:0≤(aH:Int):=zB0 qA0;have q170:aH < ((a0W l0 aC).length:Int):=zB0 qA0;obtain ⟨ad170,e170,dL⟩:=Kd.a1Q bO.out aH p170 q170;cases e170;replace p170:=eq_true p170;replace q170:=eq_true q170;go_wp2
           repeat (go_quiet (fail);try go_wp2)
           go_ret;exact qN3
          ·rw [if_neg c7] at H;have c7b0:decide ((rd (a0W l0 aC) aH) < 0) = false:=zL0 c7;clear c7;by_cases c8:(rd (a0W l0 aC) aH) ≥ (l0.length:Int)
           ·rw [if_pos c8] at H;have c8b0:decide ((l0.length:Int)≤(rd (a0W l0 aC) aH)) = true:=zC0 c8;clear c8;obtain rfl:=zD0 H;have p168:0≤(aC:Int):=zB0 qA0;have q168:aC < (l0.length:Int):=zB0 qA0;obtain ⟨ad168,eN,eO,e168,aI,aJ,aK⟩:=a3I HR0.out aC p168 q168;cases e168;have cQ:=a0C.mk aK;have cR:=a0C.mk aJ;clear aK aJ;replace p168:=eq_true p168;replace q168:=eq_true q168;have p169:0≤(aC:Int):=zB0 qA0;have q169:aC < (l0.length:Int):=zB0 qA0;obtain ⟨ad169,eZ,fA,e169,bN,aX,aY⟩:=a3I HR0.out aC p169 q169;obtain rfl:ad168 = ad169:=(by injection e169);have bO:=a0C.mk aY;have dK:=a0C.mk aX;clear aY aX;replace p169:=eq_true p169;replace q169:=eq_true q169;have ea_:=zD0 (aI.symm.trans bN);injection ea_ with ea_ en_ ec_
            subst ea_;subst ec_;clear en_;have p170:0≤(aH:Int):=zB0 qA0;have q170:aH < ((a0W l0 aC).length:Int):=zB0 qA0;obtain ⟨ad170,e170,dL⟩:=Kd.a1Q bO.out aH p170 q170;cases e170;replace p170:=eq_true p170;replace q170:=eq_true q170;have p171:0≤(aC:Int):=zB0 qA0;have q171:aC < (l0.length:Int):=zB0 qA0;obtain ⟨ad171,gX,gY,e171,bQ,bH,bI⟩:=a3I HR0.out aC p171 q171;obtain rfl:ad168 = ad171:=(by injection e171);have bR:=a0C.mk bI;have fB:=a0C.mk bH;clear bI bH;replace p171:=eq_true p171;replace q171:=eq_true q171;have ea_:=zD0 (aI.symm.trans bQ);injection ea_ with ea_ en_ ec_
            subst ea_;subst ec_;clear en_;have p172:0≤(aH:Int):=zB0 qA0;have q172:aH < ((a0W l0 aC).length:Int):=zB0 qA0;obtain ⟨ad172,e172,fC⟩:=Kd.a1Q bR.out aH p172 q172;cases e172;replace p172:=eq_true p172;replace q172:=eq_true q172;go_wp2
            repeat (go_quiet (fail);try go_wp2)
            go_ret;exact qN3
           ·rw [if_neg c8] at H;have c8b0:decide ((l0.length:Int)≤(rd (a0W l0 aC) aH)) = false:=zL0 c8;clear c8;by_cases c9:aH > 0
            ·rw [if_pos c9] at H;have c9b0:decide (0 < aH) = true:=zC0 c9;clear c9;obtain ⟨ji10,hji10⟩:∃ j_:Int,(wrap64 (aH - 1)) = j_:=⟨_,rfl⟩;replace H:(if 0≤(ji10) then (if (ji10) < ((a0W l0 aC).length:Int) then (if (rd (a0W l0 aC) (ji10)) ≥ (rd (a0W l0 aC) aH) then (some false) else (r12_May.l1 k2 l0 aC (wrap64 (aH + 1)))) else (none)) else (none)) = some r:=by first | (rw [hji10] at H;exact H) | (simp only [hji10] at H ⊢;exact H)
             have hji10w:(IntKind.i64.wrap (aH - 1)) = ji10:=(a4H _).trans hji10;by_cases c11:0≤(ji10)
             ·rw [if_pos c11] at H;have c11b0:decide (0≤(ji10)) = true:=zC0 c11;clear c11;by_cases c12:(ji10) < ((a0W l0 aC).length:Int)
              ·rw [if_pos c12] at H;have c12b0:decide ((ji10) < ((a0W l0 aC).length:Int)) = true:=zC0 c12;clear c12;by_cases c13:(rd (a0W l0 aC) (ji10)) ≥ (rd (a0W l0 aC) aH)
               ·rw [if_pos c13] at H;have c13b0:decide ((rd (a0W l0 aC) aH)≤(rd (a0W l0 aC) (ji10))) = true:=zC0 c13;clear c13;obtain rfl:=zD0 H;have p168:0≤(aC:Int):=zB0 qA0;have q168:aC < (l0.length:Int):=zB0 qA0;obtain ⟨ad168,eN,eO,e168,aI,aJ,aK⟩:=a3I HR0.out aC p168 q168;cases e168;have cQ:=a0C.mk aK;have cR:=a0C.mk aJ;clear aK aJ;replace p168:=eq_true p168;replace q168:=eq_true q168;have p169:0≤(aC:Int):=zB0 qA0;have q169:aC < (l0.length:Int):=zB0 qA0;obtain ⟨ad169,eZ,fA,e169,bN,aX,aY⟩:=a3I HR0.out aC p169 q169;obtain rfl:ad168 = ad169:=(by injection e169);have bO:=a0C.mk aY;have dK:=a0C.mk aX;clear aY aX;replace p169:=eq_true p169;replace q169:=eq_true q169;have ea_:=zD0 (aI.symm.trans bN);injection ea_ with ea_ en_ ec_
                subst ea_;subst ec_;clear en_;have p170:0≤(aH:Int):=zB0 qA0;have q170:aH < ((a0W l0 aC).length:Int):=zB0 qA0;obtain ⟨ad170,e170,dL⟩:=Kd.a1Q bO.out aH p170 q170;cases e170;replace p170:=eq_true p170;replace q170:=eq_true q170;have p171:0≤(aC:Int):=zB0 qA0;have q171:aC < (l0.length:Int):=zB0 qA0;obtain ⟨ad171,gX,gY,e171,bQ,bH,bI⟩:=a3I HR0.out aC p171 q171;obtain rfl:ad168 = ad171:=(by injection e171);have bR:=a0C.mk bI;have fB:=a0C.mk bH;clear bI bH;replace p171:=eq_true p171;replace q171:=eq_true q171;have ea_:=zD0 (aI.symm.trans bQ);injection ea_ with ea_ en_ ec_
                subst ea_;subst ec_;clear en_;have p172:0≤(aH:Int):=zB0 qA0;have q172:aH < ((a0W l0 aC).length:Int):=zB0 qA0;obtain ⟨ad172,e172,fC⟩:=Kd.a1Q bR.out aH p172 q172;cases e172;replace p172:=eq_true p172;replace q172:=eq_true q172;have p173:0≤(aC:Int):=zB0 qA0;have q173:aC < (l0.length:Int):=zB0 qA0;obtain ⟨ad173,lZ,mA,e173,fD,cU,cV⟩:=a3I HR0.out aC p173 q173;obtain rfl:ad168 = ad173:=(by injection e173);have fE:=a0C.mk cV;have kZ:=a0C.mk cU;clear cV cU;replace p173:=eq_true p173;replace q173:=eq_true q173;have ea_:=zD0 (aI.symm.trans fD);injection ea_ with ea_ en_ ec_
                subst ea_;subst ec_;clear en_;have p174:0≤((ji10):Int):=zB0 qA0;have q174:(ji10) < ((a0W l0 aC).length:Int):=zB0 qA0;obtain ⟨ad174,e174,lA⟩:=Kd.a1Q fE.out (ji10) p174 q174;cases e174;replace p174:=eq_true p174;replace q174:=eq_true q174;have p175:0≤(aC:Int):=zB0 qA0;have q175:aC < (l0.length:Int):=zB0 qA0;obtain ⟨ad175,mB,mC,e175,fF,cW,cX⟩:=a3I HR0.out aC p175 q175;obtain rfl:ad168 = ad175:=(by injection e175);have fG:=a0C.mk cX;have lB:=a0C.mk cW;clear cX cW;replace p175:=eq_true p175;replace q175:=eq_true q175;have ea_:=zD0 (aI.symm.trans fF);injection ea_ with ea_ en_ ec_
                subst ea_;subst ec_;clear en_;have p176:0≤(aH:Int):=zB0 qA0;have q176:aH < ((a0W l0 aC).length:Int):=zB0 qA0;obtain ⟨ad176,e176,lC⟩:=Kd.a1Q fG.out aH p176 q176;cases e176;replace p176:=eq_true p176;replace q176:=eq_true q176;go_wp2
                repeat (go_quiet (fail);try go_wp2)
                go_ret;exact ⟨by first | rfl | (simp;done) | (simp only [← hji10] <;> (first | rfl | simp)) | (simp [*];done),by repeat (first | exact a0Z.refl _ | apply a0Z.step)⟩
               ·rw [if_neg c13] at H;have c13b0:decide ((rd (a0W l0 aC) aH)≤(rd (a0W l0 aC) (ji10))) = false:=zL0 c13;clear c13;have H':=a0C.mk H;clear H;have p168:0≤(aC:Int):=zB0 qA0;have q168:aC < (l0.length:Int):=zB0 qA0;obtain ⟨ad168,eN,eO,e168,aI,aJ,aK⟩:=a3I HR0.out aC p168 q168;cases e168;have cQ:=a0C.mk aK;have cR:=a0C.mk aJ;clear aK aJ;replace p168:=eq_true p168;replace q168:=eq_true q168;have p169:0≤(aC:Int):=zB0 qA0;have q169:aC < (l0.length:Int):=zB0 qA0;obtain ⟨ad169,eZ,fA,e169,bN,aX,aY⟩:=a3I HR0.out aC p169 q169;obtain rfl:ad168 = ad169:=(by injection e169);have bO:=a0C.mk aY;have dK:=a0C.mk aX;clear aY aX;replace p169:=eq_true p169;replace q169:=eq_true q169;have ea_:=zD0 (aI.symm.trans bN);injection ea_ with ea_ en_ ec_
                subst ea_;subst ec_;clear en_;have p170:0≤(aH:Int):=zB0 qA0;have q170:aH < ((a0W l0 aC).length:Int):=zB0 qA0;obtain ⟨ad170,e170,dL⟩:=Kd.a1Q bO.out aH p170 q170;cases e170;replace p170:=eq_true p170;replace q170:=eq_true q170;have p171:0≤(aC:Int):=zB0 qA0;have q171:aC < (l0.length:Int):=zB0 qA0;obtain ⟨ad171,gX,gY,e171,bQ,bH,bI⟩:=a3I HR0.out aC p171 q171;obtain rfl:ad168 = ad171:=(by injection e171);have bR:=a0C.mk bI;have fB:=a0C.mk bH;clear bI bH;replace p171:=eq_true p171;replace q171:=eq_true q171;have ea_:=zD0 (aI.symm.trans bQ);injection ea_ with ea_ en_ ec_
                subst ea_;subst ec_;clear en_;have p172:0≤(aH:Int):=zB0 qA0;have q172:aH < ((a0W l0 aC).length:Int):=zB0 qA0;obtain ⟨ad172,e172,fC⟩:=Kd.a1Q bR.out aH p172 q172;cases e172;replace p172:=eq_true p172;replace q172:=eq_true q172;have p173:0≤(aC:Int):=zB0 qA0;have q173:aC < (l0.length:Int):=zB0 qA0;obtain ⟨ad173,lZ,mA,e173,fD,cU,cV⟩:=a3I HR0.out aC p173 q173;obtain rfl:ad168 = ad173:=(by injection e173);have fE:=a0C.mk cV;have kZ:=a0C.mk cU;clear cV cU;replace p173:=eq_true p173;replace q173:=eq_true q173;have ea_:=zD0 (aI.symm.trans fD);injection ea_ with ea_ en_ ec_
                subst ea_;subst ec_;clear en_;have p174:0≤((ji10):Int):=zB0 qA0;have q174:(ji10) < ((a0W l0 aC).length:Int):=zB0 qA0;obtain ⟨ad174,e174,lA⟩:=Kd.a1Q fE.out (ji10) p174 q174;cases e174;replace p174:=eq_true p174;replace q174:=eq_true q174;have p175:0≤(aC:Int):=zB0 qA0;have q175:aC < (l0.length:Int):=zB0 qA0;obtain ⟨ad175,mB,mC,e175,fF,cW,cX⟩:=a3I HR0.out aC p175 q175;obtain rfl:ad168 = ad175:=(by injection e175);have fG:=a0C.mk cX;have lB:=a0C.mk cW;clear cX cW;replace p175:=eq_true p175;replace q175:=eq_true q175;have ea_:=zD0 (aI.symm.trans fF);injection ea_ with ea_ en_ ec_
                subst ea_;subst ec_;clear en_;have p176:0≤(aH:Int):=zB0 qA0;have q176:aH < ((a0W l0 aC).length:Int):=zB0 qA0;obtain ⟨ad176,e176,lC⟩:=Kd.a1Q fG.out aH p176 q176;cases e176;replace p176:=eq_true p176;replace q176:=eq_true q176;go_wp2
                repeat (go_quiet (fail);try go_wp2)
                go_roundg k2
                case measure =>have:=HK1.out;have:=HK2.out;omega
                case rel =>exact ⟨(wrap64 (aH + 1)),qE0,H',⟨by have:=HK1.out;have:=HK2.out;omega⟩,by repeat (first | exact a0Z.refl _ | apply a0Z.step)⟩
              ·rw [if_neg c12] at H;exact absurd H qG0
             ·rw [if_neg c11] at H;exact absurd H qG0
            ·rw [if_neg c9] at H;have c9b0:decide (0 < aH) = false:=zL0 c9;clear c9;have H':=a0C.mk H;clear H;have p168:0≤(aC:Int):=zB0 qA0;have q168:aC < (l0.length:Int):=zB0 qA0;obtain ⟨ad168,eN,eO,e168,aI,aJ,aK⟩:=a3I HR0.out aC p168 q168;cases e168;have cQ:=a0C.mk aK;have cR:=a0C.mk aJ;clear aK aJ;replace p168:=eq_true p168;replace q168:=eq_true q168;have p169:0≤(aC:Int):=zB0 qA0;have q169:aC < (l0.length:Int):=zB0 qA0;obtain ⟨ad169,eZ,fA,e169,bN,aX,aY⟩:=a3I HR0.out aC p169 q169;obtain rfl:ad168 = ad169:=(by injection e169);have bO:=a0C.mk aY;have dK:=a0C.mk aX;clear aY aX;replace p169:=eq_true p169;replace q169:=eq_true q169;have ea_:=zD0 (aI.symm.trans bN);injection ea_ with ea_ en_ ec_
             subst ea_;subst ec_;clear en_;have p170:0≤(aH:Int):=zB0 qA0;have q170:aH < ((a0W l0 aC).length:Int):=zB0 qA0;obtain ⟨ad170,e170,dL⟩:=Kd.a1Q bO.out aH p170 q170;cases e170;replace p170:=eq_true p170;replace q170:=eq_true q170;have p171:0≤(aC:Int):=zB0 qA0;have q171:aC < (l0.length:Int):=zB0 qA0;obtain ⟨ad171,gX,gY,e171,bQ,bH,bI⟩:=a3I HR0.out aC p171 q171;obtain rfl:ad168 = ad171:=(by injection e171);have bR:=a0C.mk bI;have fB:=a0C.mk bH;clear bI bH;replace p171:=eq_true p171;replace q171:=eq_true q171;have ea_:=zD0 (aI.symm.trans bQ);injection ea_ with ea_ en_ ec_
             subst ea_;subst ec_;clear en_;have p172:0≤(aH:Int):=zB0 qA0;have q172:aH < ((a0W l0 aC).length:Int):=zB0 qA0;obtain ⟨ad172,e172,fC⟩:=Kd.a1Q bR.out aH p172 q172;cases e172;replace p172:=eq_true p172;replace q172:=eq_true q172;go_wp2
             repeat (go_quiet (fail);try go_wp2)
             go_roundg k2
             case measure =>have:=HK1.out;have:=HK2.out;omega
             case rel =>exact ⟨(wrap64 (aH + 1)),qE0,H',⟨by have:=HK1.out;have:=HK2.out;omega⟩,by repeat (first | exact a0Z.refl _ | apply a0Z.step)⟩
         ·rw [if_neg c6] at H;exact absurd H qG0
        ·rw [if_neg c5] at H;have c5b0:decide (aH < ((a0W l0 aC).length:Int)) = false:=zL0 c5;clear c5;have H':=a0C.mk H;clear H;have p168:0≤(aC:Int):=zB0 qA0;have q168:aC < (l0.length:Int):=zB0 qA0;obtain ⟨ad168,eN,eO,e168,aI,aJ,aK⟩:=a3I HR0.out aC p168 q168;cases e168;have cQ:=a0C.mk aK;have cR:=a0C.mk aJ;clear aK aJ;replace p168:=eq_true p168;replace q168:=eq_true q168;go_wp2
         repeat (go_quiet (fail);try go_wp2)
         go_roundg k2
         case measure =>have:=HK1.out;have:=HK2.out;omega
         case rel =>exact ⟨(wrap64 (aC + 1)),qE0,H',⟨by have:=HK1.out;have:=HK2.out;omega⟩,by repeat (first | exact a0Z.refl _ | apply a0Z.step)⟩
       ·rw [if_neg c4] at H;exact absurd H qG0
      ·rw [if_neg c3] at H;exact absurd H qG0
   ·rw [if_neg c2] at H;have c2b0:decide (aC < (l0.length:Int)) = false:=zL0 c2;clear c2;obtain rfl:=zD0 H;go_wp2
    repeat (go_quiet (fail);try go_wp2)
    go_ret;exact qN3
mutual
def r12_Reach.j0:Nat→List (List Int)→Int→Bool→Option (List Int)
 | 0,_,_,_ =>none
 | k + 1,x0,x1,x25 =>if x25 = true then (some ([]:List Int)) else (r12_Reach.l0 k x0 x1 (([]:List Bool)) 0)
def r12_Reach.l0:Nat→List (List Int)→Int→List Bool→Int→Option (List Int)
 | 0,_,_,_,_ =>none
 | k + 1,x0,x1,x5,x6 =>if x6 < (x0.length:Int) then (if x5.length < 140737488355328 then (r12_Reach.l0 k x0 x1 (x5 ++ [(x6 == x1)]) (wrap64 (x6 + 1))) else (none)) else (r12_Reach.l1 k x0 x5 0)
def r12_Reach.j5:Nat→List (List Int)→List Bool→Option (List Int)
 | 0,_,_ =>none
 | k + 1,x0,x5 =>r12_Reach.l4 k x0 x5 (([]:List Int)) 0
def r12_Reach.l4:Nat→List (List Int)→List Bool→List Int→Int→Option (List Int)
 | 0,_,_,_,_ =>none
 | k + 1,x0,x5,x11,x12 =>if x12 < (x0.length:Int) then (if 0≤x12 then (if x12 < (x5.length:Int) then (if rdOf false x5 x12 = true then (if x11.length < 17592186044416 then (r12_Reach.l4 k x0 x5 (x11 ++ [x12]) (wrap64 (x12 + 1))) else (none)) else (r12_Reach.l4 k x0 x5 x11 (wrap64 (x12 + 1)))) else (none)) else (none)) else (some x11)
def r12_Reach.l1:Nat→List (List Int)→List Bool→Int→Option (List Int)
 | 0,_,_,_ =>none
 | k + 1,x0,x5,x7 =>if x7 < (x0.length:Int) then (r12_Reach.l2 k x0 x5 x7 false 0) else (r12_Reach.j5 k x0 x5)
def r12_Reach.l2:Nat→List (List Int)→List Bool→Int→Bool→Int→Option (List Int)
 | 0,_,_,_,_,_ =>none
 | k + 1,x0,x5,x7,x8,x9 =>if x9 < (x0.length:Int) then (r12_Reach.l3 k x0 x5 x7 x8 x9 0) else (if x8 = true then (r12_Reach.l1 k x0 x5 (wrap64 (x7 + 1))) else (r12_Reach.j5 k x0 x5))
def r12_Reach.l3:Nat→List (List Int)→List Bool→Int→Bool→Int→Int→Option (List Int)
 | 0,_,_,_,_,_,_ =>none
 | k + 1,x0,x5,x7,x8,x9,x10 =>if 0≤x9 then (if x9 < (x0.length:Int) then (if x10 < ((a0W x0 x9).length:Int) then (if x9 < (x5.length:Int) then (if rdOf false x5 x9 = true then (if x8 = true then (if 0≤x10 then (if 0≤(rd (a0W x0 x9) x10) then (if (rd (a0W x0 x9) x10) < (x5.length:Int) then (r12_Reach.l3 k x0 (x5.set ((rd (a0W x0 x9) x10):Int).toNat true) x7 true x9 (wrap64 (x10 + 1))) else (none)) else (none)) else (none)) else (if 0≤x10 then (if 0≤(rd (a0W x0 x9) x10) then (if (rd (a0W x0 x9) x10) < (x5.length:Int) then (r12_Reach.l3 k x0 (x5.set ((rd (a0W x0 x9) x10):Int).toNat true) x7 (!(rdOf false x5 (rd (a0W x0 x9) x10))) x9 (wrap64 (x10 + 1))) else (none)) else (none)) else (none))) else (r12_Reach.l2 k x0 x5 x7 x8 (wrap64 (x9 + 1)))) else (none)) else (r12_Reach.l2 k x0 x5 x7 x8 (wrap64 (x9 + 1)))) else (none)) else (none)
end
def r12_Reach.f (k:Nat) (l0:List (List Int)) (a1:Int):Option (List Int):=(r12_May.f k l0).bind fun t177 =>(if t177 = true then (if a1 < 0 then (r12_Reach.j0 k l0 a1 true) else (r12_Reach.j0 k l0 a1 (decide (a1 ≥ (l0.length:Int))))) else (r12_Reach.j0 k l0 a1 true))
set_option maxHeartbeats 8000000 in
set_option maxRecDepth 100000 in
theorem r12_Reach.calls (k:Nat) (A0:Option Addr) (c0:Nat) (l0:List (List Int)) (a1:Int) (r:List Int) (w:World) (hr0:Kd.C (Kd.slice 3 (Kd.int .i64)) w A0 l0.length l0) (hc0:l0.length≤c0) (h:r12_Reach.f k l0 a1 = some r) :
    Calls Tryz.prog 21 #[.slice A0 l0.length c0,.int .i64 a1] w fun e w' =>∃ v0_:Value,e = .returned (v0_)∧Kd.R (Kd.int .i64) 3 w' w.heap.size (fun _ =>True) v0_ r∧Below w.heap.size w w':=by
 have HR0:=a0C.mk hr0;have HC0:=a0C.mk hc0;clear hr0 hc0;have HB:=a0C.mk (zJ0 w.heap.size w);have H:((r12_May.f k l0).bind fun t177 =>(if t177 = true then (if a1 < 0 then (r12_Reach.j0 k l0 a1 true) else (r12_Reach.j0 k l0 a1 (decide (a1 ≥ (l0.length:Int))))) else (r12_Reach.j0 k l0 a1 true))) = some r:=h;clear h;have HC3:=a0C.mk H;clear H;go_enter Tryz.func21,Tryz.ntmps21
 go_upto_region 1 with (fail)
 go_cut [25] (fun v25 wc =>∃ (kq:Nat) (iR:Bool),v25 = .bool iR∧a0C (r12_Reach.j0 kq l0 a1 iR = some r)∧a0C (kq≤k)∧a0C (Below w.heap.size w wc))
 case first =>
  have H:=HC3.out;clear HC3;obtain ⟨t177,A4,H⟩:=ob_ H;by_cases c5:t177 = true
  ·subst c5;rw [if_pos rfl] at H;by_cases c6:a1 < 0
   ·rw [if_pos c6] at H;have c6b0:decide (a1 < 0) = true:=zC0 c6;clear c6
    (first | rw [c6b0] | (simp only [a4H,a4S];rw [c6b0]) | skip)
    have H':=a0C.mk H;clear H;go_wp2_with (first | ((with_reducible refine a1A (f:=36) rfl ?_);refine a2B (some 14) rfl rfl Tryz.func36 qH0 rfl #[.slice A0 l0.length c0] rfl qC0 ?_;(with_reducible refine (r12_May.calls k _ _ l0 true _ ?side1 ?side2 A4.out).mono ?_);(case side1 =>repeat (first | exact (Kd.a0I HR0.out HB.out) | (with_reducible refine Kd.a1E ?_ _) | (with_reducible refine Kd.a1D ?_ _) | (with_reducible refine Kd.a1I ?_)));(case side2 =>exact HC0.out);rintro e w' ⟨rfl,⟨nd,rfl⟩⟩;refine ⟨_,rfl,?_⟩));go_meet
    case rel =>exact ⟨_,(true),qE0,H',⟨by first | omega | exact zG0 _⟩,⟨by repeat (first | (with_reducible first | exact HB.out | apply a0B | apply a0A | apply a0D) | exact HB.out)⟩⟩
   ·rw [if_neg c6] at H;have c6b0:decide (a1 < 0) = false:=zL0 c6;clear c6
    (first | rw [c6b0] | (simp only [a4H,a4S];rw [c6b0]) | skip)
    have H':=a0C.mk H;clear H;go_wp2_with (first | ((with_reducible refine a1A (f:=36) rfl ?_);refine a2B (some 14) rfl rfl Tryz.func36 qH0 rfl #[.slice A0 l0.length c0] rfl qC0 ?_;(with_reducible refine (r12_May.calls k _ _ l0 true _ ?side1 ?side2 A4.out).mono ?_);(case side1 =>repeat (first | exact (Kd.a0I HR0.out HB.out) | (with_reducible refine Kd.a1E ?_ _) | (with_reducible refine Kd.a1D ?_ _) | (with_reducible refine Kd.a1I ?_)));(case side2 =>exact HC0.out);rintro e w' ⟨rfl,⟨nd,rfl⟩⟩;refine ⟨_,rfl,?_⟩));go_meet
    case rel =>exact ⟨_,(decide (a1 ≥ (l0.length:Int))),qE0,H',⟨by first | omega | exact zG0 _⟩,⟨by repeat (first | (with_reducible first | exact HB.out | apply a0B | apply a0A | apply a0D) | exact HB.out)⟩⟩
  ·replace c5:=Bool.eq_false_iff.mpr c5;subst c5;rw [if_neg (show ¬ (false = true) by decide)] at H;have H':=a0C.mk H;clear H;go_wp2_with (first | ((with_reducible refine a1A (f:=36) rfl ?_);refine a2B (some 14) rfl rfl Tryz.func36 qH0 rfl #[.slice A0 l0.length c0] rfl qC0 ?_;(with_reducible refine (r12_May.calls k _ _ l0 false _ ?side1 ?side2 A4.out).mono ?_);(case side1 =>repeat (first | exact (Kd.a0I HR0.out HB.out) | (with_reducible refine Kd.a1E ?_ _) | (with_reducible refine Kd.a1D ?_ _) | (with_reducible refine Kd.a1I ?_)));(case side2 =>exact HC0.out);rintro e w' ⟨rfl,⟨nd,rfl⟩⟩;refine ⟨_,rfl,?_⟩));go_meet
   case rel =>exact ⟨_,(true),qE0,H',⟨by first | omega | exact zG0 _⟩,⟨by repeat (first | (with_reducible first | exact HB.out | apply a0B | apply a0A | apply a0D) | exact HB.out)⟩⟩
 case rest =>
  clear HC3;obtain ⟨kq,iR,rfl,HA,HJ2,HB⟩:=hcut;cases kq with
  | zero =>exact absurd HA.out (by simp [r12_Reach.j0])
  | succ kj2 =>
   have H:=HA.out;clear HA;simp only [r12_Reach.j0] at H;by_cases c7:iR = true
   ·subst c7;rw [if_pos rfl] at H;obtain rfl:=zD0 H;go_wp2;go_ret;exact qS3
   ·replace c7:=Bool.eq_false_iff.mpr c7;subst c7;rw [if_neg (show ¬ (false = true) by decide)] at H;obtain ⟨y178,hy178⟩:∃ y_:List Bool,y_ = (([]:List Bool)):=⟨_,rfl⟩;replace H:(r12_Reach.l0 kj2 l0 a1 y178 0) = some r:=by first | (rw [hy178];with_reducible exact H) | (have H2_:=(zK0 _ _).symm.trans H;rw [hy178];with_reducible exact H2_) | (have H2_:=(zK0 _ _).symm.trans H;with_reducible exact H2_) | with_reducible exact H | (rw [hy178];exact H) | exact H
    have Ny178:=a0C.mk hy178;clear hy178;have H':=a0C.mk H;clear H;go_wp2_with (first | ((with_reducible refine a0V (N:=26) rfl ?_);(try (refine a2T (by rfl) ?_;dsimp only));refine Kd.a9T Kd.bool _ 4 ?hg (N:=26) ?hd (xs:=([]:List Bool)) (inner:=[]) (ok:=fun _ =>True) (okp:=fun _ =>True) ?hr ?hp (fun _ hk =>hk) trivial (zJ0 _ _) (zG0 _) qG0 ?_;(case hd =>rfl);(case hg =>rfl);(case hr =>first | (go_simp;done) | (go_simp;rfl));(case hp =>exact (Reps.none _ _));intro v179 w8 ho9 hb hg_ hnew_;clear hg_ hnew_;(first | rw [← Ny178.out] at ho9 | (simp only [Int.reduceToNat] at ho9;rw [← Ny178.out] at ho9));have HO180:=a0C.mk (Kd.a2W ho9 (a0R qB0));replace HB:=a0C.mk (a0L qB0 hb);clear hb ho9));go_loopg [5,6] kj2 (fun kq v5 v6 w' =>∃ (gZ:List Bool) (eP:Int),v6 = .int .i64 eP∧a0C (r12_Reach.l0 kq l0 a1 gZ eP = some r)∧a0C (kq≤kj2)∧a0C (Kd.R Kd.bool 4 w' w.heap.size (fun _ =>True) v5 gZ)∧a0C (Below w.heap.size w w'))
    case atStart =>exact ⟨(y178),(0),qE0,H',⟨zG0 _⟩,⟨by (with_reducible repeat (first | apply Kd.a0T | apply Kd.a0S | apply Kd.a1B));exact HO180.out⟩,⟨by repeat (first | (with_reducible first | exact HB.out | apply a0B | apply a0A | apply a0D) | exact HB.out)⟩⟩
    case round =>
     clear H';obtain ⟨gZ,eP,rfl,HA,HK2,aM,HB⟩:=hrel;cases gk with
     | zero =>exact absurd HA.out (by simp [r12_Reach.l0])
     | succ k2 =>
      have H:=HA.out;clear HA;simp only [r12_Reach.l0] at H;by_cases c10:eP < (l0.length:Int)
      ·rw [if_pos c10] at H;have c10b0:decide (eP < (l0.length:Int)) = true:=zC0 c10;clear c10;by_cases c11:gZ.length < 140737488355328
       ·rw [if_pos c11] at H;have LMc11:=a0C.mk c11;clear c11;obtain ⟨y181,hy181⟩:∃ y_:List Bool,y_ = (gZ ++ [(eP == a1)]):=⟨_,rfl⟩;replace H:(r12_Reach.l0 k2 l0 a1 y181 (wrap64 (eP + 1))) = some r:=by first | (rw [hy181];with_reducible exact H) | (have H2_:=(zK0 _ _).symm.trans H;rw [hy181];with_reducible exact H2_) | (have H2_:=(zK0 _ _).symm.trans H;with_reducible exact H2_) | with_reducible exact H | (rw [hy181];exact H) | exact H
        have Ny181:=a0C.mk hy181;clear hy181;have H':=a0C.mk H;clear H;go_wp2_with (first | ((with_reducible refine a1H (b:=.append) (xs:=#[.tmp 33,.tmp 37]) rfl ?_);(try (refine a2T (by rfl) ?_;dsimp only));at_builtin;refine Kd.a2Q Kd.bool (w0:=w) w.heap.size rfl (.tmp 33) (.tmp 37) 71 4 (.bool false) 1 rfl Tryz.underlying71 info4 rfl qF0 qD0 u5 gZ (eP == a1) [.bool (eP == a1)] (fun _ =>True) (fun _ =>False) rfl rfl ?aP (fun _ hk =>hk.elim) ?aF ?aO ?aB ?aS ?aL ?_;(case aP =>exact rfl);(case aB =>exact qB0);(case aF =>exact (fun _ _ =>trivial));(case aO =>exact qK1);(case aS =>exact (a0R qB0));(case aL =>have:=LMc11.out;omega);intro v182 w12 ho hb hg hat;rw [← Ny181.out] at ho;have bY:=a0C.mk (hb);have bZ:=a0C.mk (ho);clear HB;clear aM;have HB:=bY;have HO183:=bZ;clear bY bZ;clear ho hb hg hat));go_roundg k2
        case measure =>have:=HJ2.out;have:=HK2.out;omega
        case rel =>exact ⟨(y181),(wrap64 (eP + 1)),qE0,H',⟨by have:=HJ2.out;have:=HK2.out;omega⟩,⟨by (with_reducible repeat (first | apply Kd.a0T | apply Kd.a0S | apply Kd.a1B));exact HO183.out⟩,⟨by repeat (first | (with_reducible first | exact HB.out | apply a0B | apply a0A | apply a0D) | exact HB.out)⟩⟩
       ·rw [if_neg c11] at H;exact absurd H qG0
      ·rw [if_neg c10] at H;have c10b0:decide (eP < (l0.length:Int)) = false:=zL0 c10;clear c10;have HC13:=a0C.mk H;clear H
       go_upto_block 2 with (fail)
       go_cut [] (fun wc =>∃ (kq:Nat) (bP:List Bool),a0C (r12_Reach.j5 kq l0 bP = some r)∧a0C (kq≤k2)∧a0C (Kd.R Kd.bool 4 wc w.heap.size (fun _ =>True) u5 bP)∧a0C (Below w.heap.size w wc))
       case first =>
        have H:=HC13.out;clear HC13;have H':=a0C.mk H;clear H;go_wp2;go_loopg [7] k2 (fun kq v7 w' =>∃ (kH:List Bool) (cY:Int),v7 = .int .i64 cY∧a0C (r12_Reach.l1 kq l0 kH cY = some r)∧a0C (kq≤k2)∧a0C (Kd.R Kd.bool 4 w' w.heap.size (fun _ =>True) u5 kH)∧a0C (Below w.heap.size w w'))
        case atStart =>exact ⟨(gZ),(0),qE0,H',⟨zG0 _⟩,⟨by (with_reducible repeat (first | apply Kd.a0T | apply Kd.a0S | apply Kd.a1B));exact aM.out⟩,⟨by repeat (first | (with_reducible first | exact HB.out | apply a0B | apply a0A | apply a0D) | exact HB.out)⟩⟩
        case round =>
         clear H';obtain ⟨kH,cY,rfl,HA,HK3,aM,HB⟩:=hrel;cases gk with
         | zero =>exact absurd HA.out (by simp [r12_Reach.l1])
         | succ k3 =>
          have H:=HA.out;clear HA;simp only [r12_Reach.l1] at H;by_cases c14:cY < (l0.length:Int)
          ·rw [if_pos c14] at H;have c14b0:decide (cY < (l0.length:Int)) = true:=zC0 c14;clear c14
           (first | rw [c14b0] | (simp only [a4H,a4S];rw [c14b0]) | skip)
           have H':=a0C.mk H;clear H;go_wp2;go_loopg [8,9] k3 (fun kq v8 v9 w' =>∃ (kE:List Bool) (kJ:Bool) (aD:Int),v8 = .bool kJ∧v9 = .int .i64 aD∧a0C (r12_Reach.l2 kq l0 kE cY kJ aD = some r)∧a0C (kq≤k3)∧a0C (Kd.R Kd.bool 4 w' w.heap.size (fun _ =>True) u5 kE)∧a0C (Below w.heap.size w w'))
           case atStart =>exact ⟨(kH),(false),(0),qE0,qE0,H',⟨zG0 _⟩,⟨by (with_reducible repeat (first | apply Kd.a0T | apply Kd.a0S | apply Kd.a1B));exact aM.out⟩,⟨by repeat (first | (with_reducible first | exact HB.out | apply a0B | apply a0A | apply a0D) | exact HB.out)⟩⟩
           case round =>
            clear H';obtain ⟨kE,kJ,aD,rfl,rfl,HA,HK4,aM,HB⟩:=hrel;cases gk with
            | zero =>exact absurd HA.out (by simp [r12_Reach.l2])
            | succ k4 =>
             have H:=HA.out;clear HA;simp only [r12_Reach.l2] at H;by_cases c15:aD < (l0.length:Int)
             ·rw [if_pos c15] at H;have c15b0:decide (aD < (l0.length:Int)) = true:=zC0 c15;clear c15;have H':=a0C.mk H;clear H;go_wp2;go_loopg [8,10] k4 (fun kq v8 v10 w' =>∃ (bG:List Bool) (gN:Bool) (aE:Int),v8 = .bool gN∧v10 = .int .i64 aE∧a0C (r12_Reach.l3 kq l0 bG cY gN aD aE = some r)∧a0C (kq≤k4)∧a0C (Kd.R Kd.bool 4 w' w.heap.size (fun _ =>True) u5 bG)∧a0C (Below w.heap.size w w'))
              case atStart =>exact ⟨(kE),(kJ),(0),qE0,qE0,H',⟨zG0 _⟩,⟨by (with_reducible repeat (first | apply Kd.a0T | apply Kd.a0S | apply Kd.a1B));exact aM.out⟩,⟨by repeat (first | (with_reducible first | exact HB.out | apply a0B | apply a0A | apply a0D) | exact HB.out)⟩⟩
              case round =>
               clear H';obtain ⟨bG,gN,aE,rfl,rfl,HA,HK5,aM,HB⟩:=hrel;cases gk with
               | zero =>exact absurd HA.out (by simp [r12_Reach.l3])
               | succ k5 =>
                have H:=HA.out;clear HA;simp only [r12_Reach.l3] at H;by_cases c16:0≤aD
                ·rw [if_pos c16] at H;have c16b0:decide (0≤aD) = true:=zC0 c16;clear c16;by_cases c17:aD < (l0.length:Int)
                 ·rw [if_pos c17] at H;have c17b0:decide (aD < (l0.length:Int)) = true:=zC0 c17;clear c17;by_cases c18:aE < ((a0W l0 aD).length:Int)
                  ·rw [if_pos c18] at H;have c18b0:decide (aE < ((a0W l0 aD).length:Int)) = true:=zC0 c18;clear c18;by_cases c19:aD < (bG.length:Int)
                   ·rw [if_pos c19] at H;have c19b0:decide (aD < (bG.length:Int)) = true:=zC0 c19;clear c19;obtain ⟨bq20,hbq20⟩:∃ b_:Bool,b_ = (rdOf false bG aD):=⟨_,rfl⟩;replace H:(if bq20 = true then (if gN = true then (if 0≤aE then (if 0≤(rd (a0W l0 aD) aE) then (if (rd (a0W l0 aD) aE) < (bG.length:Int) then (r12_Reach.l3 k5 l0 (bG.set ((rd (a0W l0 aD) aE):Int).toNat true) cY true aD (wrap64 (aE + 1))) else (none)) else (none)) else (none)) else (if 0≤aE then (if 0≤(rd (a0W l0 aD) aE) then (if (rd (a0W l0 aD) aE) < (bG.length:Int) then (r12_Reach.l3 k5 l0 (bG.set ((rd (a0W l0 aD) aE):Int).toNat true) cY (!(rdOf false bG (rd (a0W l0 aD) aE))) aD (wrap64 (aE + 1))) else (none)) else (none)) else (none))) else (r12_Reach.l2 k5 l0 bG cY gN (wrap64 (aD + 1)))) = some r:=by rw [← hbq20] at H;exact H
                    have Nbq20:=a0C.mk hbq20;clear hbq20;by_cases c21:bq20 = true
                    ·subst c21;rw [if_pos rfl] at H;by_cases c22:gN = true
                     ·subst c22;rw [if_pos rfl] at H;by_cases c23:0≤aE
                      ·rw [if_pos c23] at H;have c23b0:decide (0≤aE) = true:=zC0 c23;clear c23;by_cases c24:0≤(rd (a0W l0 aD) aE)
                       ·rw [if_pos c24] at H;have c24b0:decide (0≤(rd (a0W l0 aD) aE)) = true:=zC0 c24;clear c24;by_cases c25:(rd (a0W l0 aD) aE) < (bG.length:Int)
                        ·rw [if_pos c25] at H;have c25b0:decide ((rd (a0W l0 aD) aE) < (bG.length:Int)) = true:=zC0 c25;clear c25;obtain ⟨y188,hy188⟩:∃ y_:List Bool,y_ = (bG.set ((rd (a0W l0 aD) aE):Int).toNat true):=⟨_,rfl⟩;replace H:(r12_Reach.l3 k5 l0 y188 cY true aD (wrap64 (aE + 1))) = some r:=by first | (rw [hy188];with_reducible exact H) | (have H2_:=(zK0 _ _).symm.trans H;rw [hy188];with_reducible exact H2_) | (have H2_:=(zK0 _ _).symm.trans H;with_reducible exact H2_) | with_reducible exact H | (rw [hy188];exact H) | exact H
                         have Ny188:=a0C.mk hy188;clear hy188;have H':=a0C.mk H;clear H;have p184:0≤(aD:Int):=zB0 qA0;have q184:aD < (l0.length:Int):=zB0 qA0;obtain ⟨ad184,iA,iB,e184,aZ,bJ,bK⟩:=a3I HR0.out aD p184 q184;cases e184;replace aZ:=a0E HB.out aZ;have fH:=a0C.mk bK;have fI:=a0C.mk bJ;clear bK bJ;replace p184:=eq_true p184;replace q184:=eq_true q184;obtain ⟨Ao27,co27,eo27⟩:=Kd.a1V aM.out;subst eo27;have p185:0≤(aD:Int):=zB0 qA0;have q185:aD < (bG.length:Int):=zB0 qA0;obtain ⟨ad185,e185,bS⟩:=Kd.a8Y (Kd.a1J aM.out).2.2 aD p185 q185
                         (try rw [← Nbq20.out] at bS)
                         cases e185;replace p185:=eq_true p185;replace q185:=eq_true q185;have p186:0≤(aD:Int):=zB0 qA0;have q186:aD < (l0.length:Int):=zB0 qA0;obtain ⟨ad186,pX,pY,e186,fJ,iS,iT⟩:=a3I HR0.out aD p186 q186;obtain rfl:ad184 = ad186:=(by injection e186);replace fJ:=a0E HB.out fJ;have lD:=a0C.mk iT;have nO:=a0C.mk iS;clear iT iS;replace p186:=eq_true p186;replace q186:=eq_true q186;have ea_:=zD0 (aZ.symm.trans fJ);injection ea_ with ea_ en_ ec_
                         subst ea_;subst ec_;clear en_;have p187:0≤(aE:Int):=zB0 qA0;have q187:aE < ((a0W l0 aD).length:Int):=zB0 qA0;obtain ⟨ad187,e187,iU⟩:=Kd.a1Q lD.out aE p187 q187;cases e187;replace iU:=a0E HB.out iU;replace p187:=eq_true p187;replace q187:=eq_true q187;have p26:0≤((rd (a0W l0 aD) aE):Int):=zB0 qA0;have q26:((rd (a0W l0 aD) aE):Int) < ((bG.length:Int):Int):=zB0 qA0;obtain ⟨go26,co26,eo26,nB,gl26,cl26,HG26⟩:=Kd.b1N aM.out qD0
                         (first | cases eo26 | (injection eo26 with ea_ en_ ec_;(first | subst ea_ | (injection ea_ with ea_;subst ea_));subst ec_;clear en_))
                         have GB26:=a0C.mk nB;have GG26:=a0C.mk HG26;clear nB gl26 HG26
                         (first | simp only [a4N] at bS | skip)
                         obtain ⟨pZ,qA⟩:=Kd.b3Z false aM.out ((rd (a0W l0 aD) aE):Int) p26 q26;replace p26:=eq_true p26;replace q26:=eq_true q26;have HP28:=Kd.c3Y aM.out ((rd (a0W l0 aD) aE):Int) true;go_wp2_with (first | ((with_reducible refine a0Y (t:=4) (p:=88) rfl ?_);refine a6M (t:=4) (p:=88) (v:=?vo_w29) (w1:=(wr.setCell ⟨go26,((rd (a0W l0 aD) aE):Int).toNat,none⟩ (.bool true))) ?hg ?ho ?hn ?hr ?_;(case ho =>rfl);(case hg =>rfl);(case hn =>rfl);(case hr =>first | (go_simp;done) | (go_simp;rfl));intro w29 hw;have hg:wr.grownBy w29 (some go26):=(by rw [hw];exact HP28.2);have hp_:Kd.R Kd.bool 4 w29 w.heap.size (fun _ =>True) (.slice (some ⟨go26,0,none⟩) bG.length co27) y188:=(by rw [hw,Ny188.out];exact HP28.1);clear HP28;replace aM:=a0C.mk (hp_);replace HB:=a0C.mk ((by rw [hw];exact a0G (HB.out) GB26.out:Below w.heap.size w w29));clear hg hw hp_));go_roundg k5
                         case measure =>have:=HJ2.out;have:=HK2.out;have:=HK3.out;have:=HK4.out;have:=HK5.out;omega
                         case rel =>exact ⟨(y188),(true),(wrap64 (aE + 1)),qE0,qE0,H',⟨by have:=HJ2.out;have:=HK2.out;have:=HK3.out;have:=HK4.out;have:=HK5.out;omega⟩,⟨by (with_reducible repeat (first | apply Kd.a0T | apply Kd.a0S | apply Kd.a1B));exact aM.out⟩,⟨by repeat (first | (with_reducible first | exact HB.out | apply a0B | apply a0A | apply a0D) | exact HB.out)⟩⟩
                        ·rw [if_neg c25] at H;exact absurd H qG0
                       ·rw [if_neg c24] at H;exact absurd H qG0
                      ·rw [if_neg c23] at H;exact absurd H qG0
                     ·replace c22:=Bool.eq_false_iff.mpr c22;subst c22;rw [if_neg (show ¬ (false = true) by decide)] at H;by_cases c30:0≤aE
                      ·rw [if_pos c30] at H;have c30b0:decide (0≤aE) = true:=zC0 c30;clear c30;by_cases c31:0≤(rd (a0W l0 aD) aE)
                       ·rw [if_pos c31] at H;have c31b0:decide (0≤(rd (a0W l0 aD) aE)) = true:=zC0 c31;clear c31;by_cases c32:(rd (a0W l0 aD) aE) < (bG.length:Int)
                        ·rw [if_pos c32] at H;have c32b0:decide ((rd (a0W l0 aD) aE) < (bG.length:Int)) = true:=zC0 c32;clear c32;obtain ⟨y194,hy194⟩:∃ y_:List Bool,y_ = (bG.set ((rd (a0W l0 aD) aE):Int).toNat true):=⟨_,rfl⟩;replace H:(r12_Reach.l3 k5 l0 y194 cY (!(rdOf false bG (rd (a0W l0 aD) aE))) aD (wrap64 (aE + 1))) = some r:=by first | (rw [hy194];with_reducible exact H) | (have H2_:=(zK0 _ _).symm.trans H;rw [hy194];with_reducible exact H2_) | (have H2_:=(zK0 _ _).symm.trans H;with_reducible exact H2_) | with_reducible exact H | (rw [hy194];exact H) | exact H
                         have Ny194:=a0C.mk hy194;clear hy194;have H':=a0C.mk H;clear H;have p184:0≤(aD:Int):=zB0 qA0;have q184:aD < (l0.length:Int):=zB0 qA0;obtain ⟨ad184,iA,iB,e184,aZ,bJ,bK⟩:=a3I HR0.out aD p184 q184;cases e184;replace aZ:=a0E HB.out aZ;have fH:=a0C.mk bK;have fI:=a0C.mk bJ;clear bK bJ;replace p184:=eq_true p184;replace q184:=eq_true q184;obtain ⟨Ao34,co34,eo34⟩:=Kd.a1V aM.out;subst eo34;have p185:0≤(aD:Int):=zB0 qA0;have q185:aD < (bG.length:Int):=zB0 qA0;obtain ⟨ad185,e185,bS⟩:=Kd.a8Y (Kd.a1J aM.out).2.2 aD p185 q185
                         (try rw [← Nbq20.out] at bS)
                         cases e185;replace p185:=eq_true p185;replace q185:=eq_true q185;have p189:0≤(aD:Int):=zB0 qA0;have q189:aD < (l0.length:Int):=zB0 qA0;obtain ⟨ad189,qB,qC,e189,fK,iV,iW⟩:=a3I HR0.out aD p189 q189;obtain rfl:ad184 = ad189:=(by injection e189);replace fK:=a0E HB.out fK;have lE:=a0C.mk iW;have nP:=a0C.mk iV;clear iW iV;replace p189:=eq_true p189;replace q189:=eq_true q189;have ea_:=zD0 (aZ.symm.trans fK);injection ea_ with ea_ en_ ec_
                         subst ea_;subst ec_;clear en_;have p190:0≤(aE:Int):=zB0 qA0;have q190:aE < ((a0W l0 aD).length:Int):=zB0 qA0;obtain ⟨ad190,e190,iX⟩:=Kd.a1Q lE.out aE p190 q190;cases e190;replace iX:=a0E HB.out iX;replace p190:=eq_true p190;replace q190:=eq_true q190;have p191:0≤((rd (a0W l0 aD) aE):Int):=zB0 qA0;have q191:(rd (a0W l0 aD) aE) < (bG.length:Int):=zB0 qA0;obtain ⟨ad191,e191,iY⟩:=Kd.a8Y (Kd.a1J aM.out).2.2 (rd (a0W l0 aD) aE) p191 q191
                         (try rw [← Nbq20.out] at iY)
                         obtain rfl:ad185 = ad191:=(by injection e191);replace p191:=eq_true p191;replace q191:=eq_true q191;have p192:0≤(aD:Int):=zB0 qA0;have q192:aD < (l0.length:Int):=zB0 qA0;obtain ⟨ad192,qD,qE,e192,fL,iZ,jA⟩:=a3I HR0.out aD p192 q192;obtain rfl:ad184 = ad192:=(by injection e192);replace fL:=a0E HB.out fL;have lF:=a0C.mk jA;have nQ:=a0C.mk iZ;clear jA iZ;replace p192:=eq_true p192;replace q192:=eq_true q192;have ea_:=zD0 (aZ.symm.trans fL);injection ea_ with ea_ en_ ec_
                         subst ea_;subst ec_;clear en_;have p193:0≤(aE:Int):=zB0 qA0;have q193:aE < ((a0W l0 aD).length:Int):=zB0 qA0;obtain ⟨ad193,e193,jB⟩:=Kd.a1Q lF.out aE p193 q193;cases e193;replace jB:=a0E HB.out jB;replace p193:=eq_true p193;replace q193:=eq_true q193;have p33:0≤((rd (a0W l0 aD) aE):Int):=zB0 qA0;have q33:((rd (a0W l0 aD) aE):Int) < ((bG.length:Int):Int):=zB0 qA0;obtain ⟨go33,co33,eo33,nC,gl33,cl33,HG33⟩:=Kd.b1N aM.out qD0
                         (first | cases eo33 | (injection eo33 with ea_ en_ ec_;(first | subst ea_ | (injection ea_ with ea_;subst ea_));subst ec_;clear en_))
                         have GB33:=a0C.mk nC;have GG33:=a0C.mk HG33;clear nC gl33 HG33
                         (first | simp only [a4N] at bS | skip)
                         (first | simp only [a4N] at iY | skip)
                         obtain ⟨qF,qG⟩:=Kd.b3Z false aM.out ((rd (a0W l0 aD) aE):Int) p33 q33;replace p33:=eq_true p33;replace q33:=eq_true q33;have HP35:=Kd.c3Y aM.out ((rd (a0W l0 aD) aE):Int) true;go_wp2_with (first | ((with_reducible refine a0Y (t:=4) (p:=88) rfl ?_);refine a6M (t:=4) (p:=88) (v:=?vo_w36) (w1:=(wr.setCell ⟨go33,((rd (a0W l0 aD) aE):Int).toNat,none⟩ (.bool true))) ?hg ?ho ?hn ?hr ?_;(case ho =>rfl);(case hg =>rfl);(case hn =>rfl);(case hr =>first | (go_simp;done) | (go_simp;rfl));intro w36 hw;have hg:wr.grownBy w36 (some go33):=(by rw [hw];exact HP35.2);have hp_:Kd.R Kd.bool 4 w36 w.heap.size (fun _ =>True) (.slice (some ⟨go33,0,none⟩) bG.length co34) y194:=(by rw [hw,Ny194.out];exact HP35.1);clear HP35;replace aM:=a0C.mk (hp_);replace HB:=a0C.mk ((by rw [hw];exact a0G (HB.out) GB33.out:Below w.heap.size w w36));clear hg hw hp_));go_roundg k5
                         case measure =>have:=HJ2.out;have:=HK2.out;have:=HK3.out;have:=HK4.out;have:=HK5.out;omega
                         case rel =>exact ⟨(y194),(!(rdOf false bG (rd (a0W l0 aD) aE))),(wrap64 (aE + 1)),qE0,qE0,H',⟨by have:=HJ2.out;have:=HK2.out;have:=HK3.out;have:=HK4.out;have:=HK5.out;omega⟩,⟨by (with_reducible repeat (first | apply Kd.a0T | apply Kd.a0S | apply Kd.a1B));exact aM.out⟩,⟨by repeat (first | (with_reducible first | exact HB.out | apply a0B | apply a0A | apply a0D) | exact HB.out)⟩⟩
                        ·rw [if_neg c32] at H;exact absurd H qG0
                       ·rw [if_neg c31] at H;exact absurd H qG0
                      ·rw [if_neg c30] at H;exact absurd H qG0
                    ·replace c21:=Bool.eq_false_iff.mpr c21;subst c21;rw [if_neg (show ¬ (false = true) by decide)] at H;have H':=a0C.mk H;clear H;have p184:0≤(aD:Int):=zB0 qA0;have q184:aD < (l0.length:Int):=zB0 qA0;obtain ⟨ad184,iA,iB,e184,aZ,bJ,bK⟩:=a3I HR0.out aD p184 q184;cases e184;replace aZ:=a0E HB.out aZ;have fH:=a0C.mk bK;have fI:=a0C.mk bJ;clear bK bJ;replace p184:=eq_true p184;replace q184:=eq_true q184;obtain ⟨Ao37,co37,eo37⟩:=Kd.a1V aM.out;subst eo37;have p185:0≤(aD:Int):=zB0 qA0;have q185:aD < (bG.length:Int):=zB0 qA0;obtain ⟨ad185,e185,bS⟩:=Kd.a8Y (Kd.a1J aM.out).2.2 aD p185 q185
                     (try rw [← Nbq20.out] at bS)
                     cases e185;replace p185:=eq_true p185;replace q185:=eq_true q185;go_wp2;go_roundg k5
                     case measure =>have:=HJ2.out;have:=HK2.out;have:=HK3.out;have:=HK4.out;have:=HK5.out;omega
                     case rel =>exact ⟨(bG),(gN),(wrap64 (aD + 1)),qE0,qE0,H',⟨by have:=HJ2.out;have:=HK2.out;have:=HK3.out;have:=HK4.out;have:=HK5.out;omega⟩,⟨by (with_reducible repeat (first | apply Kd.a0T | apply Kd.a0S | apply Kd.a1B));exact aM.out⟩,⟨by repeat (first | (with_reducible first | exact HB.out | apply a0B | apply a0A | apply a0D) | exact HB.out)⟩⟩
                   ·rw [if_neg c19] at H;exact absurd H qG0
                  ·rw [if_neg c18] at H;have c18b0:decide (aE < ((a0W l0 aD).length:Int)) = false:=zL0 c18;clear c18;have H':=a0C.mk H;clear H;have p184:0≤(aD:Int):=zB0 qA0;have q184:aD < (l0.length:Int):=zB0 qA0;obtain ⟨ad184,iA,iB,e184,aZ,bJ,bK⟩:=a3I HR0.out aD p184 q184;cases e184;replace aZ:=a0E HB.out aZ;have fH:=a0C.mk bK;have fI:=a0C.mk bJ;clear bK bJ;replace p184:=eq_true p184;replace q184:=eq_true q184;go_wp2;go_roundg k5
                   case measure =>have:=HJ2.out;have:=HK2.out;have:=HK3.out;have:=HK4.out;have:=HK5.out;omega
                   case rel =>exact ⟨(bG),(gN),(wrap64 (aD + 1)),qE0,qE0,H',⟨by have:=HJ2.out;have:=HK2.out;have:=HK3.out;have:=HK4.out;have:=HK5.out;omega⟩,⟨by (with_reducible repeat (first | apply Kd.a0T | apply Kd.a0S | apply Kd.a1B));exact aM.out⟩,⟨by repeat (first | (with_reducible first | exact HB.out | apply a0B | apply a0A | apply a0D) | exact HB.out)⟩⟩
                 ·rw [if_neg c17] at H;exact absurd H qG0
                ·rw [if_neg c16] at H;exact absurd H qG0
             ·rw [if_neg c15] at H;have c15b0:decide (aD < (l0.length:Int)) = false:=zL0 c15;clear c15;by_cases c38:kJ = true
              ·subst c38;rw [if_pos rfl] at H;have H':=a0C.mk H;clear H;go_wp2;go_roundg k4
               case measure =>have:=HJ2.out;have:=HK2.out;have:=HK3.out;have:=HK4.out;omega
               case rel =>exact ⟨(kE),(wrap64 (cY + 1)),qE0,H',⟨by have:=HJ2.out;have:=HK2.out;have:=HK3.out;have:=HK4.out;omega⟩,⟨by (with_reducible repeat (first | apply Kd.a0T | apply Kd.a0S | apply Kd.a1B));exact aM.out⟩,⟨by repeat (first | (with_reducible first | exact HB.out | apply a0B | apply a0A | apply a0D) | exact HB.out)⟩⟩
              ·replace c38:=Bool.eq_false_iff.mpr c38;subst c38;rw [if_neg (show ¬ (false = true) by decide)] at H;have H':=a0C.mk H;clear H;go_wp2;go_meet
               case rel =>exact ⟨_,(kE),H',⟨by have:=HJ2.out;have:=HK2.out;have:=HK3.out;have:=HK4.out;first | omega | exact zG0 _⟩,⟨by (with_reducible repeat (first | apply Kd.a0T | apply Kd.a0S | apply Kd.a1B));exact aM.out⟩,⟨by repeat (first | (with_reducible first | exact HB.out | apply a0B | apply a0A | apply a0D) | exact HB.out)⟩⟩
          ·rw [if_neg c14] at H;have c14b0:decide (cY < (l0.length:Int)) = false:=zL0 c14;clear c14
           (first | rw [c14b0] | (simp only [a4H,a4S];rw [c14b0]) | skip)
           have H':=a0C.mk H;clear H;go_wp2;go_meet
           case rel =>exact ⟨_,(kH),H',⟨by have:=HJ2.out;have:=HK2.out;have:=HK3.out;first | omega | exact zG0 _⟩,⟨by (with_reducible repeat (first | apply Kd.a0T | apply Kd.a0S | apply Kd.a1B));exact aM.out⟩,⟨by repeat (first | (with_reducible first | exact HB.out | apply a0B | apply a0A | apply a0D) | exact HB.out)⟩⟩
       case rest =>
        clear HC13;obtain ⟨kq,bP,HA,HJ12,aM,HB⟩:=hcut;cases kq with
        | zero =>exact absurd HA.out (by simp [r12_Reach.j5])
        | succ kj12 =>
         have H:=HA.out;clear HA;simp only [r12_Reach.j5] at H;obtain ⟨y195,hy195⟩:∃ y_:List Int,y_ = (([]:List Int)):=⟨_,rfl⟩;replace H:(r12_Reach.l4 kj12 l0 bP y195 0) = some r:=by first | (rw [hy195];with_reducible exact H) | (have H2_:=(zK0 _ _).symm.trans H;rw [hy195];with_reducible exact H2_) | (have H2_:=(zK0 _ _).symm.trans H;with_reducible exact H2_) | with_reducible exact H | (rw [hy195];exact H) | exact H
         have Ny195:=a0C.mk hy195;clear hy195;have H':=a0C.mk H;clear H;go_wp2_with (first | ((with_reducible refine a0V (N:=91) rfl ?_);(try (refine a2T (by rfl) ?_;dsimp only));refine Kd.a9T (Kd.int .i64) _ 3 ?hg (N:=91) ?hd (xs:=([]:List Int)) (inner:=[]) (ok:=fun _ =>True) (okp:=fun _ =>True) ?hr ?hp (fun _ hk =>hk) trivial (zJ0 _ _) (zG0 _) qG0 ?_;(case hd =>rfl);(case hg =>rfl);(case hr =>first | (go_simp;done) | (go_simp;rfl));(case hp =>exact (Reps.none _ _));intro v196 w39 ho40 hb hg_ hnew_;clear hg_ hnew_;(first | rw [← Ny195.out] at ho40 | (simp only [Int.reduceToNat] at ho40;rw [← Ny195.out] at ho40));replace aM:=a0C.mk (Kd.a3L qK1 hb);have HO197:=a0C.mk (Kd.a2W ho40 (a0R qB0));replace HB:=a0C.mk (a0L qB0 hb);clear hb ho40));go_loopg [11,12] kj12 (fun kq v11 v12 w' =>∃ (cA:List Int) (aW:Int),v12 = .int .i64 aW∧a0C (r12_Reach.l4 kq l0 bP cA aW = some r)∧a0C (kq≤kj12)∧a0C (Kd.R Kd.bool 4 w' w.heap.size (fun _ =>True) u5 bP)∧a0C (Kd.R (Kd.int .i64) 3 w' w.heap.size (fun _ =>True) v11 cA)∧a0C (Below w.heap.size w w'))
         case atStart =>exact ⟨(y195),(0),qE0,H',⟨zG0 _⟩,⟨by (with_reducible repeat (first | apply Kd.a0T | apply Kd.a0S | apply Kd.a1B));exact aM.out⟩,⟨by (with_reducible repeat (first | apply Kd.a0T | apply Kd.a0S | apply Kd.a1B));exact HO197.out⟩,⟨by repeat (first | (with_reducible first | exact HB.out | apply a0B | apply a0A | apply a0D) | exact HB.out)⟩⟩
         case round =>
          clear H';obtain ⟨cA,aW,rfl,HA,HK4,aM,gO,HB⟩:=hrel;cases gk with
          | zero =>exact absurd HA.out (by simp [r12_Reach.l4])
          | succ k4 =>
           have H:=HA.out;clear HA;simp only [r12_Reach.l4] at H;by_cases c41:aW < (l0.length:Int)
           ·rw [if_pos c41] at H;have c41b0:decide (aW < (l0.length:Int)) = true:=zC0 c41;clear c41;by_cases c42:0≤aW
            ·rw [if_pos c42] at H;have c42b0:decide (0≤aW) = true:=zC0 c42;clear c42;by_cases c43:aW < (bP.length:Int)
             ·rw [if_pos c43] at H;have c43b0:decide (aW < (bP.length:Int)) = true:=zC0 c43;clear c43;obtain ⟨bq44,hbq44⟩:∃ b_:Bool,b_ = (rdOf false bP aW):=⟨_,rfl⟩;replace H:(if bq44 = true then (if cA.length < 17592186044416 then (r12_Reach.l4 k4 l0 bP (cA ++ [aW]) (wrap64 (aW + 1))) else (none)) else (r12_Reach.l4 k4 l0 bP cA (wrap64 (aW + 1)))) = some r:=by rw [← hbq44] at H;exact H
              have Nbq44:=a0C.mk hbq44;clear hbq44;by_cases c45:bq44 = true
              ·subst c45;rw [if_pos rfl] at H;by_cases c46:cA.length < 17592186044416
               ·rw [if_pos c46] at H;have LMc46:=a0C.mk c46;clear c46;obtain ⟨y199,hy199⟩:∃ y_:List Int,y_ = (cA ++ [aW]):=⟨_,rfl⟩;replace H:(r12_Reach.l4 k4 l0 bP y199 (wrap64 (aW + 1))) = some r:=by first | (rw [hy199];with_reducible exact H) | (have H2_:=(zK0 _ _).symm.trans H;rw [hy199];with_reducible exact H2_) | (have H2_:=(zK0 _ _).symm.trans H;with_reducible exact H2_) | with_reducible exact H | (rw [hy199];exact H) | exact H
                have Ny199:=a0C.mk hy199;clear hy199;have H':=a0C.mk H;clear H;obtain ⟨Ao47,co47,eo47⟩:=Kd.a1V aM.out;subst eo47;have p198:0≤(aW:Int):=zB0 qA0;have q198:aW < (bP.length:Int):=zB0 qA0;obtain ⟨ad198,e198,fM⟩:=Kd.a8Y (Kd.a1J aM.out).2.2 aW p198 q198
                (try rw [← Nbq44.out] at fM)
                cases e198;replace p198:=eq_true p198;replace q198:=eq_true q198;go_wp2_with (first | ((with_reducible refine a1H (b:=.append) (xs:=#[.tmp 102,.tmp 104]) rfl ?_);(try (refine a2T (by rfl) ?_;dsimp only));at_builtin;refine Kd.a2Q (Kd.int .i64) (w0:=w) w.heap.size rfl (.tmp 102) (.tmp 104) 43 3 (.int .i64 0) 8 rfl Tryz.underlying43 a9S rfl qF0 qD0 u11 cA aW [.int .i64 aW] (fun _ =>True) (fun _ =>False) rfl rfl ?aP (fun _ hk =>hk.elim) ?aF ?aO ?aB ?aS ?aL ?_;(case aP =>exact rfl);(case aB =>exact qB0);(case aF =>exact (fun _ _ =>trivial));(case aO =>exact qJ2);(case aS =>exact (a0R qB0));(case aL =>have:=LMc46.out;omega);intro v200 w48 ho hb hg hat;rw [← Ny199.out] at ho;have bY:=a0C.mk (Kd.R_over' qK1 (Kd.c3X qJ2) qF0 hg);have bZ:=a0C.mk (hb);have eM:=a0C.mk (ho);clear aM;clear HB;clear gO;have aM:=bY;have HB:=bZ;have HO201:=eM;clear bY bZ eM;clear ho hb hg hat));go_roundg k4
                case measure =>have:=HJ2.out;have:=HK2.out;have:=HJ12.out;have:=HK4.out;omega
                case rel =>exact ⟨(y199),(wrap64 (aW + 1)),qE0,H',⟨by have:=HJ2.out;have:=HK2.out;have:=HJ12.out;have:=HK4.out;omega⟩,⟨by (with_reducible repeat (first | apply Kd.a0T | apply Kd.a0S | apply Kd.a1B));exact aM.out⟩,⟨by (with_reducible repeat (first | apply Kd.a0T | apply Kd.a0S | apply Kd.a1B));exact HO201.out⟩,⟨by repeat (first | (with_reducible first | exact HB.out | apply a0B | apply a0A | apply a0D) | exact HB.out)⟩⟩
               ·rw [if_neg c46] at H;exact absurd H qG0
              ·replace c45:=Bool.eq_false_iff.mpr c45;subst c45;rw [if_neg (show ¬ (false = true) by decide)] at H;have H':=a0C.mk H;clear H;obtain ⟨Ao49,co49,eo49⟩:=Kd.a1V aM.out;subst eo49;have p198:0≤(aW:Int):=zB0 qA0;have q198:aW < (bP.length:Int):=zB0 qA0;obtain ⟨ad198,e198,fM⟩:=Kd.a8Y (Kd.a1J aM.out).2.2 aW p198 q198
               (try rw [← Nbq44.out] at fM)
               cases e198;replace p198:=eq_true p198;replace q198:=eq_true q198;go_wp2;go_roundg k4
               case measure =>have:=HJ2.out;have:=HK2.out;have:=HJ12.out;have:=HK4.out;omega
               case rel =>exact ⟨(cA),(wrap64 (aW + 1)),qE0,H',⟨by have:=HJ2.out;have:=HK2.out;have:=HJ12.out;have:=HK4.out;omega⟩,⟨by (with_reducible repeat (first | apply Kd.a0T | apply Kd.a0S | apply Kd.a1B));exact aM.out⟩,⟨by (with_reducible repeat (first | apply Kd.a0T | apply Kd.a0S | apply Kd.a1B));exact gO.out⟩,⟨by repeat (first | (with_reducible first | exact HB.out | apply a0B | apply a0A | apply a0D) | exact HB.out)⟩⟩
             ·rw [if_neg c43] at H;exact absurd H qG0
            ·rw [if_neg c42] at H;exact absurd H qG0
           ·rw [if_neg c41] at H;have c41b0:decide (aW < (l0.length:Int)) = false:=zL0 c41;clear c41;obtain rfl:=zD0 H;go_wp2;go_ret;exact ⟨_,by first | rfl | (simp [a0N,a0M] <;> rfl) | (simp [*,a0N,a0M] <;> rfl),by (with_reducible repeat (first | apply Kd.a0T | apply Kd.a0S | apply Kd.a1B));exact gO.out,by repeat (first | (with_reducible first | exact HB.out | apply a0B | apply a0A | apply a0D) | exact HB.out)⟩
mutual
def r04_List.l0:Nat→List (S65)→List (S65)→Int→Option ((List (S65)))
 | 0,_,_,_ =>none
 | k + 1,x0,x3,x4 =>if x4 < (x0.length:Int) then (if 0≤x4 then (if x3.length < 925904528653 then ((some (x3 ++ [(⟨(a0J x0 x4).f0,(a0J x0 x4).f1,(a0J x0 x4).f2,(a0J x0 x4).f3,(a0J x0 x4).f4,(a0J x0 x4).f5,(a0J x0 x4).f6,(a0J x0 x4).f7⟩:S65)]:List (S65))).bind fun y206 =>((r04_List.f k ((a0J x0 x4).f6)).bind fun t210 =>(if y206.length + t210.length < 925904528653 then ((some (y206 ++ t210:List (S65))).bind fun y213 =>((r04_List.f k ((a0J x0 x4).f7)).bind fun t217 =>(if y213.length + t217.length < 925904528653 then (r04_List.l0 k x0 (y213 ++ t217) (wrap64 (x4 + 1))) else (none)))) else (none)))) else (none)) else (none)) else (some x3)
def r04_List.f:Nat→List (S65)→Option ((List (S65)))
 | 0,_ =>none
 | k + 1,l0 =>r04_List.l0 k l0 (([]:List (S65))) 0
end
set_option maxHeartbeats 8000000 in
set_option maxRecDepth 100000 in
theorem r04_List.calls (k:Nat):∀ (P0_:Nat→Prop) (A0:Option Addr) (c0:Nat) (l0:List (S65)) (r:List (S65)) (w:World) (hs0:Kd.V k65 65 w w.heap.size (fun k_ =>P0_ k_) (.slice A0 l0.length c0) l0) (h:r04_List.f k l0 = some r),
    Calls Tryz.prog 34 #[.slice A0 l0.length c0] w fun e w' =>∃ v0_:Value,e = .returned (v0_)∧Kd.N k65 65 w' w.heap.size (fun k_ =>(P0_ k_∨w.heap.size≤k_)) v0_ r∧Below w.heap.size w w':=by
 induction k using Nat.strongRecOn with
 | _ k ih =>
 intro P0_ A0 c0 l0 r w hs0 h;cases k with
 | zero =>exact absurd h (by simp [r04_List.f])
 | succ k =>
 simp only [r04_List.f] at h;have hu65:=Tryz.underlying65;have HO0:=a0C.mk (show Kd.V k65 65 w w.heap.size (fun k_ =>(P0_ k_∨w.heap.size≤k_)) (.slice A0 l0.length c0) l0 from Kd.a2Z hs0 (fun k_ hk =>.inl hk));have HB:=a0C.mk (zJ0 w.heap.size w);have H:(r04_List.l0 k l0 (([]:List (S65))) 0) = some r:=h;clear h;obtain ⟨y202,hy202⟩:∃ y_:List (S65),y_ = (([]:List (S65))):=⟨_,rfl⟩;replace H:(r04_List.l0 k l0 y202 0) = some r:=by first | (rw [hy202];with_reducible exact H) | (have H2_:=(zK0 _ _).symm.trans H;rw [hy202];with_reducible exact H2_) | (have H2_:=(zK0 _ _).symm.trans H;with_reducible exact H2_) | with_reducible exact H | (rw [hy202];exact H) | exact H
 have Ny202:=a0C.mk hy202;clear hy202;have H':=a0C.mk H;clear H;go_enter Tryz.func34,Tryz.ntmps34
 go_wp2_with (first | ((with_reducible refine a0V (N:=5) rfl ?_);refine Kd.N_lit k65 _ 65 ?hg (N':=5) ?hd (xs:=([]:List (S65))) (inner:=[]) (ok:=(fun k_ =>(P0_ k_∨w.heap.size≤k_))) (okp:=(fun k_ =>(P0_ k_∨w.heap.size≤k_))) ?hr ?hp (fun _ hk =>hk) ((show ∀ k_,w.heap.size≤k_→(fun k_ =>(P0_ k_∨w.heap.size≤k_)) k_ from fun k_ hk =>(.inr (zH0 (a0R qB0) hk))) _ (zG0 _)) (zJ0 _ _) (zG0 _) qG0 ?_;(case hd =>rfl);(case hg =>rfl);(case hr =>first | (go_simp;done) | (go_simp;rfl));(case hp =>exact (Reps.none _ _));intro v203 w2 ho3 hb hg_ hnew_;clear hg_ hnew_;(first | rw [← Ny202.out] at ho3 | (simp only [Int.reduceToNat] at ho3;rw [← Ny202.out] at ho3));replace HO0:=a0C.mk (Kd.a2I (by (with_reducible repeat (first | apply Kd.a1N | apply Kd.a1M | apply Kd.a1R));exact HO0.out) (Kd.a3E ho3) hb);have HO204:=a0C.mk (Kd.a9C ho3 (a0R qB0));replace HB:=a0C.mk (a0L qB0 hb);clear hb ho3));go_loopg [3,4] k (fun kq v3 v4 w' =>∃ (aC:List (S65)) (aA:Int),v4 = .int .i64 aA∧a0C (r04_List.l0 kq l0 aC aA = some r)∧a0C (kq≤k)∧a0C (Kd.V k65 65 w' w.heap.size (fun k_ =>(P0_ k_∨w.heap.size≤k_)∧some k_≠(v3:Value).ownBlock) (.slice A0 l0.length c0) l0)∧a0C (Kd.N k65 65 w' w.heap.size (fun k_ =>(P0_ k_∨w.heap.size≤k_)) v3 aC)∧a0C (Below w.heap.size w w'))
 case atStart =>exact ⟨(y202),(0),qE0,H',⟨zG0 _⟩,⟨by (with_reducible repeat (first | apply Kd.a1N | apply Kd.a1M | apply Kd.a1R));exact HO0.out⟩,⟨by (with_reducible repeat (first | apply Kd.a2A | apply Kd.a1Z | apply Kd.a2V));exact HO204.out⟩,⟨by repeat (first | (with_reducible first | exact HB.out | apply a0B | apply a0A | apply a0D) | exact HB.out)⟩⟩
 case round =>
  clear H';obtain ⟨aC,aA,rfl,HA,HK1,bM,mD,HB⟩:=hrel;cases gk with
  | zero =>exact absurd HA.out (by simp [r04_List.l0])
  | succ k1 =>
   have H:=HA.out;clear HA;simp only [r04_List.l0] at H;by_cases c4:aA < (l0.length:Int)
   ·rw [if_pos c4] at H;have c4b0:decide (aA < (l0.length:Int)) = true:=zC0 c4;clear c4;by_cases c5:0≤aA
    ·rw [if_pos c5] at H;have c5b0:decide (0≤aA) = true:=zC0 c5;clear c5;by_cases c6:aC.length < 925904528653
     ·rw [if_pos c6] at H;have LMc6:=a0C.mk c6;clear c6;obtain ⟨y206,hy206⟩:∃ y_:List (S65),y_ = (aC ++ [(⟨(a0J l0 aA).f0,(a0J l0 aA).f1,(a0J l0 aA).f2,(a0J l0 aA).f3,(a0J l0 aA).f4,(a0J l0 aA).f5,(a0J l0 aA).f6,(a0J l0 aA).f7⟩:S65)]):=⟨_,rfl⟩;replace H:((r04_List.f k1 ((a0J l0 aA).f6)).bind fun t210 =>(if y206.length + t210.length < 925904528653 then ((some (y206 ++ t210:List (S65))).bind fun y213 =>((r04_List.f k1 ((a0J l0 aA).f7)).bind fun t217 =>(if y213.length + t217.length < 925904528653 then (r04_List.l0 k1 l0 (y213 ++ t217) (wrap64 (aA + 1))) else (none)))) else (none))) = some r:=by first | (rw [hy206];with_reducible exact H) | (have H2_:=(zK0 _ _).symm.trans H;rw [hy206];with_reducible exact H2_) | (have H2_:=(zK0 _ _).symm.trans H;with_reducible exact H2_) | with_reducible exact H | (rw [hy206];exact H) | exact H
      have Ny206:=a0C.mk hy206;clear hy206;obtain ⟨t210,A7,H⟩:=ob_ H;by_cases c8:y206.length + t210.length < 925904528653
      ·rw [if_pos c8] at H;have LMc8:=a0C.mk c8;clear c8;obtain ⟨y213,hy213⟩:∃ y_:List (S65),y_ = (y206 ++ t210):=⟨_,rfl⟩;replace H:((r04_List.f k1 ((a0J l0 aA).f7)).bind fun t217 =>(if y213.length + t217.length < 925904528653 then (r04_List.l0 k1 l0 (y213 ++ t217) (wrap64 (aA + 1))) else (none))) = some r:=by first | (rw [hy213];with_reducible exact H) | (have H2_:=(zK0 _ _).symm.trans H;rw [hy213];with_reducible exact H2_) | (have H2_:=(zK0 _ _).symm.trans H;with_reducible exact H2_) | with_reducible exact H | (rw [hy213];exact H) | exact H
       have Ny213:=a0C.mk hy213;clear hy213;obtain ⟨t217,A9,H⟩:=ob_ H;by_cases c10:y213.length + t217.length < 925904528653
       ·rw [if_pos c10] at H;have LMc10:=a0C.mk c10;clear c10;obtain ⟨y220,hy220⟩:∃ y_:List (S65),y_ = (y213 ++ t217):=⟨_,rfl⟩;replace H:(r04_List.l0 k1 l0 y220 (wrap64 (aA + 1))) = some r:=by first | (rw [hy220];with_reducible exact H) | (have H2_:=(zK0 _ _).symm.trans H;rw [hy220];with_reducible exact H2_) | (have H2_:=(zK0 _ _).symm.trans H;with_reducible exact H2_) | with_reducible exact H | (rw [hy220];exact H) | exact H
        have Ny220:=a0C.mk hy220;clear hy220;have H':=a0C.mk H;clear H;have p205:0≤(aA:Int):=zB0 qA0;have q205:aA < (l0.length:Int):=zB0 qA0;obtain ⟨ad205,mE,mF,mG,mH,mI,mJ,mK,mL,e205,nS,nT,nU,nV,lG,lH,lI,lJ,jC,jD,jE,jF,jG,jH,jI,jJ⟩:=a9L (Kd.a4W bM.out).2.2 aA p205 q205;cases e205;obtain ⟨ce205,mM,mN,eQ⟩:=Kd.V_get bM.out z65 aA p205 (by first | exact q205 | exact zB0 qA0 | (have e_:=(Kd.a4W bM.out).1;omega));obtain ⟨nW,nX,nY,nZ,oA,oB,oC,oE,rfl,fN,fO,fP,fQ,fR,fS,fT,fU⟩:=a8K mN;have dM:=eQ 4 _ rfl;rw [a1L _ _ 4 qD0] at dM;replace dM:=zD0 (dM.symm.trans lG);injection dM with hva_ hvn_ hvc_
        rw [hva_] at fO;rw [hvc_] at fN;have aN:=a0C.mk (show Kd.V k155 155 _ w.heap.size _ _ ((a0J l0 aA).f4) from Kd.V_mk fN fO);clear hva_ hvn_ hvc_ fO fN;have dN:=eQ 5 _ rfl;rw [a1L _ _ 5 qD0] at dN;replace dN:=zD0 (dN.symm.trans lH);injection dN with hva_ hvn_ hvc_
        rw [hva_] at fQ;rw [hvc_] at fP;have aQ:=a0C.mk (show Kd.V Kd.string 9 _ w.heap.size _ _ ((a0J l0 aA).f5) from Kd.V_mk fP fQ);clear hva_ hvn_ hvc_ fQ fP;have dO:=eQ 6 _ rfl;rw [a1L _ _ 6 qD0] at dO;replace dO:=zD0 (dO.symm.trans lI);injection dO with hva_ hvn_ hvc_
        rw [hva_] at fS;rw [hvc_] at fR;have aT:=a0C.mk (show Kd.V k65 65 _ w.heap.size _ _ ((a0J l0 aA).f6) from Kd.V_mk fR fS);clear hva_ hvn_ hvc_ fS fR;have dP:=eQ 7 _ rfl;rw [a1L _ _ 7 qD0] at dP;replace dP:=zD0 (dP.symm.trans lJ);injection dP with hva_ hvn_ hvc_
        rw [hva_] at fU;rw [hvc_] at fT;have aU:=a0C.mk (show Kd.V k65 65 _ w.heap.size _ _ ((a0J l0 aA).f7) from Kd.V_mk fT fU);clear hva_ hvn_ hvc_ fU fT;clear eQ mM;have oF:=a0C.mk jD;have oG:=a0C.mk jC;clear jD jC;have oH:=a0C.mk jF;have oI:=a0C.mk jE;clear jF jE;have oJ:=a0C.mk jH;have oK:=a0C.mk jG;clear jH jG;have oL:=a0C.mk jJ;have oM:=a0C.mk jI;clear jJ jI;replace p205:=eq_true p205;replace q205:=eq_true q205;go_wp2_with (first | ((with_reducible refine a1H (b:=.append) (xs:=#[.tmp 12,.tmp 17]) rfl ?_);at_builtin;refine Kd.b0G k65 (w0:=w) w.heap.size rfl (.tmp 12) (.tmp 17) 32 65 (.agg #[(.int .i64 0),(.string ⟨#[]⟩),(.string ⟨#[]⟩),(.string ⟨#[]⟩),(.slice none 0 0),(.slice none 0 0),(.slice none 0 0),(.slice none 0 0)]) 152 rfl Tryz.underlying32 b8A rfl qF0 qD0 u3 aC (⟨(a0J l0 aA).f0,(a0J l0 aA).f1,(a0J l0 aA).f2,(a0J l0 aA).f3,(a0J l0 aA).f4,(a0J l0 aA).f5,(a0J l0 aA).f6,(a0J l0 aA).f7⟩:S65) [.int .i64 ((a0J l0 aA).f0),.string ((a0J l0 aA).f1),.string ((a0J l0 aA).f2),.string ((a0J l0 aA).f3),.slice mE ((a0J l0 aA).f4).length mF,.slice mG ((a0J l0 aA).f5).length mH,.slice mI ((a0J l0 aA).f6).length mJ,.slice mK ((a0J l0 aA).f7).length mL] (fun k_ =>(P0_ k_∨w.heap.size≤k_)) (fun k_ =>((fun k_ =>(P0_ k_∨w.heap.size≤k_))) k_∧some k_≠(u3:Value).ownBlock) rfl rfl ?aP (fun _ hk =>hk) ?aF ?aO ?aB ?aS ?aL ?_;(case aP =>exact (c2O _ _ (⟨(a0J l0 aA).f0,(a0J l0 aA).f1,(a0J l0 aA).f2,(a0J l0 aA).f3,(a0J l0 aA).f4,(a0J l0 aA).f5,(a0J l0 aA).f6,(a0J l0 aA).f7⟩:S65) (Kd.a4W (Kd.a2Z (ok':=(fun k_ =>((fun k_ =>(P0_ k_∨w.heap.size≤k_))) k_∧some k_≠(u3:Value).ownBlock)) (aN.out) (fun k_ hk =>⟨hk.1,hk.2⟩))).2.1 (Kd.V_F (Kd.a2Z (ok':=(fun k_ =>((fun k_ =>(P0_ k_∨w.heap.size≤k_))) k_∧some k_≠(u3:Value).ownBlock)) (aN.out) (fun k_ hk =>⟨hk.1,hk.2⟩))) (Kd.a4W (Kd.a2Z (ok':=(fun k_ =>((fun k_ =>(P0_ k_∨w.heap.size≤k_))) k_∧some k_≠(u3:Value).ownBlock)) (aQ.out) (fun k_ hk =>⟨hk.1,hk.2⟩))).2.1 (Kd.V_F (Kd.a2Z (ok':=(fun k_ =>((fun k_ =>(P0_ k_∨w.heap.size≤k_))) k_∧some k_≠(u3:Value).ownBlock)) (aQ.out) (fun k_ hk =>⟨hk.1,hk.2⟩))) (Kd.a4W (Kd.a2Z (ok':=(fun k_ =>((fun k_ =>(P0_ k_∨w.heap.size≤k_))) k_∧some k_≠(u3:Value).ownBlock)) (aT.out) (fun k_ hk =>⟨hk.1,hk.2⟩))).2.1 (Kd.V_F (Kd.a2Z (ok':=(fun k_ =>((fun k_ =>(P0_ k_∨w.heap.size≤k_))) k_∧some k_≠(u3:Value).ownBlock)) (aT.out) (fun k_ hk =>⟨hk.1,hk.2⟩))) (Kd.a4W (Kd.a2Z (ok':=(fun k_ =>((fun k_ =>(P0_ k_∨w.heap.size≤k_))) k_∧some k_≠(u3:Value).ownBlock)) (aU.out) (fun k_ hk =>⟨hk.1,hk.2⟩))).2.1 (Kd.V_F (Kd.a2Z (ok':=(fun k_ =>((fun k_ =>(P0_ k_∨w.heap.size≤k_))) k_∧some k_≠(u3:Value).ownBlock)) (aU.out) (fun k_ hk =>⟨hk.1,hk.2⟩)))));(case aB =>exact qB0);(case aF =>exact (fun k_ hk =>(.inr (zH0 (a0R qB0) hk))));(case aO =>exact (by (with_reducible repeat (first | apply Kd.a2A | apply Kd.a1Z | apply Kd.a2V));exact mD.out));(case aS =>exact (a0R qB0));(case aL =>have:=LMc6.out;omega);intro v207 w11 ho hb hg hat;rw [← Ny206.out] at ho;have bY:=a0C.mk (Kd.a1Y (ok:=(fun k_ =>(P0_ k_∨w.heap.size≤k_))) qL1 hg hat);have bZ:=a0C.mk (Kd.a1Y (ok:=(fun k_ =>(P0_ k_∨w.heap.size≤k_))) qM1 hg hat);have eM:=a0C.mk (Kd.a1Y (ok:=(fun k_ =>(P0_ k_∨w.heap.size≤k_))) qN1 hg hat);have eV:=a0C.mk (Kd.a1Y (ok:=(fun k_ =>(P0_ k_∨w.heap.size≤k_))) qO1 hg hat);have jK:=a0C.mk (Kd.a1Y (ok:=(fun k_ =>(P0_ k_∨w.heap.size≤k_))) qP1 hg hat);have jL:=a0C.mk (hb);have jM:=a0C.mk (ho);clear bM;clear aN;clear aQ;clear aT;clear aU;clear HB;clear mD;have bM:=bY;have aN:=bZ;have aQ:=eM;have aT:=eV;have aU:=jK;have HB:=jL;have HO208:=jM;clear bY bZ eM eV jK jL jM;clear ho hb hg hat;have p209:0≤(aA:Int):=zB0 qA0;have q209:aA < (l0.length:Int):=zB0 qA0;obtain ⟨ad209,qH,qI,qJ,qK,mO,mP,qL,qM,e209,oN,oO,oP,oQ,lK,lL,lM,lN,jN,jO,jP,jQ,jR,jS,jT,jU⟩:=a9L (Kd.a4W bM.out).2.2 aA p209 q209;obtain rfl:ad205 = ad209:=(by injection e209);obtain ⟨ce209,mQ,mR,eR⟩:=Kd.V_get bM.out z65 aA p209 (by first | exact q209 | exact zB0 qA0 | (have e_:=(Kd.a4W bM.out).1;omega));obtain ⟨oR,oS,oT,oU,oV,oW,oX,oY,rfl,fV,fW,fX,fY,fZ,gA,gB,gC⟩:=a8K mR;have dQ:=eR 4 _ rfl;rw [a1L _ _ 4 qD0] at dQ;replace dQ:=zD0 (dQ.symm.trans lK);injection dQ with hva_ hvn_ hvc_;rw [hva_] at fW;rw [hvc_] at fV;have bC:=a0C.mk (show Kd.V k155 155 _ w.heap.size _ _ ((a0J l0 aA).f4) from Kd.V_mk fV fW);clear hva_ hvn_ hvc_ fW fV;have dR:=eR 5 _ rfl;rw [a1L _ _ 5 qD0] at dR;replace dR:=zD0 (dR.symm.trans lL);injection dR with hva_ hvn_ hvc_;rw [hva_] at fY;rw [hvc_] at fX;have bD:=a0C.mk (show Kd.V Kd.string 9 _ w.heap.size _ _ ((a0J l0 aA).f5) from Kd.V_mk fX fY);clear hva_ hvn_ hvc_ fY fX;have dS:=eR 6 _ rfl;rw [a1L _ _ 6 qD0] at dS;replace dS:=zD0 (dS.symm.trans lM);injection dS with hva_ hvn_ hvc_;rw [hva_] at gA;rw [hvc_] at fZ;have bA:=a0C.mk (show Kd.V k65 65 _ w.heap.size _ _ ((a0J l0 aA).f6) from Kd.V_mk fZ gA);clear hva_ hvn_ hvc_ gA fZ;have dT:=eR 7 _ rfl;rw [a1L _ _ 7 qD0] at dT;replace dT:=zD0 (dT.symm.trans lN);injection dT with hva_ hvn_ hvc_;rw [hva_] at gC;rw [hvc_] at gB;have bE:=a0C.mk (show Kd.V k65 65 _ w.heap.size _ _ ((a0J l0 aA).f7) from Kd.V_mk gB gC);clear hva_ hvn_ hvc_ gC gB;clear eR mQ;have dU:=a0C.mk jO;have oZ:=a0C.mk jN;clear jO jN;have dV:=a0C.mk jQ;have pA:=a0C.mk jP;clear jQ jP;have dW:=a0C.mk jS;have pB:=a0C.mk jR;clear jS jR;have dX:=a0C.mk jU;have pC:=a0C.mk jT;clear jU jT;replace p209:=eq_true p209;replace q209:=eq_true q209) | ((with_reducible refine a1A (f:=34) rfl ?_);refine a2B (some 25) rfl rfl Tryz.func34 qH0 rfl #[.slice mO ((a0J l0 aA).f6).length mP] rfl qC0 ?_;(with_reducible refine (ih k1 (by have:=HK1.out;omega) (fun k_ =>((P0_ k_∨w.heap.size≤k_)∧some k_≠(v207:Value).ownBlock)) _ _ ((a0J l0 aA).f6) t210 _ ?side1 A7.out).mono ?_);(case side1 =>exact bA.out);rintro e w12 ⟨v211,rfl,ho0,hb⟩;refine ⟨_,rfl,?_⟩;have bY:=a0C.mk (Kd.a2I qL1 (Kd.a3E ho0) hb);have bZ:=a0C.mk (Kd.a2I qM1 (Kd.a3E ho0) hb);have eM:=a0C.mk (Kd.a2I qN1 (Kd.a3E ho0) hb);have eV:=a0C.mk (Kd.a2I qO1 (Kd.a3E ho0) hb);have jK:=a0C.mk (Kd.a2I qP1 (Kd.a3E ho0) hb);have jL:=a0C.mk (Kd.a4X qB2 (Kd.a3E ho0) hb);have jM:=a0C.mk (Kd.a2I qK2 (Kd.a3E ho0) hb);have kK:=a0C.mk (Kd.a2I qL2 (Kd.a3E ho0) hb);have kN:=a0C.mk (Kd.a2I qM2 (Kd.a3E ho0) hb);have kO:=a0C.mk (Kd.a2I qN2 (Kd.a3E ho0) hb);have eS:=a0C.mk (Kd.a9C (Kd.a3F (ok':=fun k_ =>(P0_ k_∨w.heap.size≤k_)∧some k_≠(v207:Value).ownBlock) ho0 (fun k_ hk_ =>⟨Or.elim hk_ (fun hs_ =>hs_.1) (fun hn_ =>(.inr (zH0 (a0R qB0) hn_))),Or.elim hk_ (fun hs_ =>hs_.2) (fun hn_ =>(Kd.fresh' (Kd.N_lt qB2) k_ hn_))⟩)) (a0R qB0));have eT:=a0C.mk (Kd.a0I (by repeat (first | (with_reducible exact dU.out) | (with_reducible refine Kd.a1E ?_ _) | (with_reducible refine Kd.a1D ?_ _) | (with_reducible refine Kd.a1I ?_) | exact dU.out)) hb);have gP:=a0C.mk (Kd.a0I (by repeat (first | (with_reducible exact dV.out) | (with_reducible refine Kd.a1E ?_ _) | (with_reducible refine Kd.a1D ?_ _) | (with_reducible refine Kd.a1I ?_) | exact dV.out)) hb);have gQ:=a0C.mk (Kd.a0I (by repeat (first | (with_reducible exact dW.out) | (with_reducible refine Kd.a1E ?_ _) | (with_reducible refine Kd.a1D ?_ _) | (with_reducible refine Kd.a1I ?_) | exact dW.out)) hb);have gR:=a0C.mk (Kd.a0I (by repeat (first | (with_reducible exact dX.out) | (with_reducible refine Kd.a1E ?_ _) | (with_reducible refine Kd.a1D ?_ _) | (with_reducible refine Kd.a1I ?_) | exact dX.out)) hb);have gS:=a0C.mk (a0L qB0 hb);clear bM;clear aN;clear aQ;clear aT;clear aU;clear HO208;clear bC;clear bD;clear bA;clear bE;clear dU;clear dV;clear dW;clear dX;clear HB;have bM:=bY;have aN:=bZ;have aQ:=eM;have aT:=eV;have aU:=jK;have HO208:=jL;have bC:=jM;have bD:=kK;have bA:=kN;have bE:=kO;have HO212:=eS;have dU:=eT;have dV:=gP;have dW:=gQ;have dX:=gR;have HB:=gS;clear bY bZ eM eV jK jL jM kK kN kO eS eT gP gQ gR gS;(try clear hb);(try clear hk);(try clear ho0);obtain ⟨Ao14,co14,eo14⟩:=Kd.a4D HO212.out;subst eo14) | ((with_reducible refine a1H (b:=.append) (xs:=#[.tmp 19,.tmp 25]) rfl ?_);at_builtin;refine Kd.a8Q k65 (w0:=w) w.heap.size rfl (.tmp 19) (.tmp 25) 32 65 (.agg #[(.int .i64 0),(.string ⟨#[]⟩),(.string ⟨#[]⟩),(.string ⟨#[]⟩),(.slice none 0 0),(.slice none 0 0),(.slice none 0 0),(.slice none 0 0)]) 152 rfl Tryz.underlying32 b8A rfl qF0 qD0 v207 y206 t210 _ _ _ (fun k_ =>(P0_ k_∨w.heap.size≤k_)) (fun k_ =>((fun k_ =>(P0_ k_∨w.heap.size≤k_))) k_∧some k_≠(v207:Value).ownBlock) rfl rfl ?aO ?aR (fun _ hk =>hk) ?aF ?aB ?aS ?aL ?_;(case aR =>exact (by skip;exact Kd.N_F (Kd.a3F (ok':=(fun k_ =>((fun k_ =>(P0_ k_∨w.heap.size≤k_))) k_∧some k_≠(v207:Value).ownBlock)) (HO212.out) (fun k_ hk =>⟨hk.1,hk.2⟩))));(case aB =>exact qB0);(case aF =>exact (fun k_ hk =>(.inr (zH0 (a0R qB0) hk))));(case aO =>exact (by (with_reducible repeat (first | apply Kd.a2A | apply Kd.a1Z | apply Kd.a2V));exact Kd.a3F HO208.out (fun _ hk =>hk.1)));(case aS =>exact (a0R qB0));(case aL =>have:=LMc8.out;omega);intro v214 w13 ho hb hg hat;rw [← Ny213.out] at ho;have bY:=a0C.mk (Kd.a1Y (ok:=(fun k_ =>(P0_ k_∨w.heap.size≤k_)∧some k_≠(.slice Ao14 t210.length co14:Value).ownBlock)) (by (with_reducible repeat (first | apply Kd.a1N | apply Kd.a1M | apply Kd.a1R));exact Kd.a2Z bM.out (fun _ hk =>⟨⟨hk.1.1,hk.2⟩,hk.1.2⟩)) hg hat);have bZ:=a0C.mk (Kd.a1Y (ok:=(fun k_ =>(P0_ k_∨w.heap.size≤k_)∧some k_≠(.slice Ao14 t210.length co14:Value).ownBlock)) (by (with_reducible repeat (first | apply Kd.a1N | apply Kd.a1M | apply Kd.a1R));exact Kd.a2Z aN.out (fun _ hk =>⟨⟨hk.1.1,hk.2⟩,hk.1.2⟩)) hg hat);have eM:=a0C.mk (Kd.a1Y (ok:=(fun k_ =>(P0_ k_∨w.heap.size≤k_)∧some k_≠(.slice Ao14 t210.length co14:Value).ownBlock)) (by (with_reducible repeat (first | apply Kd.a1N | apply Kd.a1M | apply Kd.a1R));exact Kd.a2Z aQ.out (fun _ hk =>⟨⟨hk.1.1,hk.2⟩,hk.1.2⟩)) hg hat);have eV:=a0C.mk (Kd.a1Y (ok:=(fun k_ =>(P0_ k_∨w.heap.size≤k_)∧some k_≠(.slice Ao14 t210.length co14:Value).ownBlock)) (by (with_reducible repeat (first | apply Kd.a1N | apply Kd.a1M | apply Kd.a1R));exact Kd.a2Z aT.out (fun _ hk =>⟨⟨hk.1.1,hk.2⟩,hk.1.2⟩)) hg hat);have jK:=a0C.mk (Kd.a1Y (ok:=(fun k_ =>(P0_ k_∨w.heap.size≤k_)∧some k_≠(.slice Ao14 t210.length co14:Value).ownBlock)) (by (with_reducible repeat (first | apply Kd.a1N | apply Kd.a1M | apply Kd.a1R));exact Kd.a2Z aU.out (fun _ hk =>⟨⟨hk.1.1,hk.2⟩,hk.1.2⟩)) hg hat);have jL:=a0C.mk (Kd.a1Y (ok:=(fun k_ =>(P0_ k_∨w.heap.size≤k_)∧some k_≠(.slice Ao14 t210.length co14:Value).ownBlock)) (by (with_reducible repeat (first | apply Kd.a1N | apply Kd.a1M | apply Kd.a1R));exact Kd.a2Z bC.out (fun _ hk =>⟨⟨hk.1.1,hk.2⟩,hk.1.2⟩)) hg hat);have jM:=a0C.mk (Kd.a1Y (ok:=(fun k_ =>(P0_ k_∨w.heap.size≤k_)∧some k_≠(.slice Ao14 t210.length co14:Value).ownBlock)) (by (with_reducible repeat (first | apply Kd.a1N | apply Kd.a1M | apply Kd.a1R));exact Kd.a2Z bD.out (fun _ hk =>⟨⟨hk.1.1,hk.2⟩,hk.1.2⟩)) hg hat);have kK:=a0C.mk (Kd.a1Y (ok:=(fun k_ =>(P0_ k_∨w.heap.size≤k_)∧some k_≠(.slice Ao14 t210.length co14:Value).ownBlock)) (by (with_reducible repeat (first | apply Kd.a1N | apply Kd.a1M | apply Kd.a1R));exact Kd.a2Z bA.out (fun _ hk =>⟨⟨hk.1.1,hk.2⟩,hk.1.2⟩)) hg hat);have kN:=a0C.mk (Kd.a1Y (ok:=(fun k_ =>(P0_ k_∨w.heap.size≤k_)∧some k_≠(.slice Ao14 t210.length co14:Value).ownBlock)) (by (with_reducible repeat (first | apply Kd.a1N | apply Kd.a1M | apply Kd.a1R));exact Kd.a2Z bE.out (fun _ hk =>⟨⟨hk.1.1,hk.2⟩,hk.1.2⟩)) hg hat);have kO:=a0C.mk (Kd.b4C (ok:=(fun k_ =>(P0_ k_∨w.heap.size≤k_))) qI1 hg hat);have eS:=a0C.mk (hb);have eT:=a0C.mk (ho);clear bM;clear aN;clear aQ;clear aT;clear aU;clear bC;clear bD;clear bA;clear bE;clear HO212;clear HB;clear HO208;have bM:=bY;have aN:=bZ;have aQ:=eM;have aT:=eV;have aU:=jK;have bC:=jL;have bD:=jM;have bA:=kK;have bE:=kN;have HO212:=kO;have HB:=eS;have HO215:=eT;clear bY bZ eM eV jK jL jM kK kN kO eS eT;clear ho hb hg hat;have p216:0≤(aA:Int):=zB0 qA0;have q216:aA < (l0.length:Int):=zB0 qA0;obtain ⟨ad216,qN,qO,qP,qQ,qR,qS,mS,mT,e216,pD,pE,pF,pG,lO,lP,lQ,lR,jV,jW,jX,jY,jZ,kA,kB,kC⟩:=a9L (Kd.a4W bM.out).2.2 aA p216 q216;obtain rfl:ad205 = ad216:=(by injection e216);obtain ⟨ce216,mU,mV,eU⟩:=Kd.V_get bM.out z65 aA p216 (by first | exact q216 | exact zB0 qA0 | (have e_:=(Kd.a4W bM.out).1;omega));obtain ⟨pH,pI,pJ,pK,pL,pM,pN,pO,rfl,gD,gE,gG,gH,gI,gJ,gK,gL⟩:=a8K mV;have dY:=eU 4 _ rfl;rw [a1L _ _ 4 qD0] at dY;replace dY:=zD0 (dY.symm.trans lO);injection dY with hva_ hvn_ hvc_;rw [hva_] at gE;rw [hvc_] at gD;have bV:=a0C.mk (show Kd.V k155 155 _ w.heap.size _ _ ((a0J l0 aA).f4) from Kd.V_mk gD gE);clear hva_ hvn_ hvc_ gE gD;have dZ:=eU 5 _ rfl;rw [a1L _ _ 5 qD0] at dZ;replace dZ:=zD0 (dZ.symm.trans lP);injection dZ with hva_ hvn_ hvc_;rw [hva_] at gH;rw [hvc_] at gG;have bW:=a0C.mk (show Kd.V Kd.string 9 _ w.heap.size _ _ ((a0J l0 aA).f5) from Kd.V_mk gG gH);clear hva_ hvn_ hvc_ gH gG;have eB:=eU 6 _ rfl;rw [a1L _ _ 6 qD0] at eB;replace eB:=zD0 (eB.symm.trans lQ);injection eB with hva_ hvn_ hvc_;rw [hva_] at gJ;rw [hvc_] at gI;have bX:=a0C.mk (show Kd.V k65 65 _ w.heap.size _ _ ((a0J l0 aA).f6) from Kd.V_mk gI gJ);clear hva_ hvn_ hvc_ gJ gI;have eC:=eU 7 _ rfl;rw [a1L _ _ 7 qD0] at eC;replace eC:=zD0 (eC.symm.trans lR);injection eC with hva_ hvn_ hvc_;rw [hva_] at gL;rw [hvc_] at gK;have bT:=a0C.mk (show Kd.V k65 65 _ w.heap.size _ _ ((a0J l0 aA).f7) from Kd.V_mk gK gL);clear hva_ hvn_ hvc_ gL gK;clear eU mU;have eD:=a0C.mk jW;have pP:=a0C.mk jV;clear jW jV;have eE:=a0C.mk jY;have pQ:=a0C.mk jX;clear jY jX;have eG:=a0C.mk kA;have pR:=a0C.mk jZ;clear kA jZ;have eH:=a0C.mk kC;have pS:=a0C.mk kB;clear kC kB;replace p216:=eq_true p216;replace q216:=eq_true q216) | ((with_reducible refine a1A (f:=34) rfl ?_);refine a2B (some 33) rfl rfl Tryz.func34 qH0 rfl #[.slice mS ((a0J l0 aA).f7).length mT] rfl qC0 ?_;(with_reducible refine (ih k1 (by have:=HK1.out;omega) (fun k_ =>(((P0_ k_∨w.heap.size≤k_)∧some k_≠(.slice Ao14 t210.length co14:Value).ownBlock)∧some k_≠(v214:Value).ownBlock)) _ _ ((a0J l0 aA).f7) t217 _ ?side1 A9.out).mono ?_);(case side1 =>exact bT.out);rintro e w15 ⟨v218,rfl,ho0,hb⟩;refine ⟨_,rfl,?_⟩;have bY:=a0C.mk (Kd.a2I qL1 (Kd.a3E ho0) hb);have bZ:=a0C.mk (Kd.a2I qM1 (Kd.a3E ho0) hb);have eM:=a0C.mk (Kd.a2I qN1 (Kd.a3E ho0) hb);have eV:=a0C.mk (Kd.a2I qO1 (Kd.a3E ho0) hb);have jK:=a0C.mk (Kd.a2I qP1 (Kd.a3E ho0) hb);have jL:=a0C.mk (Kd.a2I qK2 (Kd.a3E ho0) hb);have jM:=a0C.mk (Kd.a2I qL2 (Kd.a3E ho0) hb);have kK:=a0C.mk (Kd.a2I qM2 (Kd.a3E ho0) hb);have kN:=a0C.mk (Kd.a2I qN2 (Kd.a3E ho0) hb);have kO:=a0C.mk (Kd.a4X qI1 (Kd.a3E ho0) hb);have eS:=a0C.mk (Kd.a4X qC2 (Kd.a3E ho0) hb);have eT:=a0C.mk (Kd.a2I (by (with_reducible repeat (first | apply Kd.a1N | apply Kd.a1M | apply Kd.a1R));exact bV.out) (Kd.a3E ho0) hb);have gP:=a0C.mk (Kd.a2I (by (with_reducible repeat (first | apply Kd.a1N | apply Kd.a1M | apply Kd.a1R));exact bW.out) (Kd.a3E ho0) hb);have gQ:=a0C.mk (Kd.a2I (by (with_reducible repeat (first | apply Kd.a1N | apply Kd.a1M | apply Kd.a1R));exact bX.out) (Kd.a3E ho0) hb);have gR:=a0C.mk (Kd.a2I (by (with_reducible repeat (first | apply Kd.a1N | apply Kd.a1M | apply Kd.a1R));exact bT.out) (Kd.a3E ho0) hb);have gS:=a0C.mk (Kd.a9C (Kd.a3F (ok':=fun k_ =>(P0_ k_∨w.heap.size≤k_)∧some k_≠(.slice Ao14 t210.length co14:Value).ownBlock∧some k_≠(v214:Value).ownBlock) ho0 (fun k_ hk_ =>⟨Or.elim hk_ (fun hs_ =>hs_.1.1) (fun hn_ =>(.inr (zH0 (a0R qB0) hn_))),Or.elim hk_ (fun hs_ =>hs_.1.2) (fun hn_ =>(Kd.fresh' (Kd.N_lt qI1) k_ hn_)),Or.elim hk_ (fun hs_ =>hs_.2) (fun hn_ =>(Kd.fresh' (Kd.N_lt qC2) k_ hn_))⟩)) (a0R qB0));have kP:=a0C.mk (Kd.a0I (by repeat (first | (with_reducible exact eD.out) | (with_reducible refine Kd.a1E ?_ _) | (with_reducible refine Kd.a1D ?_ _) | (with_reducible refine Kd.a1I ?_) | exact eD.out)) hb);have nD:=a0C.mk (Kd.a0I (by repeat (first | (with_reducible exact eE.out) | (with_reducible refine Kd.a1E ?_ _) | (with_reducible refine Kd.a1D ?_ _) | (with_reducible refine Kd.a1I ?_) | exact eE.out)) hb);have nE:=a0C.mk (Kd.a0I (by repeat (first | (with_reducible exact eG.out) | (with_reducible refine Kd.a1E ?_ _) | (with_reducible refine Kd.a1D ?_ _) | (with_reducible refine Kd.a1I ?_) | exact eG.out)) hb);have nG:=a0C.mk (Kd.a0I (by repeat (first | (with_reducible exact eH.out) | (with_reducible refine Kd.a1E ?_ _) | (with_reducible refine Kd.a1D ?_ _) | (with_reducible refine Kd.a1I ?_) | exact eH.out)) hb);have nH:=a0C.mk (a0L qB0 hb);clear bM;clear aN;clear aQ;clear aT;clear aU;clear bC;clear bD;clear bA;clear bE;clear HO212;clear HO215;clear bV;clear bW;clear bX;clear bT;clear eD;clear eE;clear eG;clear eH;clear HB;have bM:=bY;have aN:=bZ;have aQ:=eM;have aT:=eV;have aU:=jK;have bC:=jL;have bD:=jM;have bA:=kK;have bE:=kN;have HO212:=kO;have HO215:=eS;have bV:=eT;have bW:=gP;have bX:=gQ;have bT:=gR;have HO219:=gS;have eD:=kP;have eE:=nD;have eG:=nE;have eH:=nG;have HB:=nH;clear bY bZ eM eV jK jL jM kK kN kO eS eT gP gQ gR gS kP nD nE nG nH;(try clear hb);(try clear hk);(try clear ho0);obtain ⟨Ao17,co17,eo17⟩:=Kd.a4D HO219.out;subst eo17) | ((with_reducible refine a1H (b:=.append) (xs:=#[.tmp 27,.tmp 33]) rfl ?_);at_builtin;refine Kd.a8Q k65 (w0:=w) w.heap.size rfl (.tmp 27) (.tmp 33) 32 65 (.agg #[(.int .i64 0),(.string ⟨#[]⟩),(.string ⟨#[]⟩),(.string ⟨#[]⟩),(.slice none 0 0),(.slice none 0 0),(.slice none 0 0),(.slice none 0 0)]) 152 rfl Tryz.underlying32 b8A rfl qF0 qD0 v214 y213 t217 _ _ _ (fun k_ =>(P0_ k_∨w.heap.size≤k_)) (fun k_ =>((fun k_ =>(P0_ k_∨w.heap.size≤k_))) k_∧some k_≠(v214:Value).ownBlock) rfl rfl ?aO ?aR (fun _ hk =>hk) ?aF ?aB ?aS ?aL ?_;(case aR =>exact (by skip;exact Kd.N_F (Kd.a3F (ok':=(fun k_ =>((fun k_ =>(P0_ k_∨w.heap.size≤k_))) k_∧some k_≠(v214:Value).ownBlock)) (HO219.out) (fun k_ hk =>⟨hk.1,hk.2.2⟩))));(case aB =>exact qB0);(case aF =>exact (fun k_ hk =>(.inr (zH0 (a0R qB0) hk))));(case aO =>exact (by (with_reducible repeat (first | apply Kd.a2A | apply Kd.a1Z | apply Kd.a2V));exact Kd.a3F HO215.out (fun _ hk =>hk.1)));(case aS =>exact (a0R qB0));(case aL =>have:=LMc10.out;omega);intro v221 w16 ho hb hg hat;rw [← Ny220.out] at ho;have bY:=a0C.mk (Kd.a1Y (ok:=(fun k_ =>(P0_ k_∨w.heap.size≤k_)∧some k_≠(.slice Ao14 t210.length co14:Value).ownBlock∧some k_≠(.slice Ao17 t217.length co17:Value).ownBlock)) (by (with_reducible repeat (first | apply Kd.a1N | apply Kd.a1M | apply Kd.a1R));exact Kd.a2Z bM.out (fun _ hk =>⟨⟨hk.1.1.1,⟨hk.1.1.2,hk.2⟩⟩,hk.1.2⟩)) hg hat);have bZ:=a0C.mk (Kd.a1Y (ok:=(fun k_ =>(P0_ k_∨w.heap.size≤k_)∧some k_≠(.slice Ao14 t210.length co14:Value).ownBlock∧some k_≠(.slice Ao17 t217.length co17:Value).ownBlock)) (by (with_reducible repeat (first | apply Kd.a1N | apply Kd.a1M | apply Kd.a1R));exact Kd.a2Z aN.out (fun _ hk =>⟨⟨hk.1.1.1,⟨hk.1.1.2,hk.2⟩⟩,hk.1.2⟩)) hg hat);have eM:=a0C.mk (Kd.a1Y (ok:=(fun k_ =>(P0_ k_∨w.heap.size≤k_)∧some k_≠(.slice Ao14 t210.length co14:Value).ownBlock∧some k_≠(.slice Ao17 t217.length co17:Value).ownBlock)) (by (with_reducible repeat (first | apply Kd.a1N | apply Kd.a1M | apply Kd.a1R));exact Kd.a2Z aQ.out (fun _ hk =>⟨⟨hk.1.1.1,⟨hk.1.1.2,hk.2⟩⟩,hk.1.2⟩)) hg hat);have eV:=a0C.mk (Kd.a1Y (ok:=(fun k_ =>(P0_ k_∨w.heap.size≤k_)∧some k_≠(.slice Ao14 t210.length co14:Value).ownBlock∧some k_≠(.slice Ao17 t217.length co17:Value).ownBlock)) (by (with_reducible repeat (first | apply Kd.a1N | apply Kd.a1M | apply Kd.a1R));exact Kd.a2Z aT.out (fun _ hk =>⟨⟨hk.1.1.1,⟨hk.1.1.2,hk.2⟩⟩,hk.1.2⟩)) hg hat);have jK:=a0C.mk (Kd.a1Y (ok:=(fun k_ =>(P0_ k_∨w.heap.size≤k_)∧some k_≠(.slice Ao14 t210.length co14:Value).ownBlock∧some k_≠(.slice Ao17 t217.length co17:Value).ownBlock)) (by (with_reducible repeat (first | apply Kd.a1N | apply Kd.a1M | apply Kd.a1R));exact Kd.a2Z aU.out (fun _ hk =>⟨⟨hk.1.1.1,⟨hk.1.1.2,hk.2⟩⟩,hk.1.2⟩)) hg hat);have jL:=a0C.mk (Kd.a1Y (ok:=(fun k_ =>(P0_ k_∨w.heap.size≤k_)∧some k_≠(.slice Ao14 t210.length co14:Value).ownBlock∧some k_≠(.slice Ao17 t217.length co17:Value).ownBlock)) (by (with_reducible repeat (first | apply Kd.a1N | apply Kd.a1M | apply Kd.a1R));exact Kd.a2Z bC.out (fun _ hk =>⟨⟨hk.1.1.1,⟨hk.1.1.2,hk.2⟩⟩,hk.1.2⟩)) hg hat);have jM:=a0C.mk (Kd.a1Y (ok:=(fun k_ =>(P0_ k_∨w.heap.size≤k_)∧some k_≠(.slice Ao14 t210.length co14:Value).ownBlock∧some k_≠(.slice Ao17 t217.length co17:Value).ownBlock)) (by (with_reducible repeat (first | apply Kd.a1N | apply Kd.a1M | apply Kd.a1R));exact Kd.a2Z bD.out (fun _ hk =>⟨⟨hk.1.1.1,⟨hk.1.1.2,hk.2⟩⟩,hk.1.2⟩)) hg hat);have kK:=a0C.mk (Kd.a1Y (ok:=(fun k_ =>(P0_ k_∨w.heap.size≤k_)∧some k_≠(.slice Ao14 t210.length co14:Value).ownBlock∧some k_≠(.slice Ao17 t217.length co17:Value).ownBlock)) (by (with_reducible repeat (first | apply Kd.a1N | apply Kd.a1M | apply Kd.a1R));exact Kd.a2Z bA.out (fun _ hk =>⟨⟨hk.1.1.1,⟨hk.1.1.2,hk.2⟩⟩,hk.1.2⟩)) hg hat);have kN:=a0C.mk (Kd.a1Y (ok:=(fun k_ =>(P0_ k_∨w.heap.size≤k_)∧some k_≠(.slice Ao14 t210.length co14:Value).ownBlock∧some k_≠(.slice Ao17 t217.length co17:Value).ownBlock)) (by (with_reducible repeat (first | apply Kd.a1N | apply Kd.a1M | apply Kd.a1R));exact Kd.a2Z bE.out (fun _ hk =>⟨⟨hk.1.1.1,⟨hk.1.1.2,hk.2⟩⟩,hk.1.2⟩)) hg hat);have kO:=a0C.mk (Kd.b4C (ok:=(fun k_ =>(P0_ k_∨w.heap.size≤k_)∧some k_≠(.slice Ao17 t217.length co17:Value).ownBlock)) (by (with_reducible repeat (first | apply Kd.a2A | apply Kd.a1Z | apply Kd.a2V));exact Kd.a3F HO212.out (fun _ hk =>⟨⟨hk.1.1,hk.2⟩,hk.1.2⟩)) hg hat);have eS:=a0C.mk (Kd.a1Y (ok:=(fun k_ =>(P0_ k_∨w.heap.size≤k_)∧some k_≠(.slice Ao14 t210.length co14:Value).ownBlock∧some k_≠(.slice Ao17 t217.length co17:Value).ownBlock)) (by (with_reducible repeat (first | apply Kd.a1N | apply Kd.a1M | apply Kd.a1R));exact Kd.a2Z bV.out (fun _ hk =>⟨⟨hk.1.1.1,⟨hk.1.1.2,hk.2⟩⟩,hk.1.2⟩)) hg hat);have eT:=a0C.mk (Kd.a1Y (ok:=(fun k_ =>(P0_ k_∨w.heap.size≤k_)∧some k_≠(.slice Ao14 t210.length co14:Value).ownBlock∧some k_≠(.slice Ao17 t217.length co17:Value).ownBlock)) (by (with_reducible repeat (first | apply Kd.a1N | apply Kd.a1M | apply Kd.a1R));exact Kd.a2Z bW.out (fun _ hk =>⟨⟨hk.1.1.1,⟨hk.1.1.2,hk.2⟩⟩,hk.1.2⟩)) hg hat);have gP:=a0C.mk (Kd.a1Y (ok:=(fun k_ =>(P0_ k_∨w.heap.size≤k_)∧some k_≠(.slice Ao14 t210.length co14:Value).ownBlock∧some k_≠(.slice Ao17 t217.length co17:Value).ownBlock)) (by (with_reducible repeat (first | apply Kd.a1N | apply Kd.a1M | apply Kd.a1R));exact Kd.a2Z bX.out (fun _ hk =>⟨⟨hk.1.1.1,⟨hk.1.1.2,hk.2⟩⟩,hk.1.2⟩)) hg hat);have gQ:=a0C.mk (Kd.a1Y (ok:=(fun k_ =>(P0_ k_∨w.heap.size≤k_)∧some k_≠(.slice Ao14 t210.length co14:Value).ownBlock∧some k_≠(.slice Ao17 t217.length co17:Value).ownBlock)) (by (with_reducible repeat (first | apply Kd.a1N | apply Kd.a1M | apply Kd.a1R));exact Kd.a2Z bT.out (fun _ hk =>⟨⟨hk.1.1.1,⟨hk.1.1.2,hk.2⟩⟩,hk.1.2⟩)) hg hat);have gR:=a0C.mk (Kd.b4C (ok:=(fun k_ =>(P0_ k_∨w.heap.size≤k_)∧some k_≠(.slice Ao14 t210.length co14:Value).ownBlock)) (by (with_reducible repeat (first | apply Kd.a2A | apply Kd.a1Z | apply Kd.a2V));exact Kd.a3F HO219.out (fun _ hk =>⟨⟨hk.1,hk.2.1⟩,hk.2.2⟩)) hg hat);have gS:=a0C.mk (hb);have kP:=a0C.mk (ho);clear bM;clear aN;clear aQ;clear aT;clear aU;clear bC;clear bD;clear bA;clear bE;clear HO212;clear bV;clear bW;clear bX;clear bT;clear HO219;clear HB;clear HO215;have bM:=bY;have aN:=bZ;have aQ:=eM;have aT:=eV;have aU:=jK;have bC:=jL;have bD:=jM;have bA:=kK;have bE:=kN;have HO212:=kO;have bV:=eS;have bW:=eT;have bX:=gP;have bT:=gQ;have HO219:=gR;have HB:=gS;have HO222:=kP;clear bY bZ eM eV jK jL jM kK kN kO eS eT gP gQ gR gS kP;clear ho hb hg hat));go_roundg k1
        case measure =>have:=HK1.out;omega
        case rel =>exact ⟨(y220),(wrap64 (aA + 1)),qE0,H',⟨by have:=HK1.out;omega⟩,⟨by (with_reducible repeat (first | apply Kd.a1N | apply Kd.a1M | apply Kd.a1R));exact Kd.a2Z bM.out (fun _ hk =>⟨hk.1.1,hk.2⟩)⟩,⟨by (with_reducible repeat (first | apply Kd.a2A | apply Kd.a1Z | apply Kd.a2V));exact HO222.out⟩,⟨by repeat (first | (with_reducible first | exact HB.out | apply a0B | apply a0A | apply a0D) | exact HB.out)⟩⟩
       ·rw [if_neg c10] at H;exact absurd H qG0
      ·rw [if_neg c8] at H;exact absurd H qG0
     ·rw [if_neg c6] at H;exact absurd H qG0
    ·rw [if_neg c5] at H;exact absurd H qG0
   ·rw [if_neg c4] at H;have c4b0:decide (aA < (l0.length:Int)) = false:=zL0 c4;clear c4;obtain rfl:=zD0 H;go_wp2;go_ret;exact ⟨_,by first | rfl | (simp [a0N,a0M] <;> rfl) | (simp [*,a0N,a0M] <;> rfl),by (with_reducible repeat (first | apply Kd.a2A | apply Kd.a1Z | apply Kd.a2V));exact mD.out,by repeat (first | (with_reducible first | exact HB.out | apply a0B | apply a0A | apply a0D) | exact HB.out)⟩
def r05_Fun.l0:Nat→ByteArray→Int→List (S34)→Option (Int)
 | 0,_,_,_ =>none
 | k + 1,x1,x5,x224000 =>if x5 < (x224000.length:Int) then (if 0≤x5 then (if ((a1C x224000 x5).f0).toList = x1.toList then (some x5) else (r05_Fun.l0 k x1 (wrap64 (x5 + 1)) x224000)) else (none)) else (some (-1))
def r05_Fun.f (k:Nat) (aG:List (S34)) (a1:ByteArray):Option (Int):=r05_Fun.l0 k a1 0 aG
set_option maxHeartbeats 8000000 in
set_option maxRecDepth 100000 in
theorem r05_Fun.calls (k:Nat) (dG:Option Addr) (bU:Nat) (aG:List (S34)) (a1:ByteArray) (r:Int) (w:World) (eI:Kd.C k34 w dG aG.length aG) (eJ:aG.length≤bU) (h:r05_Fun.f k aG a1 = some r) :
    Calls Tryz.prog 60 #[.agg #[.slice dG aG.length bU],.string a1] w fun e w' =>e = .returned (.int .i64 r)∧Below w.heap.size w w':=by
 have hu24:=Tryz.underlying24;have eK:=a0C.mk eI;have nA:=a0C.mk eJ;clear eI eJ;have HB:=a0C.mk (zJ0 w.heap.size w);have H:(r05_Fun.l0 k a1 0 aG) = some r:=h;clear h;have H':=a0C.mk H;clear H;go_enter Tryz.func60,Tryz.ntmps60
 go_wp2_with (first | ((with_reducible refine a0V (N:=2) rfl ?_);refine a2C ?hg (N:=2) ?hd (cs:=#[.slice dG aG.length bU]) (t:=24) ?hr ?_;(case hd =>rfl);(case hg =>rfl);(case hr =>first | (go_simp;done) | (go_simp;rfl));intro kQ hg w3 hbox hb;have bY:=a0C.mk (a0L qB0 hb);have bZ:=a0C.mk (hbox);have eM:=a0C.mk ((by rw [hg];exact (a0R qB0):w.heap.size≤kQ));have eV:=a0C.mk ((by rw [hg];exact (a0R qB0):w.heap.size≤kQ));clear HB;have HB:=bY;have eW:=bZ;have GW223:=eM;have kD:=eV;clear bY bZ eM eV;clear hb hbox hg));go_loopg [5] k (fun kq v5 w' =>∃ (aV:Int),v5 = .int .i64 aV∧a0C (r05_Fun.l0 kq a1 aV aG = some r)∧a0C (kq≤k)∧a0C (w'.heap[kQ]? = some (.cells #[(.slice dG aG.length bU)] 24 (0,0)))∧a0C (Below w.heap.size w w'))
 case atStart =>exact ⟨(0),qE0,H',⟨zG0 _⟩,⟨by (with_reducible repeat (first | refine a0P ?_ _ | refine a0X ?_ | refine a0K ?_ _));exact eW.out⟩,⟨by repeat (first | (with_reducible first | exact HB.out | apply a0B | apply a0A | apply a0D | refine a0G ?_ kD.out) | exact HB.out)⟩⟩
 case round =>
  clear H';obtain ⟨aV,rfl,HA,HK1,eW,HB⟩:=hrel;cases gk with
  | zero =>exact absurd HA.out (by simp [r05_Fun.l0])
  | succ k1 =>
   have H:=HA.out;clear HA;simp only [r05_Fun.l0] at H;by_cases c4:aV < (aG.length:Int)
   ·rw [if_pos c4] at H;have c4b0:decide (aV < (aG.length:Int)) = true:=zC0 c4;clear c4;by_cases c5:0≤aV
    ·rw [if_pos c5] at H;have c5b0:decide (0≤aV) = true:=zC0 c5;clear c5;by_cases c6:((a1C aG aV).f0).toList = a1.toList
     ·rw [if_pos c6] at H;have c6b0:(((a1C aG aV).f0).toList == a1.toList) = true:=beq_iff_eq.mpr c6;have c6b1:(((a1C aG aV).f0).toList != a1.toList) = false:=bne_eq_false_iff_eq.mpr c6;clear c6;obtain rfl:=zD0 H;have lW:=cf1 eW.out;have p224:0≤(aV:Int):=zB0 qA0;have q224:aV < (aG.length:Int):=zB0 qA0;obtain ⟨ad224,mW,mX,mY,mZ,e224,cZ,dA,dB,dC,dD,dE,dF⟩:=a6I eK.out aV p224 q224;cases e224;replace cZ:=a0E HB.out cZ;replace dA:=a0E HB.out dA;replace dB:=a0E HB.out dB;have lS:=a0C.mk dD;have lT:=a0C.mk dC;clear dD dC;have lU:=a0C.mk dF;have lV:=a0C.mk dE;clear dF dE;replace p224:=eq_true p224;replace q224:=eq_true q224;go_wp2;go_ret;exact qT3
     ·rw [if_neg c6] at H;have c6b0:(((a1C aG aV).f0).toList == a1.toList) = false:=beq_eq_false_iff_ne.mpr c6;have c6b1:(((a1C aG aV).f0).toList != a1.toList) = true:=bne_iff_ne.mpr c6;have H':=a0C.mk H;clear H;have qT:=cf1 eW.out;have p224:0≤(aV:Int):=zB0 qA0;have q224:aV < (aG.length:Int):=zB0 qA0;obtain ⟨ad224,mW,mX,mY,mZ,e224,cZ,dA,dB,dC,dD,dE,dF⟩:=a6I eK.out aV p224 q224;cases e224;replace cZ:=a0E HB.out cZ;replace dA:=a0E HB.out dA;replace dB:=a0E HB.out dB;have lS:=a0C.mk dD;have lT:=a0C.mk dC;clear dD dC;have lU:=a0C.mk dF;have lV:=a0C.mk dE;clear dF dE;replace p224:=eq_true p224;replace q224:=eq_true q224;go_wp2;go_roundg k1
      case measure =>have:=HK1.out;omega
      case rel =>exact ⟨(wrap64 (aV + 1)),qE0,H',⟨by have:=HK1.out;omega⟩,⟨by (with_reducible repeat (first | refine a0P ?_ _ | refine a0X ?_ | refine a0K ?_ _));exact eW.out⟩,⟨by repeat (first | (with_reducible first | exact HB.out | apply a0B | apply a0A | apply a0D | refine a0G ?_ kD.out) | exact HB.out)⟩⟩
    ·rw [if_neg c5] at H;exact absurd H qG0
   ·rw [if_neg c4] at H;have c4b0:decide (aV < (aG.length:Int)) = false:=zL0 c4;clear c4;obtain rfl:=zD0 H;have qU:=cf1 eW.out;go_wp2;go_ret;exact qT3
end Go.Proofs.YthhgfncliffggaaGreat.Pr
namespace Go.Proofs.YthhgfncliffggaaGreat.Man
open Go.RowKit Go.Proofs.YthhgfncliffggaaGreat.Pr Go.Proofs.YthhgfncliffggaaGreatW.PrintWords
theorem pzB (n:Nat) (h:n≤1000000000):wrap64 ((n:Int) + 1) = ((n + 1:Nat):Int):=by simp only [wrap64];omega
def Low (l:List S65):Prop:=l.length≤2000000∧∀ s ∈ flat l,s.f6.length≤2000000∧s.f7.length≤2000000
theorem c3B (l:List S65) (k:Nat) (h:k < l.length) (s:S65) (hs:s ∈ flat (a0J l k).f6):s ∈ flat l:=a7R l k h s (by simp [hs])
theorem c3A (l:List S65) (k:Nat) (h:k < l.length) (s:S65) (hs:s ∈ flat (a0J l k).f7):s ∈ flat l:=a7R l k h s (by simp [hs])
theorem Low.sub {l:List S65} (h:Low l) (k:Nat) (hk:k < l.length):Low (a0J l (k:Int)).f6∧Low (a0J l (k:Int)).f7:=by
 have h0:=h.2 _ (a7R l k hk (a0J l k) qG0);exact ⟨⟨h0.1,fun s hs =>h.2 s (c3B l k hk s hs)⟩,⟨h0.2,fun s hs =>h.2 s (c3A l k hk s hs)⟩⟩
theorem deep_ev:∀ (m:Nat) (l:List S65),SizeOf.sizeOf l < m→Low l→∀ a:Int,∃ r,Ev (fun k =>r03_Deep.f k l a) r:=by
 intro m
 induction m with
 | zero =>intro l h;omega
 | succ m ih =>
  intro l hm hl a;have hlen:=hl.1;have main:∀ d i:Nat,i + d = l.length→∀ x5:Int,∃ r,Ev (fun k =>r03_Deep.l0 k l a x5 (i:Int)) r:=by
   intro d
   induction d with
   | zero =>
    intro i hi x5;have c:¬ (i:Int) < (l.length:Int):=by omega
    refine ⟨x5,Ev.step ?_⟩;simp only [r03_Deep.l0,if_neg c];refine Ev.step ?_;simp only [r03_Deep.j1,Bool.false_eq_true,if_false];exact Ev.const _
   | succ d ihd =>
    intro i hi x5;have c:(i:Int) < (l.length:Int):=by omega
    have c0:0≤(i:Int):=zI0 i;by_cases ha:a > 0
    ·obtain ⟨h6,h7⟩:=hl.sub i qD0;obtain ⟨s6,s7⟩:=a9Y l i qD0;obtain ⟨r6,e6⟩:=ih _ qD0 h6 (wrap64 (a - 1));obtain ⟨r7,e7⟩:=ih _ qD0 h7 (wrap64 (a - 1));obtain ⟨r,e⟩:=ihd (i + 1) qD0 (mx x5 (wrap64 (1 + (mx r6 r7))));refine ⟨r,Ev.step ?_⟩;simp only [r03_Deep.l0,if_pos c,zC0 ha];refine Ev.step ?_;simp only [r03_Deep.j1,if_true,if_pos c0,if_pos c];refine Ev.bind e6 (Ev.bind e7 ?_);rw [pzB i qD0];exact e
    ·refine ⟨x5,Ev.step ?_⟩;simp only [r03_Deep.l0,if_pos c,zL0 ha];refine Ev.step ?_;simp only [r03_Deep.j1,Bool.false_eq_true,if_false];exact Ev.const _
  obtain ⟨r,e⟩:=main l.length 0 qD0 0;refine ⟨r,Ev.step ?_⟩;simp only [r03_Deep.f];exact e
def LowP (fs:List S34):Prop:=fs.length≤2000000∧∀ f ∈ fs,f.f1.length≤2000000∧(flat f.f2).length≤2000000∧Low f.f2
theorem b6F {fs:List S34} {i:Nat} (h:i < fs.length):a1C fs (i:Int) ∈ fs:=by
 unfold a1C;rw [zM0,zF0,zE0 h];exact zD1 h
theorem b3A {fs:List S34} {i:Nat} (h:i < fs.length):a1C fs (i:Int) = fs[i]:=by
 unfold a1C;rw [zM0,zF0,zE0 h];rfl
theorem eta_stmt (s:S65):(⟨s.f0,s.f1,s.f2,s.f3,s.f4,s.f5,s.f6,s.f7⟩:S65) = s:=by cases s;rfl
theorem list_ev:∀ (m:Nat) (l:List S65),SizeOf.sizeOf l < m→Low l→(flat l).length≤2000000→Ev (fun k =>r04_List.f k l) (flat l):=by
 intro m
 induction m with
 | zero =>intro l h;omega
 | succ m ih =>
  intro l hm hl hn;have hlen:=hl.1;have main:∀ d i:Nat,i + d = l.length→Ev (fun k =>r04_List.l0 k l (flat (l.take i)) (i:Int)) (flat l):=by
   intro d
   induction d with
   | zero =>
    intro i hi;have c:¬ (i:Int) < (l.length:Int):=by omega
    refine Ev.step ?_;simp only [r04_List.l0,if_neg c];rw [show l.take i = l from zQ2 qD0];exact Ev.const _
   | succ d ihd =>
    intro i hi;have hil:i < l.length:=by omega
    have c:(i:Int) < (l.length:Int):=by omega
    have c0:0≤(i:Int):=zI0 i;obtain ⟨h6,h7⟩:=hl.sub i hil;obtain ⟨s6,s7⟩:=a9Y l i hil;have hfl:=b8H l i hil;have e6:=ih _ qD0 h6 qD0;have e7:=ih _ qD0 h7 qD0;have e:=ihd (i + 1) qD0;have ht:=a3J l i hil;have hg:l[i] = a0J l (i:Int):=by unfold a0J;simp [List.getD,hil]
    rw [hg] at ht;refine Ev.step ?_;have c1:(flat (l.take i)).length < 925904528653:=by omega
    have c2:(flat (l.take i) ++ [a0J l (i:Int)]).length + (flat (a0J l (i:Int)).f6).length < 925904528653:=by simp;omega
    have c3:(flat (l.take i) ++ [a0J l (i:Int)] ++ flat (a0J l (i:Int)).f6).length + (flat (a0J l (i:Int)).f7).length < 925904528653:=by simp;omega
    simp only [r04_List.l0,if_pos c,if_pos c0,if_pos c1,eta_stmt,zK0];refine Ev.bind e6 ?_;simp only [if_pos c2,zK0];refine Ev.bind e7 ?_;simp only [if_pos c3];rw [pzB i qD0];rw [ht] at e;simpa [zR2] using e
  have:=main l.length 0 qD0;refine Ev.step ?_;simp only [r04_List.f];simpa [flat] using this
theorem fun_ev (fs:List S34) (hl:fs.length≤2000000) (nm:ByteArray):Ev (fun k =>r05_Fun.f k fs nm) (funIx fs nm):=by
 have main:∀ d i:Nat,i + d = fs.length→Ev (fun k =>r05_Fun.l0 k nm (i:Int) fs) (firstIx nm (fs.drop i) i):=by
  intro d
  induction d with
  | zero =>
   intro i hi;have c:¬ (i:Int) < (fs.length:Int):=by omega
   refine Ev.step ?_;simp only [r05_Fun.l0,if_neg c];rw [zL2 qD0];exact Ev.const _
  | succ d ihd =>
   intro i hi;have c:(i:Int) < (fs.length:Int):=by omega
   have c0:0≤(i:Int):=zI0 i;have e:=ihd (i + 1) qD0;rw [b8J fs i qD0];refine Ev.step ?_;simp only [r05_Fun.l0,if_pos c,if_pos c0,firstIx];by_cases h:(a1C fs (i:Int)).f0.toList = nm.toList
   ·have h':((a1C fs (i:Int)).f0.toList == nm.toList) = true:=by simpa using h
    simp only [if_pos h,h',if_true];exact Ev.const _
   ·have h':((a1C fs (i:Int)).f0.toList == nm.toList) = false:=by simpa using h
    simp only [if_neg h,h',Bool.false_eq_true,if_false];rw [pzB i qD0];exact e
 exact main fs.length 0 qD0
def leads (fs:List S34) (L:List S65) (g:Int):Bool:=L.any fun s =>s.f0 == 6 || (s.f0 == 5 && funIx fs s.f3 == g)
theorem c1J (L:List S65) (i:Nat) (h:i < L.length):L.drop i = a0J L (i:Int) :: L.drop (i + 1):=by
 rw [zD2 h]
 congr 1
 unfold a0J;simp [List.getD,h]
attribute [local go_sem] Oper.semAt_some
set_option maxRecDepth 100000 in
set_option maxHeartbeats 8000000 in
theorem b9D (w:World) (fs:List S34) (A:Option Addr) (c:Nat) (hc:fs.length≤c) (hC:Kd.C k34 w A fs.length fs) (hl:LowP fs) (i:Nat) (hi:i < fs.length) (g:Int) :
  Calls Tryz.prog 40 #[.agg #[.slice A fs.length c],.int .i64 (i:Int),.int .i64 g] w fun e w' =>e = .returned (.bool (leads fs (flat (a1C fs (i:Int)).f2) g))∧Below w.heap.size w w':=by
 have hf:=hl.2 _ (b6F hi);obtain ⟨kl,ekl⟩:=list_ev _ _ (zS0 _) hf.2.2 hf.2.1;have HL:=zA0 (ekl kl (zG0 _));have hfun:∀ nm,∃ k,r05_Fun.f k fs nm = some (funIx fs nm):=fun nm =>by obtain ⟨k,e⟩:=fun_ev fs hl.1 nm;exact ⟨k,e k (zG0 _)⟩
 have HFUN:=zA0 hfun
 obtain ⟨ad,A1,c1,A2,c2,eA,y0,y1,y2,_,_,l2,g2⟩:=a6I hC (i:Int) qD0 qD0;subst eA;rw [zM0] at y0 y1 y2;have hLn:=zA0 hf.2.1;have HB:=zA0 (zJ0 w.heap.size w);have K0:=zA0 hC;have G2:=zA0 g2;have Y2:=zA0 y2;obtain ⟨F,hF⟩:∃ F,F = a1C fs (i:Int):=⟨_,rfl⟩;rw [← hF] at y0 y1 y2 l2 G2 Y2 HL hLn ⊢;have HI:=zA0 hi;have lt2:=zA1 _ _ y2;have c_i:(0:Int)≤(i:Int):=zI0 i;have c_l:(i:Int) < (fs.length:Int):=by omega
 clear hfun hf ekl hF y0 y1 g2 hC hi
 go_enter Tryz.func40,Tryz.ntmps40
 go_wp2_with (first
  | ((with_reducible refine a0V (N:=3) rfl ?_);refine a2C ?hg (N:=3) ?hd (cs:=#[.slice (some ad) fs.length c]) (t:=24) ?hr ?_;(case hd =>rfl);(case hg =>rfl);(case hr =>first | (go_simp;done) | (go_simp;rfl));intro g3 hg w1 hx hb;have y2:=(hb.cell lt2).trans Y2.out;have HB:=zA0 (a0L HB.out hb);have B3:=zA0 (One.mk hx);clear hx hb hg;obtain ⟨gM,_⟩:=B3.out.c)
  | (go_at_call 34;((with_reducible refine (r04_List.calls kl _ A2 c2 F.f2 _ _ (Kd.V_mk l2 (Kd.a1U (Kd.C_F b3L G2.out) HB.out)) HL.out).mono ?_));rintro e w2 ⟨v,rfl,hN,hb⟩;obtain ⟨AL,cL,rfl⟩:=Kd.a4D hN;have HCL:=zA0 (Kd.a2U hN).2.1;have KL:=zA0 (Kd.a2U hN).2.2;clear gM y2;have B3:=zA0 (B3.out.below hb);have HB:=zA0 (a0L HB.out hb);clear hb hN;obtain ⟨gM,_⟩:=B3.out.c))
 obtain ⟨L,hL⟩:∃ L,L = flat F.f2:=⟨_,rfl⟩;rw [← hL] at hLn HCL KL ⊢;have HLL:=zA0 hL;clear hL HL;go_loopg [8] L.length (fun kq v8 w' =>∃ j:Nat,j + kq = L.length∧v8 = .int .i64 j∧Hid (leads fs (L.drop j) g = leads fs L g)∧Hid (Below w.heap.size w w')∧Hid (One w' g3 (.slice (some ad) fs.length c) 24)∧Hid (Kd.C k65 w' AL L.length L))
 case atStart =>exact ⟨0,zG2 _,rfl,zA0 rfl,HB,B3,KL⟩
 case round =>
  obtain ⟨j,hj,rfl,HI2,HB,B3,KL⟩:=hrel;clear gM y2;by_cases hlt:j < L.length
  ·obtain ⟨ae,A4,c4,A5,c5,A6,c6,A7,c7,eA,x0,x1,x2,x3,_⟩:=a9L KL.out (j:Int) (zI0 j) (zS1.2 hlt);subst eA;rw [zM0] at x0 x1 x2 x3;have ltx:=zA1 _ _ x0;have lty:=zA1 _ _ x3;obtain ⟨gM,_⟩:=B3.out.c;have lt3:=zA1 _ _ gM;have K0r:=zA0 (Kd.a0I K0.out HB.out);have hw:=pzB j (zH0 (zY1 hlt) (zH0 hLn.out qF0));have c_j:(0:Int)≤(j:Int):=zI0 j;have c_n:(j:Int) < (L.length:Int):=zS1.2 hlt;have hd:=zA0 (c1J L j hlt);have hB0:Below wr.heap.size wr wr:=zJ0 _ _;obtain ⟨k1,rfl⟩:∃ k1,gk = k1 + 1:=Nat.exists_eq_add_one_of_ne_zero (by rintro rfl;exact absurd hj (Nat.ne_of_lt hlt));clear x1 x2;by_cases h6:(a0J L (j:Int)).f0 = 6
   ·have b6:((a0J L (j:Int)).f0 == 6) = true:=by simpa using h6
    have hres:=zA0 (show leads fs L g = true by rw [← HI2.out,hd.out];unfold leads;rw [zZ3,b6];rfl);clear h6;go_wp2
    go_quiet (fail)
    go_wp2;go_ret;exact ⟨by rw [← HLL.out,hres.out];rfl,a0L HB.out qR0⟩
   ·have b6:((a0J L (j:Int)).f0 == 6) = false:=by simpa using h6
    clear h6;by_cases h5:(a0J L (j:Int)).f0 = 5
    ·have b5:((a0J L (j:Int)).f0 == 5) = true:=by simpa using h5
     obtain ⟨kf,hkf⟩:=HFUN.out (a0J L (j:Int)).f3;obtain ⟨q,hq⟩:∃ q,q = funIx fs (a0J L (j:Int)).f3:=⟨_,rfl⟩
     rw [← hq] at hkf;have HKF:=zA0 hkf;have HQ:=zA0 hq;clear hkf hq h5;by_cases hg:q = g
     ·have bg:(q == g) = true:=by simpa using hg
      have hres:=zA0 (show leads fs L g = true by rw [← HI2.out,hd.out];unfold leads;rw [zZ3,b6,b5,← HQ.out,bg];rfl);clear hg;go_wp2
      go_region_held3 (fun w' =>w'.cell? (ae.add (j * 8)) = some (.int .i64 (a0J L (j:Int)).f0)∧w'.cell? ⟨(ae.add (j * 8)).block,(ae.add (j * 8)).off + 3,none⟩ = some (.string (a0J L (j:Int)).f3)∧w'.cell? ⟨g3,0,none⟩ = some (.slice (some ad) fs.length c)∧Below wr.heap.size wr w') (first | exact ⟨x0,x3,gM,Below.drew hB0⟩ | exact ⟨(hb.cell ltx).trans x0,(hb.cell (p:=⟨(ae.add (j * 8)).block,(ae.add (j * 8)).off + 3,none⟩) ltx).trans x3,(hb.cell (p:=⟨g3,0,none⟩) lt3).trans gM,Below.trans (Below.drew hB0) (hb.mono (zG0 _))⟩ | go_keep | (go_split_ands;exact ⟨(hb.cell (zF1 ltx (Below.size qF1))).trans qF1,(hb.cell (zF1 ltx (Below.size qF1))).trans qF1,(hb.cell (zF1 lt3 (Below.size qF1))).trans qF1,Below.trans qF1 (hb.mono (Below.size qF1))⟩) | (go_split_ands;exact ⟨by assumption,by assumption,by assumption,Below.drew qF1⟩)) (first | (go_split_ands;go_at_call 60;refine (r05_Fun.calls kf (some ad) c fs (a0J L (j:Int)).f3 q _ (Kd.a0I K0r.out qF1) hc HKF.out).mono ?_;rintro e w3 ⟨rfl,hb⟩))
      go_wp2;go_ret;exact ⟨by rw [← HLL.out,hres.out];rfl,a0L HB.out qR0⟩
     ·have bg:(q == g) = false:=by simpa using hg
      have hres:=zA0 (show leads fs (L.drop (j + 1)) g = leads fs L g by rw [← HI2.out,hd.out];unfold leads;rw [zZ3,b6,b5,← HQ.out,bg];rfl);clear hg;go_wp2
      go_region_held3 (fun w' =>w'.cell? (ae.add (j * 8)) = some (.int .i64 (a0J L (j:Int)).f0)∧w'.cell? ⟨(ae.add (j * 8)).block,(ae.add (j * 8)).off + 3,none⟩ = some (.string (a0J L (j:Int)).f3)∧w'.cell? ⟨g3,0,none⟩ = some (.slice (some ad) fs.length c)∧Below wr.heap.size wr w') (first | exact ⟨x0,x3,gM,Below.drew hB0⟩ | exact ⟨(hb.cell ltx).trans x0,(hb.cell (p:=⟨(ae.add (j * 8)).block,(ae.add (j * 8)).off + 3,none⟩) ltx).trans x3,(hb.cell (p:=⟨g3,0,none⟩) lt3).trans gM,Below.trans (Below.drew hB0) (hb.mono (zG0 _))⟩ | go_keep | (go_split_ands;exact ⟨(hb.cell (zF1 ltx (Below.size qF1))).trans qF1,(hb.cell (zF1 ltx (Below.size qF1))).trans qF1,(hb.cell (zF1 lt3 (Below.size qF1))).trans qF1,Below.trans qF1 (hb.mono (Below.size qF1))⟩) | (go_split_ands;exact ⟨by assumption,by assumption,by assumption,Below.drew qF1⟩)) (first | (go_split_ands;go_at_call 60;refine (r05_Fun.calls kf (some ad) c fs (a0J L (j:Int)).f3 q _ (Kd.a0I K0r.out qF1) hc HKF.out).mono ?_;rintro e w3 ⟨rfl,hb⟩))
      go_wp2;go_roundg k1
      case measure =>exact zS0 _
      case rel =>exact ⟨j + 1,by rw [zZ0,zM1 1];exact hj,by first | rw [hw] | simp,hres,zA0 (a0L HB.out qR0),zA0 (B3.out.below qR0),zA0 (Kd.a0I KL.out qR0)⟩
    ·have b5:((a0J L (j:Int)).f0 == 5) = false:=by simpa using h5
     have hres:=zA0 (show leads fs (L.drop (j + 1)) g = leads fs L g by rw [← HI2.out,hd.out];unfold leads;rw [zZ3,b6,b5];rfl);clear h5;go_wp2
     go_quiet (fail)
     go_wp2;go_roundg k1
     case measure =>exact zS0 _
     case rel =>exact ⟨j + 1,by rw [zZ0,zM1 1];exact hj,by first | rw [hw] | simp,hres,zA0 (a0L HB.out qR0),zA0 (B3.out.below qR0),zA0 (Kd.a0I KL.out qR0)⟩
  ·have hje:j = L.length:=Nat.le_antisymm (by rw [← hj];exact Nat.le_add_right _ _) (Nat.le_of_not_lt hlt);have hres:=zA0 (show leads fs L g = false by rw [← HI2.out,hje,zL2 (zG0 _)];rfl);go_wp2;go_ret;exact ⟨by rw [← HLL.out,hres.out];rfl,HB.out⟩
end Go.Proofs.YthhgfncliffggaaGreat.Man
namespace Go.Proofs.YthhgfncliffggaaGreat.Pr
open Go.RowKit Go.Proofs.YthhgfncliffggaaGreatW.PrintWords Go.Proofs.YthhgfncliffggaaGreatW.PrintLast Go.Proofs.YthhgfncliffggaaGreatW.PrintMore
attribute [local go_sem] a3W a3V a4R a4Q a3Q a3P a4J a4I   -- for this text's walks alone
open Classical in
noncomputable def r12_calls.f (aG:List (S34)) (a1:Int) (a2:Int):Option (Bool):=if Man.LowP aG∧0≤a1∧a1 < (aG.length:Int) then some (Man.leads aG (Man.flat (a1C aG a1).f2) a2) else none
theorem r12_calls.calls (dG:Option Addr) (bU:Nat) (aG:List (S34)) (a1:Int) (a2:Int) (r:Bool) (w:World) (eI:Kd.C k34 w dG aG.length aG) (eJ:aG.length≤bU) (h:r12_calls.f aG a1 a2 = some r) :
  Calls Tryz.prog 40 #[.agg #[.slice dG aG.length bU],.int .i64 a1,.int .i64 a2] w fun e w' =>e = .returned (.bool r)∧Below w.heap.size w w' :=
 by
 unfold r12_calls.f at h
 split at h
 ·next hN =>
  cases h;obtain ⟨n,rfl⟩:∃ n:Nat,a1 = (n:Int):=⟨a1.toNat,by omega⟩;exact Man.b9D w aG dG bU eJ eI hN.1 n qD0 a2
 ·cases h
end Go.Proofs.YthhgfncliffggaaGreat.Pr
namespace Go.Proofs.YthhgfncliffggaaGreat.Man
open Go.RowKit Go.Proofs.YthhgfncliffggaaGreat.Pr Go.Proofs.YthhgfncliffggaaGreatW.PrintWords
theorem b4F (x p q:Nat) (hx:x≤8000000000000) (hp:p≤4000000) (hq:q≤4000000):wrap64 ((x:Int) + wrap64 ((p:Int) + (q:Int))) = ((x + (p + q):Nat):Int):=by
 simp only [wrap64];omega
theorem b6R (s:S65) (r:List S65):(flat (s :: r)).length = 1 + (flat s.f6).length + (flat s.f7).length + (flat r).length:=by
 rw [flat];simp only [zT0,zR0];omega
theorem b9L:(flat ([]:List S65)).length = 0:=by rw [flat];rfl
theorem count14:∀ (m:Nat) (l:List S65),SizeOf.sizeOf l < m→Low l→(flat l).length≤2000000→Ev (fun k =>r03_Count.f k l) (((flat l).length:Nat):Int):=by
 intro m
 induction m with
 | zero =>intro l h;omega
 | succ m ih =>
  intro l hm hl hfl;have hlen:=hl.1;have main:∀ d i:Nat,i + d = l.length→∀ x:Nat,x + (flat (l.drop i)).length = (flat l).length + d→d≤x→Ev (fun k =>r03_Count.l0 k l (x:Int) (i:Int)) (((flat l).length:Nat):Int):=by
   intro d
   induction d with
   | zero =>
    intro i hi x hx _;have c:¬ (i:Int) < (l.length:Int):=by omega
    rw [zL2 qD0,b9L] at hx;refine Ev.step ?_;simp only [r03_Count.l0,if_neg c];rw [show x = (flat l).length by omega];exact Ev.const _
   | succ d ihd =>
    intro i hi x hx hdx;have c:(i:Int) < (l.length:Int):=by omega
    have c0:0≤(i:Int):=zI0 i;obtain ⟨h6,h7⟩:=hl.sub i qD0;obtain ⟨s6,s7⟩:=a9Y l i qD0;rw [c1J l i qD0,b6R] at hx;have e6:=ih _ qD0 h6 qD0;have e7:=ih _ qD0 h7 qD0;have e:=ihd (i + 1) qD0 (x + ((flat (a0J l (i:Int)).f6).length + (flat (a0J l (i:Int)).f7).length)) qD0 qD0;refine Ev.step ?_;simp only [r03_Count.l0,if_pos c,if_pos c0];refine Ev.bind e6 (Ev.bind e7 ?_);rw [pzB i qD0];rw [b4F x _ _ qD0 qD0 qD0];exact e
  have e:=main l.length 0 qD0 l.length (by rw [zC3];omega) (zG0 _);refine Ev.step ?_;simp only [r03_Count.f];exact e
def total (fs:List S34):Nat:=(fs.flatMap fun f =>flat f.f2).length
theorem b8Q (fs:List S34) (i:Nat) (hi:i < fs.length):total (fs.take (i + 1)) = total (fs.take i) + (flat (a1C fs (i:Int)).f2).length:=by
 unfold total;rw [zV0 hi,List.flatMap_append,zR0,b3A hi];simp
theorem big14 (fs:List S34) (hl:LowP fs):∃ b,Ev (fun k =>r03_Big.f k fs) b∧(b = false→total fs≤3000):=by
 have hlen:=hl.1;have main:∀ d i:Nat,i + d = fs.length→∀ x:Nat,total (fs.take i)≤x→x≤i * 4000000→∃ b,Ev (fun k =>r03_Big.l0 k (x:Int) (i:Int) fs) b∧(b = false→total fs≤3000):=by
  intro d
  induction d with
  | zero =>
   intro i hi x hx _;have c:¬ (i:Int) < (fs.length:Int):=by omega
   rw [show i = fs.length by omega,zH1] at hx;by_cases h3:(x:Int) > 3000
   ·exact ⟨true,Ev.step (by simp only [r03_Big.l0,if_neg c,if_pos h3];exact Ev.const _),fun h =>by cases h⟩
   ·exact ⟨_,Ev.step (by simp only [r03_Big.l0,if_neg c,if_neg h3];exact Ev.const _),fun _ =>by omega⟩
  | succ d ihd =>
   intro i hi x hx hx2;have c:(i:Int) < (fs.length:Int):=by omega
   have c0:0≤(i:Int):=zI0 i;have hf:=hl.2 _ (b6F (fs:=fs) (i:=i) qD0);obtain ⟨rd,ed⟩:=deep_ev _ _ (zS0 _) hf.2.2 60;have ec:=count14 _ _ (zS0 _) hf.2.2 hf.2.1;by_cases hd:rd ≥ 60
   ·refine ⟨true,Ev.step ?_,fun h =>by cases h⟩;simp only [r03_Big.l0,if_pos c,if_pos c0];refine Ev.bind ed ?_;simp only [if_pos hd];exact Ev.const _
   ·have ht:=b8Q fs i qD0;have f1:=hf.1;have f2:=hf.2.1;obtain ⟨b,e,hb⟩:=ihd (i + 1) qD0 (x + ((flat (a1C fs (i:Int)).f2).length + ((a1C fs (i:Int)).f1).length)) qD0 qD0;refine ⟨b,Ev.step ?_,hb⟩;simp only [r03_Big.l0,if_pos c,if_pos c0];refine Ev.bind ed ?_;simp only [if_neg hd];refine Ev.bind ec ?_;rw [pzB i qD0,b4F x _ _ qD0 qD0 qD0];exact e
 exact main fs.length 0 qD0 0 (by simp [total]) qD0
end Go.Proofs.YthhgfncliffggaaGreat.Man
