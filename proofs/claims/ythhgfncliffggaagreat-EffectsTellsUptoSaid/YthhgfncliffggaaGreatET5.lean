/- A part of the proof that EffectsTells returns true for every argument. No conditions beyond the given statement's own. -/
import Derived.Test.YthhgfncliffggaaGreatET2
import Derived.Test.YthhgfncliffggaaGreatET3
import Derived.Test.YthhgfncliffggaaGreatET4
import Derived.Deep.RegionHeld3
import Derived.WalkMore
import Derived.Says
set_option maxHeartbeats 8000000
set_option maxRecDepth 100000
set_option linter.unusedVariables false
set_option linter.unusedSimpArgs false
namespace Go.Proofs.YthhgfncliffggaaGreat.Pr
open Go.RowKit Go.Proofs.YthhgfncliffggaaGreatW.PrintWords Go.Proofs.YthhgfncliffggaaGreatW.PrintLast Go.Proofs.YthhgfncliffggaaGreatW.PrintMore
attribute [local go_sem] a3J a3I a4D a4C a3F a3E a3T a3S   -- for this text's walks alone
def r03_Big.l0:Nat→Int→Int→List (S34)→Option (Bool)
 | 0,_,_,_ =>none
 | k + 1,x3,x4,x162000 =>if x4 < (x162000.length:Int) then (if 0≤x4 then ((r03_Deep.f k ((a0S x162000 x4).f2) 60).bind fun t163 =>(if t163 ≥ 60 then (some true) else ((r03_Count.f k ((a0S x162000 x4).f2)).bind fun t165 =>(r03_Big.l0 k (wrap64 (x3 + (wrap64 (t165 + (((a0S x162000 x4).f1).length:Int))))) (wrap64 (x4 + 1)) x162000)))) else (none)) else (if x3 > 3000 then (some true) else (some (decide ((x162000.length:Int) > 1000))))
def r03_Big.f (k:Nat) (aD:List (S34)):Option (Bool):=r03_Big.l0 k 0 0 aD
def r03_Big.T7:Bool × List (List Nat × List Nat):=(true,[([],[]),([],[]),([1],[1]),([],[]),([2,3],[2,3]),([4],[4]),([5],[5]),([6],[6]),([],[]),([8],[8]),([],[]),([9,10],[9,10]),([11],[11]),([12],[12]),([13],[13]),([7,14],[7,14]),([0,15],[0,15]),([16,7,0,1,2,3,4,5,6,7,8,9,10,11,12,13,14,15,16],[0,16])])
def r03_Big.B7:List Nat:=[0,0,2,0,14,30,62,126,0,256,0,1792,3840,7936,16128,32766,65535,131071]
theorem r03_Big.tab7:rtab .any (opsOf Tryz.f7 7) = r03_Big.T7:=by kernel_rfl
theorem r03_Big.bits7:waitsOk r03_Big.T7.2 r03_Big.B7 = true:=by kernel_rfl
theorem r03_Big.calls (k:Nat) (bT:Option Addr) (bI:Nat) (aD:List (S34)) (r:Bool) (w:World) (cU:Kd.C k34 w bT aD.length aD) (cV:aD.length≤bI) (h:r03_Big.f k aD = some r) :
    Calls Tryz.prog 7 #[.agg #[.slice bT aD.length bI]] w fun e w' =>e = .returned (.bool r)∧Below w.heap.size w w':=by
 have hu24:=Tryz.underlying24;have cW:=a0D.mk cU;have iS:=a0D.mk cV;clear cU cV;have HB:=a0D.mk (zL0 w.heap.size w);have H:(r03_Big.l0 k 0 0 aD) = some r:=h;clear h;have H':=a0D.mk H;clear H;go_enter Tryz.func7,Tryz.ntmps7
 go_wp2_with (first | ((with_reducible refine a0T (N:=1) rfl ?_);(try (refine a3D qH1 ?_;dsimp only));refine a2A ?hg (N:=1) ?hd (cs:=#[.slice bT aD.length bI]) (t:=24) ?hr ?_;(case hd =>rfl);(case hg =>rfl);(case hr =>first | (go_simp;done) | (go_simp;rfl));intro fB hg w2 hbox hb;have bZ:=a0D.mk (a0K qC0 hb);have cA:=a0D.mk (hbox);have cM:=a0D.mk ((by rw [hg];exact (a0R qC0):w.heap.size≤fB));have dY:=a0D.mk ((by rw [hg];exact (a0R qC0):w.heap.size≤fB));clear HB;have HB:=bZ;have bN:=cA;have GW161:=cM;have dZ:=dY;clear bZ cA cM dY;clear hb hbox hg));go_loopg [3,4] k (fun kq v3 v4 w' =>∃ (aC:Int) (aA:Int),v3 = .int .i64 aC∧v4 = .int .i64 aA∧a0D (r03_Big.l0 kq aC aA aD = some r)∧a0D (kq≤k)∧a0D (w'.heap[fB]? = some (.cells #[(.slice bT aD.length bI)] 24 (0,0)))∧a0D (Below w.heap.size w w'))
 case atStart =>exact ⟨(0),(0),qH0,qH0,H',⟨zM0 _⟩,⟨by (with_reducible repeat (first | refine a0N ?_ _ | refine a0O ?_ | refine a0J ?_ _));exact bN.out⟩,⟨by repeat (first | (with_reducible first | exact HB.out | apply a0C | apply a0A | apply a0E | refine a0F ?_ dZ.out) | exact HB.out)⟩⟩
 case round =>
  clear H';obtain ⟨aC,aA,rfl,rfl,HA,HK1,bN,HB⟩:=hrel;cases gk with
  | zero =>exact absurd HA.out (by simp [r03_Big.l0])
  | succ k1 =>
   have H:=HA.out;clear HA;simp only [r03_Big.l0] at H;by_cases c3:aA < (aD.length:Int)
   ·rw [if_pos c3] at H;have c3b0:decide (aA < (aD.length:Int)) = true:=zD0 c3;clear c3;by_cases c4:0≤aA
    ·rw [if_pos c4] at H;have c4b0:decide (0≤aA) = true:=zD0 c4;clear c4;obtain ⟨t163,A5,H⟩:=ob_ H;by_cases c6:t163 ≥ 60
     ·rw [if_pos c6] at H;have c6b0:decide (60≤t163) = true:=zD0 c6;clear c6;obtain rfl:=zI0 H;have nL:=cf1 bN.out;have p162:0≤(aA:Int):=zB0 qA0;have q162:aA < (aD.length:Int):=zB0 qA0;obtain ⟨ad162,nM,nN,iK,iL,e162,cY,cZ,dA,dB,dC,dD,dE⟩:=a5F cW.out aA p162 q162;cases e162;replace cY:=a0B HB.out cY;replace cZ:=a0B HB.out cZ;replace dA:=a0B HB.out dA;have lY:=a0D.mk dC;have lZ:=a0D.mk dB;clear dC dB;have fL:=a0D.mk dE;have fM:=a0D.mk dD;clear dE dD;replace p162:=eq_true p162;replace q162:=eq_true q162;go_wp2_with (first | ((with_reducible refine a0Y (f:=24) rfl ?_);refine a2F (some 18) rfl rfl Tryz.func24 qE0 rfl #[.slice iK ((a0S aD aA).f2).length iL,.int .i64 60] rfl qB0 ?_;(with_reducible refine (r03_Deep.calls k1 _ _ ((a0S aD aA).f2) 60 t163 _ ?side1 ?side2 A5.out).mono ?_);(case side1 =>repeat (first | exact (Kd.a0H fL.out HB.out) | (with_reducible refine Kd.a1D ?_ _) | (with_reducible refine Kd.a1C ?_ _) | (with_reducible refine Kd.a1K ?_)));(case side2 =>exact fM.out);rintro e w8 ⟨rfl,hb⟩;refine ⟨_,rfl,?_⟩;replace bN:=a0D.mk (a0P (g:=fB) (o:=.cells #[.slice (some ad162) aD.length bI] 24 (0,0)) qJ1 hb);replace HB:=a0D.mk (a0K qD1 hb);(try clear hb)));go_ret;exact qV3
     ·rw [if_neg c6] at H;have c6b0:decide (60≤t163) = false:=zO0 c6;clear c6;obtain ⟨t165,A9,H⟩:=ob_ H;have H':=a0D.mk H;clear H;have pF:=cf1 bN.out;have p162:0≤(aA:Int):=zB0 qA0;have q162:aA < (aD.length:Int):=zB0 qA0;obtain ⟨ad162,nM,nN,iK,iL,e162,cY,cZ,dA,dB,dC,dD,dE⟩:=a5F cW.out aA p162 q162;cases e162;replace cY:=a0B HB.out cY;replace cZ:=a0B HB.out cZ;replace dA:=a0B HB.out dA;have lY:=a0D.mk dC;have lZ:=a0D.mk dB;clear dC dB;have fL:=a0D.mk dE;have fM:=a0D.mk dD;clear dE dD;replace p162:=eq_true p162;replace q162:=eq_true q162
      try go_wp2_with (first | ((with_reducible refine a0Y (f:=24) rfl ?_);refine a2F (some 18) rfl rfl Tryz.func24 qE0 rfl #[.slice iK ((a0S aD aA).f2).length iL,.int .i64 60] rfl qB0 ?_;(with_reducible refine (r03_Deep.calls k1 _ _ ((a0S aD aA).f2) 60 t163 _ ?side1 ?side2 A5.out).mono ?_);(case side1 =>repeat (first | exact (Kd.a0H fL.out HB.out) | (with_reducible refine Kd.a1D ?_ _) | (with_reducible refine Kd.a1C ?_ _) | (with_reducible refine Kd.a1K ?_)));(case side2 =>exact fM.out);rintro e w11 ⟨rfl,hb⟩;refine ⟨_,rfl,?_⟩;replace bN:=a0D.mk (a0P (g:=fB) (o:=.cells #[.slice (some ad162) aD.length bI] 24 (0,0)) qJ1 hb);replace HB:=a0D.mk (a0K qD1 hb);(try clear hb)))
      have bZ:=a0D.mk (a0O bN.out);have cA:=a0D.mk (a0E HB.out);clear bN;clear HB;have bN:=bZ;have HB:=cA;clear bZ cA;have p164:0≤(aA:Int):=zB0 qA0;have q164:aA < (aD.length:Int):=zB0 qA0;obtain ⟨ad164,lI,lJ,iM,iN,e164,eB,dF,dG,iT,iU,iV,iW⟩:=a5F cW.out aA p164 q164;have iX:=dG;have iY:=dF;have iZ:=eB;obtain rfl:ad162 = ad164:=(by injection e164);replace eB:=a0B HB.out eB;replace dF:=a0B HB.out dF;replace dG:=a0B HB.out dG;have mA:=a0D.mk iU;have pG:=a0D.mk iT;clear iU iT;have jA:=a0D.mk iW;have mB:=a0D.mk iV;clear iW iV;replace p164:=eq_true p164;replace q164:=eq_true q164;have p166:0≤(aA:Int):=zB0 qA0;have q166:aA < (aD.length:Int):=zB0 qA0;obtain ⟨ad166,rX,rY,rZ,sA,e166,eC,dH,dI,jB,jC,jD,jE⟩:=a5F cW.out aA p166 q166;have jF:=dI;have jG:=dH;have jH:=eC;obtain rfl:ad162 = ad166:=(by injection e166);replace eC:=a0B HB.out eC;replace dH:=a0B HB.out dH;replace dI:=a0B HB.out dI;have mC:=a0D.mk jC;have pH:=a0D.mk jB;clear jC jB;have mD:=a0D.mk jE;have pI:=a0D.mk jD;clear jE jD;replace p166:=eq_true p166;replace q166:=eq_true q166;have ea_:=zI0 (dF.symm.trans dH);injection ea_ with ea_ en_ ec_
      subst ea_;subst ec_;clear en_;have ea_:=zI0 (dG.symm.trans dI);injection ea_ with ea_ en_ ec_
      subst ea_;subst ec_;clear en_;refine a7Y (n:=18) (S:=fun w' =>w'.cell? ⟨fB,0,none⟩ = some (.slice (some ad162) aD.length bI)∧w'.cell? (ad162.add ((aA).toNat * 3)) = some (.string ((a0S aD aA).f0))∧w'.cell? ⟨(ad162.add ((aA).toNat * 3)).block,(ad162.add ((aA).toNat * 3)).off + 1,none⟩ = some (.slice lI ((a0S aD aA).f1).length lJ)∧w'.cell? ⟨(ad162.add ((aA).toNat * 3)).block,(ad162.add ((aA).toNat * 3)).off + 2,none⟩ = some (.slice iM ((a0S aD aA).f2).length iN)∧w'.cell? (ad162.add ((aA).toNat * 3)) = some (.string ((a0S aD aA).f0))∧w'.cell? ⟨(ad162.add ((aA).toNat * 3)).block,(ad162.add ((aA).toNat * 3)).off + 1,none⟩ = some (.slice lI ((a0S aD aA).f1).length lJ)∧w'.cell? ⟨(ad162.add ((aA).toNat * 3)).block,(ad162.add ((aA).toNat * 3)).off + 2,none⟩ = some (.slice iM ((a0S aD aA).f2).length iN)) (ds:=[]) #[false,false,false,false,false,false,false,false,false,false,false,false,false,false,false,false,false,false] qE0 rfl rfl ⟨(a0L bN.out 0).trans rfl,(a0B HB.out iZ),(a0B HB.out iY),(a0B HB.out iX),(a0B HB.out jH),(a0B HB.out jG),(a0B HB.out jF)⟩ (fun hHeld =>?_);refine a4L r03_Big.tab7 r03_Big.bits7 (fun HT_ HW_ =>?_);generalize w11.drew = w12 at bN HB mA jA mC mD eB dF dG eC dH dI hHeld ⊢;refine pz_ 0 (some 20) HT_.out rfl rfl (fun _ _ _ h =>h) (h:=?_);refine pz_ 1 (some 21) HT_.out rfl rfl (fun _ _ _ h =>h) (h:=?_);refine pz_ 3 (some 23) HT_.out rfl rfl (fun _ _ _ h =>h) (h:=?_);refine pz_ 8 (some 28) HT_.out rfl rfl (fun _ _ _ h =>h) (h:=?_);refine pz_ 10 (some 30) HT_.out rfl rfl (fun _ _ _ h =>h) (h:=?_);refine a5D (i:=2) (N:=some 22) (v:=?_) (a':=?_) #[true,true,true,true,false,false,false,false,true,false,true,false,false,false,false,false,false,false] rfl rfl (a2L HT_.out HW_.out qE0) (fun _ _ _ h =>h) (Or.inl ⟨by rfl,?_⟩) hHeld ?_ ?_;rotate_left
      ·rintro w' ⟨s0,s1,s2,s3,s4,s5,s6⟩;go_simp
       with_reducible rfl
      rotate_left
      ·simp only [Act.put,zC0,zG0,zH0,a1L,a1Q]
       rfl
      refine pz_ 4 (some 24) HT_.out rfl rfl (fun _ _ _ h =>h) (h:=?_);refine pz_ 5 (some 25) HT_.out rfl rfl (fun _ _ _ h =>h) (h:=?_);refine a5D (i:=6) (N:=some 26) (v:=?_) (a':=?_) #[true,true,true,true,true,true,true,false,true,false,true,false,false,false,false,false,false,false] rfl rfl (a2L HT_.out HW_.out qE0) (fun _ _ _ h =>h) (Or.inl ⟨by rfl,?_⟩) hHeld ?_ ?_;rotate_left
      ·rintro w' ⟨s0,s1,s2,s3,s4,s5,s6⟩;go_simp
       with_reducible rfl
      rotate_left
      ·simp only [Act.put,zC0,zG0,zH0,a1L,a1Q]
       rfl
      refine a5D (i:=9) (N:=some 29) (v:=?_) (a':=?_) #[true,true,true,true,true,true,true,false,true,true,true,false,false,false,false,false,false,false] rfl rfl (a2L HT_.out HW_.out qE0) (fun _ _ _ h =>h) (Or.inl ⟨by rfl,?_⟩) hHeld ?_ ?_;rotate_left
      ·rintro w' ⟨s0,s1,s2,s3,s4,s5,s6⟩;go_simp
       with_reducible rfl
      rotate_left
      ·simp only [Act.put,zC0,zG0,zH0,a1L,a1Q]
       rfl
      refine pz_ 11 (some 31) HT_.out rfl rfl (fun _ _ _ h =>h) (h:=?_);refine pz_ 12 (some 32) HT_.out rfl rfl (fun _ _ _ h =>h) (h:=?_);refine a5D (i:=13) (N:=some 33) (v:=?_) (a':=?_) #[true,true,true,true,true,true,true,false,true,true,true,true,true,true,false,false,false,false] rfl rfl (a2L HT_.out HW_.out qE0) (fun _ _ _ h =>h) (Or.inl ⟨by rfl,?_⟩) hHeld ?_ ?_;rotate_left
      ·rintro w' ⟨s0,s1,s2,s3,s4,s5,s6⟩;go_simp
       with_reducible rfl
      rotate_left
      ·simp only [Act.put,zC0,zG0,zH0,a1L,a1Q]
       rfl
      refine pz_ 14 (some 34) HT_.out rfl rfl (fun _ _ _ h =>h) (h:=?_);refine one_ (i:=7) (N:=some 27) #[true,true,true,true,true,true,true,true,true,true,true,true,true,true,true,false,false,false] rfl rfl (a3B HT_.out qE0) qF0 (fun K hK =>?_);refine a4P Tryz.func25 qE0 rfl #[.slice iM ((a0S aD aA).f2).length iN] qH1 rfl rfl qB0 ?_
      with_reducible refine (r03_Count.calls k1 _ _ ((a0S aD aA).f2) t165 _ ?side1 ?side2 A9.out).mono ?_
      (case side1 =>repeat (first | exact (Kd.a0H jA.out HB.out) | (with_reducible refine Kd.a1D ?_ _) | (with_reducible refine Kd.a1C ?_ _) | (with_reducible refine Kd.a1K ?_)))
      (case side2 =>exact mB.out)
      rintro e w13 ⟨rfl,hb⟩;refine ⟨_,rfl,?_⟩;have bZ:=a0D.mk (a0P (g:=fB) (o:=.cells #[.slice (some ad162) aD.length bI] 24 (0,0)) qJ1 hb);have cA:=a0D.mk (a0K qD1 hb);clear bN;clear HB;have bN:=bZ;have HB:=cA;clear bZ cA
      (try clear hb)
      (try clear hb2)
      (try clear hk)
      (try clear hi)
      refine hK.out _ _ ⟨(a0L bN.out 0).trans rfl,(a0B HB.out iZ),(a0B HB.out iY),(a0B HB.out iX),(a0B HB.out jH),(a0B HB.out jG),(a0B HB.out jF)⟩ (fun hHeld =>?_);clear hK K;refine a4M (a':=?_) ?_ ?_;rotate_left
      ·show Act.put _ (some 27) _ = _;simp only [Act.put,zC0,zG0,zH0,a1L,a1Q]
       rfl
      refine pz_ 15 (some 35) HT_.out rfl rfl (fun _ _ _ h =>h) (h:=?_);refine pz_ 16 (some 36) HT_.out rfl rfl (fun _ _ _ h =>h) (h:=?_);refine pz_ 17 (some 3) HT_.out rfl rfl (fun _ _ _ h =>h) (h:=?_);refine b2C (a6F HT_.out qE0) ?_
      try go_wp2
      go_roundg k1
      case measure =>have:=HK1.out;omega
      case rel =>exact ⟨(wrap64 (aC + (wrap64 (t165 + (((a0S aD aA).f1).length:Int))))),(wrap64 (aA + 1)),qH0,qH0,H',⟨by have:=HK1.out;omega⟩,⟨by (with_reducible repeat (first | refine a0N ?_ _ | refine a0O ?_ | refine a0J ?_ _));exact bN.out⟩,⟨by repeat (first | (with_reducible first | exact HB.out | apply a0C | apply a0A | apply a0E | refine a0F ?_ dZ.out) | exact HB.out)⟩⟩
    ·rw [if_neg c4] at H;exact absurd H qI0
   ·rw [if_neg c3] at H;have c3b0:decide (aA < (aD.length:Int)) = false:=zO0 c3;clear c3;by_cases c14:aC > 3000
    ·rw [if_pos c14] at H;have c14b0:decide (3000 < aC) = true:=zD0 c14;clear c14;obtain rfl:=zI0 H;have pJ:=cf1 bN.out;go_wp2;go_ret;exact qV3
    ·rw [if_neg c14] at H;have c14b0:decide (3000 < aC) = false:=zO0 c14;clear c14;obtain rfl:=zI0 H;have mE:=cf1 bN.out;go_wp2;go_ret;exact qV3
mutual
def r12_May.l0:Nat→List (List Int)→Int→Option (Bool)
 | 0,_,_ =>none
 | k + 1,x0,x3 =>if x3 < (x0.length:Int) then (r12_May.l1 k x0 x3 0) else (some (decide ((x0.length:Int)≤1000)))
def r12_May.l1:Nat→List (List Int)→Int→Int→Option (Bool)
 | 0,_,_,_ =>none
 | k + 1,x0,x3,x4 =>if 0≤x3 then (if x3 < (x0.length:Int) then (if x4 < ((a1A x0 x3).length:Int) then (if 0≤x4 then (if (rd (a1A x0 x3) x4) < 0 then (some false) else (if (rd (a1A x0 x3) x4) ≥ (x0.length:Int) then (some false) else (if x4 > 0 then (if 0≤(wrap64 (x4 - 1)) then (if (wrap64 (x4 - 1)) < ((a1A x0 x3).length:Int) then (if (rd (a1A x0 x3) (wrap64 (x4 - 1))) ≥ (rd (a1A x0 x3) x4) then (some false) else (r12_May.l1 k x0 x3 (wrap64 (x4 + 1)))) else (none)) else (none)) else (r12_May.l1 k x0 x3 (wrap64 (x4 + 1)))))) else (none)) else (r12_May.l0 k x0 (wrap64 (x3 + 1)))) else (none)) else (none)
end
def r12_May.f (k:Nat) (l0:List (List Int)):Option (Bool):=r12_May.l0 k l0 0
theorem r12_May.calls (k:Nat) (A0:Option Addr) (c0:Nat) (l0:List (List Int)) (r:Bool) (w:World) (hr0:Kd.C (Kd.slice 3 (Kd.int .i64)) w A0 l0.length l0) (hc0:l0.length≤c0) (h:r12_May.f k l0 = some r) :
    Calls Tryz.prog 36 #[.slice A0 l0.length c0] w fun e w' =>e = .returned (.bool r)∧a1B w w':=by
 have HR0:=a0D.mk hr0;have HC0:=a0D.mk hc0;clear hr0 hc0;have H:(r12_May.l0 k l0 0) = some r:=h;clear h;have H':=a0D.mk H;clear H;go_enter Tryz.func36,Tryz.ntmps36
 go_wp2
 repeat (go_quiet (fail);try go_wp2)
 go_loopg [3] k (fun kq v3 w' =>∃ (aC:Int),v3 = .int .i64 aC∧a0D (r12_May.l0 kq l0 aC = some r)∧a0D (kq≤k)∧a1B w w')
 case atStart =>exact ⟨(0),qH0,H',⟨zM0 _⟩,by repeat (first | exact a1B.refl _ | apply a1B.step)⟩
 case round =>
  clear H';obtain ⟨aC,rfl,HA,HK1,⟨m1,rfl⟩⟩:=hrel;cases gk with
  | zero =>exact absurd HA.out (by simp [r12_May.l0])
  | succ k1 =>
   have H:=HA.out;clear HA;simp only [r12_May.l0] at H;by_cases c2:aC < (l0.length:Int)
   ·rw [if_pos c2] at H;have c2b0:decide (aC < (l0.length:Int)) = true:=zD0 c2;clear c2;have H':=a0D.mk H;clear H;go_wp2
    repeat (go_quiet (fail);try go_wp2)
    go_loopg [4] k1 (fun kq v4 w' =>∃ (aK:Int),v4 = .int .i64 aK∧a0D (r12_May.l1 kq l0 aC aK = some r)∧a0D (kq≤k1)∧a1B w w')
    case atStart =>exact ⟨(0),qH0,H',⟨zM0 _⟩,by repeat (first | exact a1B.refl _ | apply a1B.step)⟩
    case round =>
     clear H';obtain ⟨aK,rfl,HA,HK2,⟨m2,rfl⟩⟩:=hrel;cases gk with
     | zero =>exact absurd HA.out (by simp [r12_May.l1])
     | succ k2 =>
      have H:=HA.out;clear HA;simp only [r12_May.l1] at H;by_cases c3:0≤aC
      ·rw [if_pos c3] at H;have c3b0:decide (0≤aC) = true:=zD0 c3;clear c3;by_cases c4:aC < (l0.length:Int)
       ·rw [if_pos c4] at H;have c4b0:decide (aC < (l0.length:Int)) = true:=zD0 c4;clear c4;by_cases c5:aK < ((a1A l0 aC).length:Int)
        ·rw [if_pos c5] at H;have c5b0:decide (aK < ((a1A l0 aC).length:Int)) = true:=zD0 c5;clear c5;by_cases c6:0≤aK
         ·rw [if_pos c6] at H;have c6b0:decide (0≤aK) = true:=zD0 c6;clear c6;by_cases c7:(rd (a1A l0 aC) aK) < 0
          ·rw [if_pos c7] at H;have c7b0:decide ((rd (a1A l0 aC) aK) < 0) = true:=zD0 c7;clear c7;obtain rfl:=zI0 H;have p168:0≤(aC:Int):=zB0 qA0;have q168:aC < (l0.length:Int):=zB0 qA0;obtain ⟨ad168,fC,fD,e168,aT,aU,aV⟩:=a4S HR0.out aC p168 q168;cases e168;have dJ:=a0D.mk aV;have dK:=a0D.mk aU;clear aV aU;replace p168:=eq_true p168;replace q168:=eq_true q168;have p169:0≤(aC:Int):=zB0 qA0;have q169:aC < (l0.length:Int):=zB0 qA0;obtain ⟨ad169,fN,fO,e169,bX,bE,bF⟩:=a4S HR0.out aC p169 q169;obtain rfl:ad168 = ad169:=(by injection e169);have bY:=a0D.mk bF;have eD:=a0D.mk bE;clear bF bE;replace p169:=eq_true p169;replace q169:=eq_true q169;have ea_:=zI0 (aT.symm.trans bX);injection ea_ with ea_ en_ ec_
           subst ea_;subst ec_;clear en_;have p170:0≤(aK:Int):=zB0 qA0;have q170:aK < ((a1A l0 aC).length:Int):=zB0 qA0;obtain ⟨ad170,e170,eE⟩:=Kd.a2R bY.out aK p170 q170;cases e170;replace p170:=eq_true p170;replace q170:=eq_true q170;go_wp2
           repeat (go_quiet (fail);try go_wp2)
           go_ret;exact qR3
          ·rw [if_neg c7] at H;have c7b0:decide ((rd (a1A l0 aC) aK) < 0) = false:=zO0 c7;clear c7;by_cases c8:(rd (a1A l0 aC) aK) ≥ (l0.length:Int)
           ·rw [if_pos c8] at H;have c8b0:decide ((l0.length:Int)≤(rd (a1A l0 aC) aK)) = true:=zD0 c8;clear c8;obtain rfl:=zI0 H;have p168:0≤(aC:Int):=zB0 qA0;have q168:aC < (l0.length:Int):=zB0 qA0;obtain ⟨ad168,fC,fD,e168,aT,aU,aV⟩:=a4S HR0.out aC p168 q168;cases e168;have dJ:=a0D.mk aV;have dK:=a0D.mk aU;clear aV aU;replace p168:=eq_true p168;replace q168:=eq_true q168;have p169:0≤(aC:Int):=zB0 qA0;have q169:aC < (l0.length:Int):=zB0 qA0;obtain ⟨ad169,fN,fO,e169,bX,bE,bF⟩:=a4S HR0.out aC p169 q169;obtain rfl:ad168 = ad169:=(by injection e169);have bY:=a0D.mk bF;have eD:=a0D.mk bE;clear bF bE;replace p169:=eq_true p169;replace q169:=eq_true q169;have ea_:=zI0 (aT.symm.trans bX);injection ea_ with ea_ en_ ec_
            subst ea_;subst ec_;clear en_;have p170:0≤(aK:Int):=zB0 qA0;have q170:aK < ((a1A l0 aC).length:Int):=zB0 qA0;obtain ⟨ad170,e170,eE⟩:=Kd.a2R bY.out aK p170 q170;cases e170;replace p170:=eq_true p170;replace q170:=eq_true q170;have p171:0≤(aC:Int):=zB0 qA0;have q171:aC < (l0.length:Int):=zB0 qA0;obtain ⟨ad171,iO,iP,e171,cD,bP,bQ⟩:=a4S HR0.out aC p171 q171;obtain rfl:ad168 = ad171:=(by injection e171);have cE:=a0D.mk bQ;have fP:=a0D.mk bP;clear bQ bP;replace p171:=eq_true p171;replace q171:=eq_true q171;have ea_:=zI0 (aT.symm.trans cD);injection ea_ with ea_ en_ ec_
            subst ea_;subst ec_;clear en_;have p172:0≤(aK:Int):=zB0 qA0;have q172:aK < ((a1A l0 aC).length:Int):=zB0 qA0;obtain ⟨ad172,e172,fQ⟩:=Kd.a2R cE.out aK p172 q172;cases e172;replace p172:=eq_true p172;replace q172:=eq_true q172;go_wp2
            repeat (go_quiet (fail);try go_wp2)
            go_ret;exact qR3
           ·rw [if_neg c8] at H;have c8b0:decide ((l0.length:Int)≤(rd (a1A l0 aC) aK)) = false:=zO0 c8;clear c8;by_cases c9:aK > 0
            ·rw [if_pos c9] at H;have c9b0:decide (0 < aK) = true:=zD0 c9;clear c9;obtain ⟨ji10,hji10⟩:∃ j_:Int,(wrap64 (aK - 1)) = j_:=⟨_,rfl⟩;replace H:(if 0≤(ji10) then (if (ji10) < ((a1A l0 aC).length:Int) then (if (rd (a1A l0 aC) (ji10)) ≥ (rd (a1A l0 aC) aK) then (some false) else (r12_May.l1 k2 l0 aC (wrap64 (aK + 1)))) else (none)) else (none)) = some r:=by first | (rw [hji10] at H;exact H) | (simp only [hji10] at H ⊢;exact H)
             have hji10w:(IntKind.i64.wrap (aK - 1)) = ji10:=(a1L _).trans hji10;by_cases c11:0≤(ji10)
             ·rw [if_pos c11] at H;have c11b0:decide (0≤(ji10)) = true:=zD0 c11;clear c11;by_cases c12:(ji10) < ((a1A l0 aC).length:Int)
              ·rw [if_pos c12] at H;have c12b0:decide ((ji10) < ((a1A l0 aC).length:Int)) = true:=zD0 c12;clear c12;by_cases c13:(rd (a1A l0 aC) (ji10)) ≥ (rd (a1A l0 aC) aK)
               ·rw [if_pos c13] at H;have c13b0:decide ((rd (a1A l0 aC) aK)≤(rd (a1A l0 aC) (ji10))) = true:=zD0 c13;clear c13;obtain rfl:=zI0 H;have p168:0≤(aC:Int):=zB0 qA0;have q168:aC < (l0.length:Int):=zB0 qA0;obtain ⟨ad168,fC,fD,e168,aT,aU,aV⟩:=a4S HR0.out aC p168 q168;cases e168;have dJ:=a0D.mk aV;have dK:=a0D.mk aU;clear aV aU;replace p168:=eq_true p168;replace q168:=eq_true q168;have p169:0≤(aC:Int):=zB0 qA0;have q169:aC < (l0.length:Int):=zB0 qA0;obtain ⟨ad169,fN,fO,e169,bX,bE,bF⟩:=a4S HR0.out aC p169 q169;obtain rfl:ad168 = ad169:=(by injection e169);have bY:=a0D.mk bF;have eD:=a0D.mk bE;clear bF bE;replace p169:=eq_true p169;replace q169:=eq_true q169;have ea_:=zI0 (aT.symm.trans bX);injection ea_ with ea_ en_ ec_
                subst ea_;subst ec_;clear en_;have p170:0≤(aK:Int):=zB0 qA0;have q170:aK < ((a1A l0 aC).length:Int):=zB0 qA0;obtain ⟨ad170,e170,eE⟩:=Kd.a2R bY.out aK p170 q170;cases e170;replace p170:=eq_true p170;replace q170:=eq_true q170;have p171:0≤(aC:Int):=zB0 qA0;have q171:aC < (l0.length:Int):=zB0 qA0;obtain ⟨ad171,iO,iP,e171,cD,bP,bQ⟩:=a4S HR0.out aC p171 q171;obtain rfl:ad168 = ad171:=(by injection e171);have cE:=a0D.mk bQ;have fP:=a0D.mk bP;clear bQ bP;replace p171:=eq_true p171;replace q171:=eq_true q171;have ea_:=zI0 (aT.symm.trans cD);injection ea_ with ea_ en_ ec_
                subst ea_;subst ec_;clear en_;have p172:0≤(aK:Int):=zB0 qA0;have q172:aK < ((a1A l0 aC).length:Int):=zB0 qA0;obtain ⟨ad172,e172,fQ⟩:=Kd.a2R cE.out aK p172 q172;cases e172;replace p172:=eq_true p172;replace q172:=eq_true q172;have p173:0≤(aC:Int):=zB0 qA0;have q173:aC < (l0.length:Int):=zB0 qA0;obtain ⟨ad173,nO,nP,e173,fR,dL,dM⟩:=a4S HR0.out aC p173 q173;obtain rfl:ad168 = ad173:=(by injection e173);have fS:=a0D.mk dM;have mF:=a0D.mk dL;clear dM dL;replace p173:=eq_true p173;replace q173:=eq_true q173;have ea_:=zI0 (aT.symm.trans fR);injection ea_ with ea_ en_ ec_
                subst ea_;subst ec_;clear en_;have p174:0≤((ji10):Int):=zB0 qA0;have q174:(ji10) < ((a1A l0 aC).length:Int):=zB0 qA0;obtain ⟨ad174,e174,mG⟩:=Kd.a2R fS.out (ji10) p174 q174;cases e174;replace p174:=eq_true p174;replace q174:=eq_true q174;have p175:0≤(aC:Int):=zB0 qA0;have q175:aC < (l0.length:Int):=zB0 qA0;obtain ⟨ad175,nQ,nS,e175,fT,dN,dO⟩:=a4S HR0.out aC p175 q175;obtain rfl:ad168 = ad175:=(by injection e175);have fU:=a0D.mk dO;have mH:=a0D.mk dN;clear dO dN;replace p175:=eq_true p175;replace q175:=eq_true q175;have ea_:=zI0 (aT.symm.trans fT);injection ea_ with ea_ en_ ec_
                subst ea_;subst ec_;clear en_;have p176:0≤(aK:Int):=zB0 qA0;have q176:aK < ((a1A l0 aC).length:Int):=zB0 qA0;obtain ⟨ad176,e176,mI⟩:=Kd.a2R fU.out aK p176 q176;cases e176;replace p176:=eq_true p176;replace q176:=eq_true q176;go_wp2
                repeat (go_quiet (fail);try go_wp2)
                go_ret;exact ⟨by first | rfl | (simp;done) | (simp only [← hji10] <;> (first | rfl | simp)) | (simp [*];done),by repeat (first | exact a1B.refl _ | apply a1B.step)⟩
               ·rw [if_neg c13] at H;have c13b0:decide ((rd (a1A l0 aC) aK)≤(rd (a1A l0 aC) (ji10))) = false:=zO0 c13;clear c13;have H':=a0D.mk H;clear H;have p168:0≤(aC:Int):=zB0 qA0;have q168:aC < (l0.length:Int):=zB0 qA0;obtain ⟨ad168,fC,fD,e168,aT,aU,aV⟩:=a4S HR0.out aC p168 q168;cases e168;have dJ:=a0D.mk aV;have dK:=a0D.mk aU;clear aV aU;replace p168:=eq_true p168;replace q168:=eq_true q168;have p169:0≤(aC:Int):=zB0 qA0;have q169:aC < (l0.length:Int):=zB0 qA0;obtain ⟨ad169,fN,fO,e169,bX,bE,bF⟩:=a4S HR0.out aC p169 q169;obtain rfl:ad168 = ad169:=(by injection e169);have bY:=a0D.mk bF;have eD:=a0D.mk bE;clear bF bE;replace p169:=eq_true p169;replace q169:=eq_true q169;have ea_:=zI0 (aT.symm.trans bX);injection ea_ with ea_ en_ ec_
                subst ea_;subst ec_;clear en_;have p170:0≤(aK:Int):=zB0 qA0;have q170:aK < ((a1A l0 aC).length:Int):=zB0 qA0;obtain ⟨ad170,e170,eE⟩:=Kd.a2R bY.out aK p170 q170;cases e170;replace p170:=eq_true p170;replace q170:=eq_true q170;have p171:0≤(aC:Int):=zB0 qA0;have q171:aC < (l0.length:Int):=zB0 qA0;obtain ⟨ad171,iO,iP,e171,cD,bP,bQ⟩:=a4S HR0.out aC p171 q171;obtain rfl:ad168 = ad171:=(by injection e171);have cE:=a0D.mk bQ;have fP:=a0D.mk bP;clear bQ bP;replace p171:=eq_true p171;replace q171:=eq_true q171;have ea_:=zI0 (aT.symm.trans cD);injection ea_ with ea_ en_ ec_
                subst ea_;subst ec_;clear en_;have p172:0≤(aK:Int):=zB0 qA0;have q172:aK < ((a1A l0 aC).length:Int):=zB0 qA0;obtain ⟨ad172,e172,fQ⟩:=Kd.a2R cE.out aK p172 q172;cases e172;replace p172:=eq_true p172;replace q172:=eq_true q172;have p173:0≤(aC:Int):=zB0 qA0;have q173:aC < (l0.length:Int):=zB0 qA0;obtain ⟨ad173,nO,nP,e173,fR,dL,dM⟩:=a4S HR0.out aC p173 q173;obtain rfl:ad168 = ad173:=(by injection e173);have fS:=a0D.mk dM;have mF:=a0D.mk dL;clear dM dL;replace p173:=eq_true p173;replace q173:=eq_true q173;have ea_:=zI0 (aT.symm.trans fR);injection ea_ with ea_ en_ ec_
                subst ea_;subst ec_;clear en_;have p174:0≤((ji10):Int):=zB0 qA0;have q174:(ji10) < ((a1A l0 aC).length:Int):=zB0 qA0;obtain ⟨ad174,e174,mG⟩:=Kd.a2R fS.out (ji10) p174 q174;cases e174;replace p174:=eq_true p174;replace q174:=eq_true q174;have p175:0≤(aC:Int):=zB0 qA0;have q175:aC < (l0.length:Int):=zB0 qA0;obtain ⟨ad175,nQ,nS,e175,fT,dN,dO⟩:=a4S HR0.out aC p175 q175;obtain rfl:ad168 = ad175:=(by injection e175);have fU:=a0D.mk dO;have mH:=a0D.mk dN;clear dO dN;replace p175:=eq_true p175;replace q175:=eq_true q175;have ea_:=zI0 (aT.symm.trans fT);injection ea_ with ea_ en_ ec_
                subst ea_;subst ec_;clear en_;have p176:0≤(aK:Int):=zB0 qA0;have q176:aK < ((a1A l0 aC).length:Int):=zB0 qA0;obtain ⟨ad176,e176,mI⟩:=Kd.a2R fU.out aK p176 q176;cases e176;replace p176:=eq_true p176;replace q176:=eq_true q176;go_wp2
                repeat (go_quiet (fail);try go_wp2)
                go_roundg k2
                case measure =>have:=HK1.out;have:=HK2.out;omega
                case rel =>exact ⟨(wrap64 (aK + 1)),qH0,H',⟨by have:=HK1.out;have:=HK2.out;omega⟩,by repeat (first | exact a1B.refl _ | apply a1B.step)⟩
              ·rw [if_neg c12] at H;exact absurd H qI0
             ·rw [if_neg c11] at H;exact absurd H qI0
            ·rw [if_neg c9] at H;have c9b0:decide (0 < aK) = false:=zO0 c9;clear c9;have H':=a0D.mk H;clear H;have p168:0≤(aC:Int):=zB0 qA0;have q168:aC < (l0.length:Int):=zB0 qA0;obtain ⟨ad168,fC,fD,e168,aT,aU,aV⟩:=a4S HR0.out aC p168 q168;cases e168;have dJ:=a0D.mk aV;have dK:=a0D.mk aU;clear aV aU;replace p168:=eq_true p168;replace q168:=eq_true q168;have p169:0≤(aC:Int):=zB0 qA0;have q169:aC < (l0.length:Int):=zB0 qA0;obtain ⟨ad169,fN,fO,e169,bX,bE,bF⟩:=a4S HR0.out aC p169 q169;obtain rfl:ad168 = ad169:=(by injection e169);have bY:=a0D.mk bF;have eD:=a0D.mk bE;clear bF bE;replace p169:=eq_true p169;replace q169:=eq_true q169;have ea_:=zI0 (aT.symm.trans bX);injection ea_ with ea_ en_ ec_
             subst ea_;subst ec_;clear en_;have p170:0≤(aK:Int):=zB0 qA0;have q170:aK < ((a1A l0 aC).length:Int):=zB0 qA0;obtain ⟨ad170,e170,eE⟩:=Kd.a2R bY.out aK p170 q170;cases e170;replace p170:=eq_true p170;replace q170:=eq_true q170;have p171:0≤(aC:Int):=zB0 qA0;have q171:aC < (l0.length:Int):=zB0 qA0;obtain ⟨ad171,iO,iP,e171,cD,bP,bQ⟩:=a4S HR0.out aC p171 q171;obtain rfl:ad168 = ad171:=(by injection e171);have cE:=a0D.mk bQ;have fP:=a0D.mk bP;clear bQ bP;replace p171:=eq_true p171;replace q171:=eq_true q171;have ea_:=zI0 (aT.symm.trans cD);injection ea_ with ea_ en_ ec_
             subst ea_;subst ec_;clear en_;have p172:0≤(aK:Int):=zB0 qA0;have q172:aK < ((a1A l0 aC).length:Int):=zB0 qA0;obtain ⟨ad172,e172,fQ⟩:=Kd.a2R cE.out aK p172 q172;cases e172;replace p172:=eq_true p172;replace q172:=eq_true q172;go_wp2
             repeat (go_quiet (fail);try go_wp2)
             go_roundg k2
             case measure =>have:=HK1.out;have:=HK2.out;omega
             case rel =>exact ⟨(wrap64 (aK + 1)),qH0,H',⟨by have:=HK1.out;have:=HK2.out;omega⟩,by repeat (first | exact a1B.refl _ | apply a1B.step)⟩
         ·rw [if_neg c6] at H;exact absurd H qI0
        ·rw [if_neg c5] at H;have c5b0:decide (aK < ((a1A l0 aC).length:Int)) = false:=zO0 c5;clear c5;have H':=a0D.mk H;clear H;have p168:0≤(aC:Int):=zB0 qA0;have q168:aC < (l0.length:Int):=zB0 qA0;obtain ⟨ad168,fC,fD,e168,aT,aU,aV⟩:=a4S HR0.out aC p168 q168;cases e168;have dJ:=a0D.mk aV;have dK:=a0D.mk aU;clear aV aU;replace p168:=eq_true p168;replace q168:=eq_true q168;go_wp2
         repeat (go_quiet (fail);try go_wp2)
         go_roundg k2
         case measure =>have:=HK1.out;have:=HK2.out;omega
         case rel =>exact ⟨(wrap64 (aC + 1)),qH0,H',⟨by have:=HK1.out;have:=HK2.out;omega⟩,by repeat (first | exact a1B.refl _ | apply a1B.step)⟩
       ·rw [if_neg c4] at H;exact absurd H qI0
      ·rw [if_neg c3] at H;exact absurd H qI0
   ·rw [if_neg c2] at H;have c2b0:decide (aC < (l0.length:Int)) = false:=zO0 c2;clear c2;obtain rfl:=zI0 H;go_wp2
    repeat (go_quiet (fail);try go_wp2)
    go_ret;exact qR3
mutual
def r12_Reach.j0:Nat→List (List Int)→Int→Bool→Option (List Int)
 | 0,_,_,_ =>none
 | k + 1,x0,x1,x25 =>if x25 = true then (some ([]:List Int)) else (r12_Reach.l0 k x0 x1 (([]:List Bool)) 0)
def r12_Reach.l0:Nat→List (List Int)→Int→List Bool→Int→Option (List Int)
 | 0,_,_,_,_ =>none
 | k + 1,x0,x1,x5,x6 =>if x6 < (x0.length:Int) then (if x5.length < 140737488355328 then (r12_Reach.l0 k x0 x1 (x5 ++ [(x6 == x1)]) (wrap64 (x6 + 1))) else (none)) else (r12_Reach.l1 k x0 x5 0)
def r12_Reach.j5:Nat→List (List Int)→List Bool→Option (List Int)
 | 0,_,_ =>none
 | k + 1,x0,x5 =>r12_Reach.l4 k x0 x5 (([]:List Int)) 0
def r12_Reach.l4:Nat→List (List Int)→List Bool→List Int→Int→Option (List Int)
 | 0,_,_,_,_ =>none
 | k + 1,x0,x5,x11,x12 =>if x12 < (x0.length:Int) then (if 0≤x12 then (if x12 < (x5.length:Int) then (if rdOf false x5 x12 = true then (if x11.length < 17592186044416 then (r12_Reach.l4 k x0 x5 (x11 ++ [x12]) (wrap64 (x12 + 1))) else (none)) else (r12_Reach.l4 k x0 x5 x11 (wrap64 (x12 + 1)))) else (none)) else (none)) else (some x11)
def r12_Reach.l1:Nat→List (List Int)→List Bool→Int→Option (List Int)
 | 0,_,_,_ =>none
 | k + 1,x0,x5,x7 =>if x7 < (x0.length:Int) then (r12_Reach.l2 k x0 x5 x7 false 0) else (r12_Reach.j5 k x0 x5)
def r12_Reach.l2:Nat→List (List Int)→List Bool→Int→Bool→Int→Option (List Int)
 | 0,_,_,_,_,_ =>none
 | k + 1,x0,x5,x7,x8,x9 =>if x9 < (x0.length:Int) then (r12_Reach.l3 k x0 x5 x7 x8 x9 0) else (if x8 = true then (r12_Reach.l1 k x0 x5 (wrap64 (x7 + 1))) else (r12_Reach.j5 k x0 x5))
def r12_Reach.l3:Nat→List (List Int)→List Bool→Int→Bool→Int→Int→Option (List Int)
 | 0,_,_,_,_,_,_ =>none
 | k + 1,x0,x5,x7,x8,x9,x10 =>if 0≤x9 then (if x9 < (x0.length:Int) then (if x10 < ((a1A x0 x9).length:Int) then (if x9 < (x5.length:Int) then (if rdOf false x5 x9 = true then (if x8 = true then (if 0≤x10 then (if 0≤(rd (a1A x0 x9) x10) then (if (rd (a1A x0 x9) x10) < (x5.length:Int) then (r12_Reach.l3 k x0 (x5.set ((rd (a1A x0 x9) x10):Int).toNat true) x7 true x9 (wrap64 (x10 + 1))) else (none)) else (none)) else (none)) else (if 0≤x10 then (if 0≤(rd (a1A x0 x9) x10) then (if (rd (a1A x0 x9) x10) < (x5.length:Int) then (r12_Reach.l3 k x0 (x5.set ((rd (a1A x0 x9) x10):Int).toNat true) x7 (!(rdOf false x5 (rd (a1A x0 x9) x10))) x9 (wrap64 (x10 + 1))) else (none)) else (none)) else (none))) else (r12_Reach.l2 k x0 x5 x7 x8 (wrap64 (x9 + 1)))) else (none)) else (r12_Reach.l2 k x0 x5 x7 x8 (wrap64 (x9 + 1)))) else (none)) else (none)
end
def r12_Reach.f (k:Nat) (l0:List (List Int)) (a1:Int):Option (List Int):=(r12_May.f k l0).bind fun t177 =>(if t177 = true then (if a1 < 0 then (r12_Reach.j0 k l0 a1 true) else (r12_Reach.j0 k l0 a1 (decide (a1 ≥ (l0.length:Int))))) else (r12_Reach.j0 k l0 a1 true))
theorem r12_Reach.calls (k:Nat) (A0:Option Addr) (c0:Nat) (l0:List (List Int)) (a1:Int) (r:List Int) (w:World) (hr0:Kd.C (Kd.slice 3 (Kd.int .i64)) w A0 l0.length l0) (hc0:l0.length≤c0) (h:r12_Reach.f k l0 a1 = some r) :
    Calls Tryz.prog 21 #[.slice A0 l0.length c0,.int .i64 a1] w fun e w' =>∃ v0_:Value,e = .returned (v0_)∧Kd.R (Kd.int .i64) 3 w' w.heap.size (fun _ =>True) v0_ r∧Below w.heap.size w w':=by
 have HR0:=a0D.mk hr0;have HC0:=a0D.mk hc0;clear hr0 hc0;have HB:=a0D.mk (zL0 w.heap.size w);have H:((r12_May.f k l0).bind fun t177 =>(if t177 = true then (if a1 < 0 then (r12_Reach.j0 k l0 a1 true) else (r12_Reach.j0 k l0 a1 (decide (a1 ≥ (l0.length:Int))))) else (r12_Reach.j0 k l0 a1 true))) = some r:=h;clear h;have HC3:=a0D.mk H;clear H;go_enter Tryz.func21,Tryz.ntmps21
 go_upto_region 1 with (fail)
 go_cut [25] (fun v25 wc =>∃ (kq:Nat) (jI:Bool),v25 = .bool jI∧a0D (r12_Reach.j0 kq l0 a1 jI = some r)∧a0D (kq≤k)∧a0D (Below w.heap.size w wc))
 case first =>
  have H:=HC3.out;clear HC3;obtain ⟨t177,A4,H⟩:=ob_ H;by_cases c5:t177 = true
  ·subst c5;rw [if_pos rfl] at H;by_cases c6:a1 < 0
   ·rw [if_pos c6] at H;have c6b0:decide (a1 < 0) = true:=zD0 c6;clear c6
    (first | rw [c6b0] | (simp only [a1L,a1Q];rw [c6b0]) | skip)
    have H':=a0D.mk H;clear H;go_wp2_with (first | ((with_reducible refine a0Y (f:=36) rfl ?_);refine a2F (some 14) rfl rfl Tryz.func36 qE0 rfl #[.slice A0 l0.length c0] rfl qB0 ?_;(with_reducible refine (r12_May.calls k _ _ l0 true _ ?side1 ?side2 A4.out).mono ?_);(case side1 =>repeat (first | exact (Kd.a0H HR0.out HB.out) | (with_reducible refine Kd.a1D ?_ _) | (with_reducible refine Kd.a1C ?_ _) | (with_reducible refine Kd.a1K ?_)));(case side2 =>exact HC0.out);rintro e w' ⟨rfl,⟨nd,rfl⟩⟩;refine ⟨_,rfl,?_⟩));go_meet
    case rel =>exact ⟨_,(true),qH0,H',⟨by first | omega | exact zM0 _⟩,⟨by repeat (first | (with_reducible first | exact HB.out | apply a0C | apply a0A | apply a0E) | exact HB.out)⟩⟩
   ·rw [if_neg c6] at H;have c6b0:decide (a1 < 0) = false:=zO0 c6;clear c6
    (first | rw [c6b0] | (simp only [a1L,a1Q];rw [c6b0]) | skip)
    have H':=a0D.mk H;clear H;go_wp2_with (first | ((with_reducible refine a0Y (f:=36) rfl ?_);refine a2F (some 14) rfl rfl Tryz.func36 qE0 rfl #[.slice A0 l0.length c0] rfl qB0 ?_;(with_reducible refine (r12_May.calls k _ _ l0 true _ ?side1 ?side2 A4.out).mono ?_);(case side1 =>repeat (first | exact (Kd.a0H HR0.out HB.out) | (with_reducible refine Kd.a1D ?_ _) | (with_reducible refine Kd.a1C ?_ _) | (with_reducible refine Kd.a1K ?_)));(case side2 =>exact HC0.out);rintro e w' ⟨rfl,⟨nd,rfl⟩⟩;refine ⟨_,rfl,?_⟩));go_meet
    case rel =>exact ⟨_,(decide (a1 ≥ (l0.length:Int))),qH0,H',⟨by first | omega | exact zM0 _⟩,⟨by repeat (first | (with_reducible first | exact HB.out | apply a0C | apply a0A | apply a0E) | exact HB.out)⟩⟩
  ·replace c5:=Bool.eq_false_iff.mpr c5;subst c5;rw [if_neg (show ¬ (false = true) by decide)] at H;have H':=a0D.mk H;clear H;go_wp2_with (first | ((with_reducible refine a0Y (f:=36) rfl ?_);refine a2F (some 14) rfl rfl Tryz.func36 qE0 rfl #[.slice A0 l0.length c0] rfl qB0 ?_;(with_reducible refine (r12_May.calls k _ _ l0 false _ ?side1 ?side2 A4.out).mono ?_);(case side1 =>repeat (first | exact (Kd.a0H HR0.out HB.out) | (with_reducible refine Kd.a1D ?_ _) | (with_reducible refine Kd.a1C ?_ _) | (with_reducible refine Kd.a1K ?_)));(case side2 =>exact HC0.out);rintro e w' ⟨rfl,⟨nd,rfl⟩⟩;refine ⟨_,rfl,?_⟩));go_meet
   case rel =>exact ⟨_,(true),qH0,H',⟨by first | omega | exact zM0 _⟩,⟨by repeat (first | (with_reducible first | exact HB.out | apply a0C | apply a0A | apply a0E) | exact HB.out)⟩⟩
 case rest =>
  clear HC3;obtain ⟨kq,jI,rfl,HA,HJ2,HB⟩:=hcut;cases kq with
  | zero =>exact absurd HA.out (by simp [r12_Reach.j0])
  | succ kj2 =>
   have H:=HA.out;clear HA;simp only [r12_Reach.j0] at H;by_cases c7:jI = true
   ·subst c7;rw [if_pos rfl] at H;obtain rfl:=zI0 H;go_wp2;go_ret;exact ⟨_,by first | rfl | (simp [a0X,a0W] <;> rfl) | (simp [*,a0X,a0W] <;> rfl),by first | exact Kd.b0A _ _ _ _ _ | exact Kd.c3Y _ _ _ _ _ | exact Kd.V_nil _ _ _ _ _ | exact Kd.Q_nil _ _ _ _ _ | exact Kd.S_nil _ _ _ _ _,by repeat (first | (with_reducible first | exact HB.out | apply a0C | apply a0A | apply a0E) | exact HB.out)⟩
   ·replace c7:=Bool.eq_false_iff.mpr c7;subst c7;rw [if_neg (show ¬ (false = true) by decide)] at H;obtain ⟨y178,hy178⟩:∃ y_:List Bool,y_ = (([]:List Bool)):=⟨_,rfl⟩;replace H:(r12_Reach.l0 kj2 l0 a1 y178 0) = some r:=by first | (rw [hy178];with_reducible exact H) | (have H2_:=(zN0 _ _).symm.trans H;rw [hy178];with_reducible exact H2_) | (have H2_:=(zN0 _ _).symm.trans H;with_reducible exact H2_) | with_reducible exact H | (rw [hy178];exact H) | exact H
    have Ny178:=a0D.mk hy178;clear hy178;have H':=a0D.mk H;clear H;go_wp2_with (first | ((with_reducible refine a0T (N:=26) rfl ?_);(try (refine a3D qH1 ?_;dsimp only));refine Kd.b1W Kd.bool _ 4 ?hg (N:=26) ?hd (xs:=([]:List Bool)) (inner:=[]) (ok:=fun _ =>True) (okp:=fun _ =>True) ?hr ?hp (fun _ hk =>hk) trivial (zL0 _ _) (zM0 _) qI0 ?_;(case hd =>rfl);(case hg =>rfl);(case hr =>first | (go_simp;done) | (go_simp;rfl));(case hp =>exact (Reps.none _ _));intro v179 w8 ho9 hb hg_ hnew_;clear hg_ hnew_;(first | rw [← Ny178.out] at ho9 | (simp only [Int.reduceToNat] at ho9;rw [← Ny178.out] at ho9));have HO180:=a0D.mk (Kd.a2H ho9 (a0R qC0));replace HB:=a0D.mk (a0K qC0 hb);clear hb ho9));go_loopg [5,6] kj2 (fun kq v5 v6 w' =>∃ (cG:List Bool) (bU:Int),v6 = .int .i64 bU∧a0D (r12_Reach.l0 kq l0 a1 cG bU = some r)∧a0D (kq≤kj2)∧a0D (Kd.R Kd.bool 4 w' w.heap.size (fun _ =>True) v5 cG)∧a0D (Below w.heap.size w w'))
    case atStart =>exact ⟨(y178),(0),qH0,H',⟨zM0 _⟩,⟨by (with_reducible repeat (first | apply Kd.a0V | apply Kd.a0Z | apply Kd.a1F));exact HO180.out⟩,⟨by repeat (first | (with_reducible first | exact HB.out | apply a0C | apply a0A | apply a0E) | exact HB.out)⟩⟩
    case round =>
     clear H';obtain ⟨cG,bU,rfl,HA,HK2,aM,HB⟩:=hrel;cases gk with
     | zero =>exact absurd HA.out (by simp [r12_Reach.l0])
     | succ k2 =>
      have H:=HA.out;clear HA;simp only [r12_Reach.l0] at H;by_cases c10:bU < (l0.length:Int)
      ·rw [if_pos c10] at H;have c10b0:decide (bU < (l0.length:Int)) = true:=zD0 c10;clear c10;by_cases c11:cG.length < 140737488355328
       ·rw [if_pos c11] at H;have LMc11:=a0D.mk c11;clear c11;obtain ⟨y181,hy181⟩:∃ y_:List Bool,y_ = (cG ++ [(bU == a1)]):=⟨_,rfl⟩;replace H:(r12_Reach.l0 k2 l0 a1 y181 (wrap64 (bU + 1))) = some r:=by first | (rw [hy181];with_reducible exact H) | (have H2_:=(zN0 _ _).symm.trans H;rw [hy181];with_reducible exact H2_) | (have H2_:=(zN0 _ _).symm.trans H;with_reducible exact H2_) | with_reducible exact H | (rw [hy181];exact H) | exact H
        have Ny181:=a0D.mk hy181;clear hy181;have H':=a0D.mk H;clear H;go_wp2_with (first | ((with_reducible refine a1I (b:=.append) (xs:=#[.tmp 33,.tmp 37]) rfl ?_);(try (refine a3D qH1 ?_;dsimp only));at_builtin;refine Kd.a2Y Kd.bool (w0:=w) w.heap.size rfl (.tmp 33) (.tmp 37) 71 4 (.bool false) 1 rfl Tryz.underlying71 info4 rfl qF0 qD0 u5 cG (bU == a1) [.bool (bU == a1)] (fun _ =>True) (fun _ =>False) rfl rfl ?aP (fun _ hk =>hk.elim) ?aF ?aO ?aB ?aS ?aL ?_;(case aP =>exact rfl);(case aB =>exact qC0);(case aF =>exact (fun _ _ =>trivial));(case aO =>exact qS0);(case aS =>exact (a0R qC0));(case aL =>have:=LMc11.out;omega);intro v182 w12 ho hb hg hat;rw [← Ny181.out] at ho;have bZ:=a0D.mk (hb);have cA:=a0D.mk (ho);clear HB;clear aM;have HB:=bZ;have HO183:=cA;clear bZ cA;clear ho hb hg hat));go_roundg k2
        case measure =>have:=HJ2.out;have:=HK2.out;omega
        case rel =>exact ⟨(y181),(wrap64 (bU + 1)),qH0,H',⟨by have:=HJ2.out;have:=HK2.out;omega⟩,⟨by (with_reducible repeat (first | apply Kd.a0V | apply Kd.a0Z | apply Kd.a1F));exact HO183.out⟩,⟨by repeat (first | (with_reducible first | exact HB.out | apply a0C | apply a0A | apply a0E) | exact HB.out)⟩⟩
       ·rw [if_neg c11] at H;exact absurd H qI0
      ·rw [if_neg c10] at H;have c10b0:decide (bU < (l0.length:Int)) = false:=zO0 c10;clear c10;have HC13:=a0D.mk H;clear H
       go_upto_block 2 with (fail)
       go_cut [] (fun wc =>∃ (kq:Nat) (cC:List Bool),a0D (r12_Reach.j5 kq l0 cC = some r)∧a0D (kq≤k2)∧a0D (Kd.R Kd.bool 4 wc w.heap.size (fun _ =>True) u5 cC)∧a0D (Below w.heap.size w wc))
       case first =>
        have H:=HC13.out;clear HC13;have H':=a0D.mk H;clear H;go_wp2;go_loopg [7] k2 (fun kq v7 w' =>∃ (lK:List Bool) (dP:Int),v7 = .int .i64 dP∧a0D (r12_Reach.l1 kq l0 lK dP = some r)∧a0D (kq≤k2)∧a0D (Kd.R Kd.bool 4 w' w.heap.size (fun _ =>True) u5 lK)∧a0D (Below w.heap.size w w'))
        case atStart =>exact ⟨(cG),(0),qH0,H',⟨zM0 _⟩,⟨by (with_reducible repeat (first | apply Kd.a0V | apply Kd.a0Z | apply Kd.a1F));exact aM.out⟩,⟨by repeat (first | (with_reducible first | exact HB.out | apply a0C | apply a0A | apply a0E) | exact HB.out)⟩⟩
        case round =>
         clear H';obtain ⟨lK,dP,rfl,HA,HK3,aM,HB⟩:=hrel;cases gk with
         | zero =>exact absurd HA.out (by simp [r12_Reach.l1])
         | succ k3 =>
          have H:=HA.out;clear HA;simp only [r12_Reach.l1] at H;by_cases c14:dP < (l0.length:Int)
          ·rw [if_pos c14] at H;have c14b0:decide (dP < (l0.length:Int)) = true:=zD0 c14;clear c14
           (first | rw [c14b0] | (simp only [a1L,a1Q];rw [c14b0]) | skip)
           have H':=a0D.mk H;clear H;go_wp2;go_loopg [8,9] k3 (fun kq v8 v9 w' =>∃ (lH:List Bool) (lL:Bool) (aG:Int),v8 = .bool lL∧v9 = .int .i64 aG∧a0D (r12_Reach.l2 kq l0 lH dP lL aG = some r)∧a0D (kq≤k3)∧a0D (Kd.R Kd.bool 4 w' w.heap.size (fun _ =>True) u5 lH)∧a0D (Below w.heap.size w w'))
           case atStart =>exact ⟨(lK),(false),(0),qH0,qH0,H',⟨zM0 _⟩,⟨by (with_reducible repeat (first | apply Kd.a0V | apply Kd.a0Z | apply Kd.a1F));exact aM.out⟩,⟨by repeat (first | (with_reducible first | exact HB.out | apply a0C | apply a0A | apply a0E) | exact HB.out)⟩⟩
           case round =>
            clear H';obtain ⟨lH,lL,aG,rfl,rfl,HA,HK4,aM,HB⟩:=hrel;cases gk with
            | zero =>exact absurd HA.out (by simp [r12_Reach.l2])
            | succ k4 =>
             have H:=HA.out;clear HA;simp only [r12_Reach.l2] at H;by_cases c15:aG < (l0.length:Int)
             ·rw [if_pos c15] at H;have c15b0:decide (aG < (l0.length:Int)) = true:=zD0 c15;clear c15;have H':=a0D.mk H;clear H;go_wp2;go_loopg [8,10] k4 (fun kq v8 v10 w' =>∃ (bO:List Bool) (iD:Bool) (aH:Int),v8 = .bool iD∧v10 = .int .i64 aH∧a0D (r12_Reach.l3 kq l0 bO dP iD aG aH = some r)∧a0D (kq≤k4)∧a0D (Kd.R Kd.bool 4 w' w.heap.size (fun _ =>True) u5 bO)∧a0D (Below w.heap.size w w'))
              case atStart =>exact ⟨(lH),(lL),(0),qH0,qH0,H',⟨zM0 _⟩,⟨by (with_reducible repeat (first | apply Kd.a0V | apply Kd.a0Z | apply Kd.a1F));exact aM.out⟩,⟨by repeat (first | (with_reducible first | exact HB.out | apply a0C | apply a0A | apply a0E) | exact HB.out)⟩⟩
              case round =>
               clear H';obtain ⟨bO,iD,aH,rfl,rfl,HA,HK5,aM,HB⟩:=hrel;cases gk with
               | zero =>exact absurd HA.out (by simp [r12_Reach.l3])
               | succ k5 =>
                have H:=HA.out;clear HA;simp only [r12_Reach.l3] at H;by_cases c16:0≤aG
                ·rw [if_pos c16] at H;have c16b0:decide (0≤aG) = true:=zD0 c16;clear c16;by_cases c17:aG < (l0.length:Int)
                 ·rw [if_pos c17] at H;have c17b0:decide (aG < (l0.length:Int)) = true:=zD0 c17;clear c17;by_cases c18:aH < ((a1A l0 aG).length:Int)
                  ·rw [if_pos c18] at H;have c18b0:decide (aH < ((a1A l0 aG).length:Int)) = true:=zD0 c18;clear c18;by_cases c19:aG < (bO.length:Int)
                   ·rw [if_pos c19] at H;have c19b0:decide (aG < (bO.length:Int)) = true:=zD0 c19;clear c19;obtain ⟨bq20,hbq20⟩:∃ b_:Bool,b_ = (rdOf false bO aG):=⟨_,rfl⟩;replace H:(if bq20 = true then (if iD = true then (if 0≤aH then (if 0≤(rd (a1A l0 aG) aH) then (if (rd (a1A l0 aG) aH) < (bO.length:Int) then (r12_Reach.l3 k5 l0 (bO.set ((rd (a1A l0 aG) aH):Int).toNat true) dP true aG (wrap64 (aH + 1))) else (none)) else (none)) else (none)) else (if 0≤aH then (if 0≤(rd (a1A l0 aG) aH) then (if (rd (a1A l0 aG) aH) < (bO.length:Int) then (r12_Reach.l3 k5 l0 (bO.set ((rd (a1A l0 aG) aH):Int).toNat true) dP (!(rdOf false bO (rd (a1A l0 aG) aH))) aG (wrap64 (aH + 1))) else (none)) else (none)) else (none))) else (r12_Reach.l2 k5 l0 bO dP iD (wrap64 (aG + 1)))) = some r:=by rw [← hbq20] at H;exact H
                    have Nbq20:=a0D.mk hbq20;clear hbq20;by_cases c21:bq20 = true
                    ·subst c21;rw [if_pos rfl] at H;by_cases c22:iD = true
                     ·subst c22;rw [if_pos rfl] at H;by_cases c23:0≤aH
                      ·rw [if_pos c23] at H;have c23b0:decide (0≤aH) = true:=zD0 c23;clear c23;by_cases c24:0≤(rd (a1A l0 aG) aH)
                       ·rw [if_pos c24] at H;have c24b0:decide (0≤(rd (a1A l0 aG) aH)) = true:=zD0 c24;clear c24;by_cases c25:(rd (a1A l0 aG) aH) < (bO.length:Int)
                        ·rw [if_pos c25] at H;have c25b0:decide ((rd (a1A l0 aG) aH) < (bO.length:Int)) = true:=zD0 c25;clear c25;obtain ⟨y188,hy188⟩:∃ y_:List Bool,y_ = (bO.set ((rd (a1A l0 aG) aH):Int).toNat true):=⟨_,rfl⟩;replace H:(r12_Reach.l3 k5 l0 y188 dP true aG (wrap64 (aH + 1))) = some r:=by first | (rw [hy188];with_reducible exact H) | (have H2_:=(zN0 _ _).symm.trans H;rw [hy188];with_reducible exact H2_) | (have H2_:=(zN0 _ _).symm.trans H;with_reducible exact H2_) | with_reducible exact H | (rw [hy188];exact H) | exact H
                         have Ny188:=a0D.mk hy188;clear hy188;have H':=a0D.mk H;clear H;have p184:0≤(aG:Int):=zB0 qA0;have q184:aG < (l0.length:Int):=zB0 qA0;obtain ⟨ad184,iQ,iR,e184,bG,bR,bS⟩:=a4S HR0.out aG p184 q184;cases e184;replace bG:=a0B HB.out bG;have fV:=a0D.mk bS;have fW:=a0D.mk bR;clear bS bR;replace p184:=eq_true p184;replace q184:=eq_true q184;obtain ⟨Ao27,co27,eo27⟩:=Kd.a1Y aM.out;subst eo27;have p185:0≤(aG:Int):=zB0 qA0;have q185:aG < (bO.length:Int):=zB0 qA0;obtain ⟨ad185,e185,cH⟩:=Kd.a9M (Kd.a1H aM.out).2.2 aG p185 q185
                         (try rw [← Nbq20.out] at cH)
                         cases e185;replace p185:=eq_true p185;replace q185:=eq_true q185;have p186:0≤(aG:Int):=zB0 qA0;have q186:aG < (l0.length:Int):=zB0 qA0;obtain ⟨ad186,sB,sC,e186,fX,jJ,jK⟩:=a4S HR0.out aG p186 q186;obtain rfl:ad184 = ad186:=(by injection e186);replace fX:=a0B HB.out fX;have mJ:=a0D.mk jK;have pK:=a0D.mk jJ;clear jK jJ;replace p186:=eq_true p186;replace q186:=eq_true q186;have ea_:=zI0 (bG.symm.trans fX);injection ea_ with ea_ en_ ec_
                         subst ea_;subst ec_;clear en_;have p187:0≤(aH:Int):=zB0 qA0;have q187:aH < ((a1A l0 aG).length:Int):=zB0 qA0;obtain ⟨ad187,e187,jL⟩:=Kd.a2R mJ.out aH p187 q187;cases e187;replace jL:=a0B HB.out jL;replace p187:=eq_true p187;replace q187:=eq_true q187;have p26:0≤((rd (a1A l0 aG) aH):Int):=zB0 qA0;have q26:((rd (a1A l0 aG) aH):Int) < ((bO.length:Int):Int):=zB0 qA0;obtain ⟨go26,co26,eo26,oW,gl26,cl26,HG26⟩:=Kd.b2W aM.out qD0
                         (first | cases eo26 | (injection eo26 with ea_ en_ ec_;(first | subst ea_ | (injection ea_ with ea_;subst ea_));subst ec_;clear en_))
                         have GB26:=a0D.mk oW;have GG26:=a0D.mk HG26;clear oW gl26 HG26
                         (first | simp only [a4T] at cH | skip)
                         obtain ⟨sD,sE⟩:=Kd.c3W false aM.out ((rd (a1A l0 aG) aH):Int) p26 q26;replace p26:=eq_true p26;replace q26:=eq_true q26;have HP28:=Kd.R_putg aM.out ((rd (a1A l0 aG) aH):Int) true;go_wp2_with (first | ((with_reducible refine a0U (t:=4) (p:=88) rfl ?_);refine a8G (t:=4) (p:=88) (v:=?vo_w29) (w1:=(wr.setCell ⟨go26,((rd (a1A l0 aG) aH):Int).toNat,none⟩ (.bool true))) ?hg ?ho ?hn ?hr ?_;(case ho =>rfl);(case hg =>rfl);(case hn =>rfl);(case hr =>first | (go_simp;done) | (go_simp;rfl));intro w29 hw;have hg:wr.grownBy w29 (some go26):=(by rw [hw];exact HP28.2);have hp_:Kd.R Kd.bool 4 w29 w.heap.size (fun _ =>True) (.slice (some ⟨go26,0,none⟩) bO.length co27) y188:=(by rw [hw,Ny188.out];exact HP28.1);clear HP28;replace aM:=a0D.mk (hp_);replace HB:=a0D.mk ((by rw [hw];exact a0F (HB.out) GB26.out:Below w.heap.size w w29));clear hg hw hp_));go_roundg k5
                         case measure =>have:=HJ2.out;have:=HK2.out;have:=HK3.out;have:=HK4.out;have:=HK5.out;omega
                         case rel =>exact ⟨(y188),(true),(wrap64 (aH + 1)),qH0,qH0,H',⟨by have:=HJ2.out;have:=HK2.out;have:=HK3.out;have:=HK4.out;have:=HK5.out;omega⟩,⟨by (with_reducible repeat (first | apply Kd.a0V | apply Kd.a0Z | apply Kd.a1F));exact aM.out⟩,⟨by repeat (first | (with_reducible first | exact HB.out | apply a0C | apply a0A | apply a0E) | exact HB.out)⟩⟩
                        ·rw [if_neg c25] at H;exact absurd H qI0
                       ·rw [if_neg c24] at H;exact absurd H qI0
                      ·rw [if_neg c23] at H;exact absurd H qI0
                     ·replace c22:=Bool.eq_false_iff.mpr c22;subst c22;rw [if_neg (show ¬ (false = true) by decide)] at H;by_cases c30:0≤aH
                      ·rw [if_pos c30] at H;have c30b0:decide (0≤aH) = true:=zD0 c30;clear c30;by_cases c31:0≤(rd (a1A l0 aG) aH)
                       ·rw [if_pos c31] at H;have c31b0:decide (0≤(rd (a1A l0 aG) aH)) = true:=zD0 c31;clear c31;by_cases c32:(rd (a1A l0 aG) aH) < (bO.length:Int)
                        ·rw [if_pos c32] at H;have c32b0:decide ((rd (a1A l0 aG) aH) < (bO.length:Int)) = true:=zD0 c32;clear c32;obtain ⟨y194,hy194⟩:∃ y_:List Bool,y_ = (bO.set ((rd (a1A l0 aG) aH):Int).toNat true):=⟨_,rfl⟩;replace H:(r12_Reach.l3 k5 l0 y194 dP (!(rdOf false bO (rd (a1A l0 aG) aH))) aG (wrap64 (aH + 1))) = some r:=by first | (rw [hy194];with_reducible exact H) | (have H2_:=(zN0 _ _).symm.trans H;rw [hy194];with_reducible exact H2_) | (have H2_:=(zN0 _ _).symm.trans H;with_reducible exact H2_) | with_reducible exact H | (rw [hy194];exact H) | exact H
                         have Ny194:=a0D.mk hy194;clear hy194;have H':=a0D.mk H;clear H;have p184:0≤(aG:Int):=zB0 qA0;have q184:aG < (l0.length:Int):=zB0 qA0;obtain ⟨ad184,iQ,iR,e184,bG,bR,bS⟩:=a4S HR0.out aG p184 q184;cases e184;replace bG:=a0B HB.out bG;have fV:=a0D.mk bS;have fW:=a0D.mk bR;clear bS bR;replace p184:=eq_true p184;replace q184:=eq_true q184;obtain ⟨Ao34,co34,eo34⟩:=Kd.a1Y aM.out;subst eo34;have p185:0≤(aG:Int):=zB0 qA0;have q185:aG < (bO.length:Int):=zB0 qA0;obtain ⟨ad185,e185,cH⟩:=Kd.a9M (Kd.a1H aM.out).2.2 aG p185 q185
                         (try rw [← Nbq20.out] at cH)
                         cases e185;replace p185:=eq_true p185;replace q185:=eq_true q185;have p189:0≤(aG:Int):=zB0 qA0;have q189:aG < (l0.length:Int):=zB0 qA0;obtain ⟨ad189,sF,sG,e189,fY,jM,jN⟩:=a4S HR0.out aG p189 q189;obtain rfl:ad184 = ad189:=(by injection e189);replace fY:=a0B HB.out fY;have mK:=a0D.mk jN;have pL:=a0D.mk jM;clear jN jM;replace p189:=eq_true p189;replace q189:=eq_true q189;have ea_:=zI0 (bG.symm.trans fY);injection ea_ with ea_ en_ ec_
                         subst ea_;subst ec_;clear en_;have p190:0≤(aH:Int):=zB0 qA0;have q190:aH < ((a1A l0 aG).length:Int):=zB0 qA0;obtain ⟨ad190,e190,jO⟩:=Kd.a2R mK.out aH p190 q190;cases e190;replace jO:=a0B HB.out jO;replace p190:=eq_true p190;replace q190:=eq_true q190;have p191:0≤((rd (a1A l0 aG) aH):Int):=zB0 qA0;have q191:(rd (a1A l0 aG) aH) < (bO.length:Int):=zB0 qA0;obtain ⟨ad191,e191,jP⟩:=Kd.a9M (Kd.a1H aM.out).2.2 (rd (a1A l0 aG) aH) p191 q191
                         (try rw [← Nbq20.out] at jP)
                         obtain rfl:ad185 = ad191:=(by injection e191);replace p191:=eq_true p191;replace q191:=eq_true q191;have p192:0≤(aG:Int):=zB0 qA0;have q192:aG < (l0.length:Int):=zB0 qA0;obtain ⟨ad192,sH,sI,e192,fZ,jQ,jR⟩:=a4S HR0.out aG p192 q192;obtain rfl:ad184 = ad192:=(by injection e192);replace fZ:=a0B HB.out fZ;have mL:=a0D.mk jR;have pM:=a0D.mk jQ;clear jR jQ;replace p192:=eq_true p192;replace q192:=eq_true q192;have ea_:=zI0 (bG.symm.trans fZ);injection ea_ with ea_ en_ ec_
                         subst ea_;subst ec_;clear en_;have p193:0≤(aH:Int):=zB0 qA0;have q193:aH < ((a1A l0 aG).length:Int):=zB0 qA0;obtain ⟨ad193,e193,jS⟩:=Kd.a2R mL.out aH p193 q193;cases e193;replace jS:=a0B HB.out jS;replace p193:=eq_true p193;replace q193:=eq_true q193;have p33:0≤((rd (a1A l0 aG) aH):Int):=zB0 qA0;have q33:((rd (a1A l0 aG) aH):Int) < ((bO.length:Int):Int):=zB0 qA0;obtain ⟨go33,co33,eo33,oX,gl33,cl33,HG33⟩:=Kd.b2W aM.out qD0
                         (first | cases eo33 | (injection eo33 with ea_ en_ ec_;(first | subst ea_ | (injection ea_ with ea_;subst ea_));subst ec_;clear en_))
                         have GB33:=a0D.mk oX;have GG33:=a0D.mk HG33;clear oX gl33 HG33
                         (first | simp only [a4T] at cH | skip)
                         (first | simp only [a4T] at jP | skip)
                         obtain ⟨sJ,sK⟩:=Kd.c3W false aM.out ((rd (a1A l0 aG) aH):Int) p33 q33;replace p33:=eq_true p33;replace q33:=eq_true q33;have HP35:=Kd.R_putg aM.out ((rd (a1A l0 aG) aH):Int) true;go_wp2_with (first | ((with_reducible refine a0U (t:=4) (p:=88) rfl ?_);refine a8G (t:=4) (p:=88) (v:=?vo_w36) (w1:=(wr.setCell ⟨go33,((rd (a1A l0 aG) aH):Int).toNat,none⟩ (.bool true))) ?hg ?ho ?hn ?hr ?_;(case ho =>rfl);(case hg =>rfl);(case hn =>rfl);(case hr =>first | (go_simp;done) | (go_simp;rfl));intro w36 hw;have hg:wr.grownBy w36 (some go33):=(by rw [hw];exact HP35.2);have hp_:Kd.R Kd.bool 4 w36 w.heap.size (fun _ =>True) (.slice (some ⟨go33,0,none⟩) bO.length co34) y194:=(by rw [hw,Ny194.out];exact HP35.1);clear HP35;replace aM:=a0D.mk (hp_);replace HB:=a0D.mk ((by rw [hw];exact a0F (HB.out) GB33.out:Below w.heap.size w w36));clear hg hw hp_));go_roundg k5
                         case measure =>have:=HJ2.out;have:=HK2.out;have:=HK3.out;have:=HK4.out;have:=HK5.out;omega
                         case rel =>exact ⟨(y194),(!(rdOf false bO (rd (a1A l0 aG) aH))),(wrap64 (aH + 1)),qH0,qH0,H',⟨by have:=HJ2.out;have:=HK2.out;have:=HK3.out;have:=HK4.out;have:=HK5.out;omega⟩,⟨by (with_reducible repeat (first | apply Kd.a0V | apply Kd.a0Z | apply Kd.a1F));exact aM.out⟩,⟨by repeat (first | (with_reducible first | exact HB.out | apply a0C | apply a0A | apply a0E) | exact HB.out)⟩⟩
                        ·rw [if_neg c32] at H;exact absurd H qI0
                       ·rw [if_neg c31] at H;exact absurd H qI0
                      ·rw [if_neg c30] at H;exact absurd H qI0
                    ·replace c21:=Bool.eq_false_iff.mpr c21;subst c21;rw [if_neg (show ¬ (false = true) by decide)] at H;have H':=a0D.mk H;clear H;have p184:0≤(aG:Int):=zB0 qA0;have q184:aG < (l0.length:Int):=zB0 qA0;obtain ⟨ad184,iQ,iR,e184,bG,bR,bS⟩:=a4S HR0.out aG p184 q184;cases e184;replace bG:=a0B HB.out bG;have fV:=a0D.mk bS;have fW:=a0D.mk bR;clear bS bR;replace p184:=eq_true p184;replace q184:=eq_true q184;obtain ⟨Ao37,co37,eo37⟩:=Kd.a1Y aM.out;subst eo37;have p185:0≤(aG:Int):=zB0 qA0;have q185:aG < (bO.length:Int):=zB0 qA0;obtain ⟨ad185,e185,cH⟩:=Kd.a9M (Kd.a1H aM.out).2.2 aG p185 q185
                     (try rw [← Nbq20.out] at cH)
                     cases e185;replace p185:=eq_true p185;replace q185:=eq_true q185;go_wp2;go_roundg k5
                     case measure =>have:=HJ2.out;have:=HK2.out;have:=HK3.out;have:=HK4.out;have:=HK5.out;omega
                     case rel =>exact ⟨(bO),(iD),(wrap64 (aG + 1)),qH0,qH0,H',⟨by have:=HJ2.out;have:=HK2.out;have:=HK3.out;have:=HK4.out;have:=HK5.out;omega⟩,⟨by (with_reducible repeat (first | apply Kd.a0V | apply Kd.a0Z | apply Kd.a1F));exact aM.out⟩,⟨by repeat (first | (with_reducible first | exact HB.out | apply a0C | apply a0A | apply a0E) | exact HB.out)⟩⟩
                   ·rw [if_neg c19] at H;exact absurd H qI0
                  ·rw [if_neg c18] at H;have c18b0:decide (aH < ((a1A l0 aG).length:Int)) = false:=zO0 c18;clear c18;have H':=a0D.mk H;clear H;have p184:0≤(aG:Int):=zB0 qA0;have q184:aG < (l0.length:Int):=zB0 qA0;obtain ⟨ad184,iQ,iR,e184,bG,bR,bS⟩:=a4S HR0.out aG p184 q184;cases e184;replace bG:=a0B HB.out bG;have fV:=a0D.mk bS;have fW:=a0D.mk bR;clear bS bR;replace p184:=eq_true p184;replace q184:=eq_true q184;go_wp2;go_roundg k5
                   case measure =>have:=HJ2.out;have:=HK2.out;have:=HK3.out;have:=HK4.out;have:=HK5.out;omega
                   case rel =>exact ⟨(bO),(iD),(wrap64 (aG + 1)),qH0,qH0,H',⟨by have:=HJ2.out;have:=HK2.out;have:=HK3.out;have:=HK4.out;have:=HK5.out;omega⟩,⟨by (with_reducible repeat (first | apply Kd.a0V | apply Kd.a0Z | apply Kd.a1F));exact aM.out⟩,⟨by repeat (first | (with_reducible first | exact HB.out | apply a0C | apply a0A | apply a0E) | exact HB.out)⟩⟩
                 ·rw [if_neg c17] at H;exact absurd H qI0
                ·rw [if_neg c16] at H;exact absurd H qI0
             ·rw [if_neg c15] at H;have c15b0:decide (aG < (l0.length:Int)) = false:=zO0 c15;clear c15;by_cases c38:lL = true
              ·subst c38;rw [if_pos rfl] at H;have H':=a0D.mk H;clear H;go_wp2;go_roundg k4
               case measure =>have:=HJ2.out;have:=HK2.out;have:=HK3.out;have:=HK4.out;omega
               case rel =>exact ⟨(lH),(wrap64 (dP + 1)),qH0,H',⟨by have:=HJ2.out;have:=HK2.out;have:=HK3.out;have:=HK4.out;omega⟩,⟨by (with_reducible repeat (first | apply Kd.a0V | apply Kd.a0Z | apply Kd.a1F));exact aM.out⟩,⟨by repeat (first | (with_reducible first | exact HB.out | apply a0C | apply a0A | apply a0E) | exact HB.out)⟩⟩
              ·replace c38:=Bool.eq_false_iff.mpr c38;subst c38;rw [if_neg (show ¬ (false = true) by decide)] at H;have H':=a0D.mk H;clear H;go_wp2;go_meet
               case rel =>exact ⟨_,(lH),H',⟨by have:=HJ2.out;have:=HK2.out;have:=HK3.out;have:=HK4.out;first | omega | exact zM0 _⟩,⟨by (with_reducible repeat (first | apply Kd.a0V | apply Kd.a0Z | apply Kd.a1F));exact aM.out⟩,⟨by repeat (first | (with_reducible first | exact HB.out | apply a0C | apply a0A | apply a0E) | exact HB.out)⟩⟩
          ·rw [if_neg c14] at H;have c14b0:decide (dP < (l0.length:Int)) = false:=zO0 c14;clear c14
           (first | rw [c14b0] | (simp only [a1L,a1Q];rw [c14b0]) | skip)
           have H':=a0D.mk H;clear H;go_wp2;go_meet
           case rel =>exact ⟨_,(lK),H',⟨by have:=HJ2.out;have:=HK2.out;have:=HK3.out;first | omega | exact zM0 _⟩,⟨by (with_reducible repeat (first | apply Kd.a0V | apply Kd.a0Z | apply Kd.a1F));exact aM.out⟩,⟨by repeat (first | (with_reducible first | exact HB.out | apply a0C | apply a0A | apply a0E) | exact HB.out)⟩⟩
       case rest =>
        clear HC13;obtain ⟨kq,cC,HA,HJ12,aM,HB⟩:=hcut;cases kq with
        | zero =>exact absurd HA.out (by simp [r12_Reach.j5])
        | succ kj12 =>
         have H:=HA.out;clear HA;simp only [r12_Reach.j5] at H;obtain ⟨y195,hy195⟩:∃ y_:List Int,y_ = (([]:List Int)):=⟨_,rfl⟩;replace H:(r12_Reach.l4 kj12 l0 cC y195 0) = some r:=by first | (rw [hy195];with_reducible exact H) | (have H2_:=(zN0 _ _).symm.trans H;rw [hy195];with_reducible exact H2_) | (have H2_:=(zN0 _ _).symm.trans H;with_reducible exact H2_) | with_reducible exact H | (rw [hy195];exact H) | exact H
         have Ny195:=a0D.mk hy195;clear hy195;have H':=a0D.mk H;clear H;go_wp2_with (first | ((with_reducible refine a0T (N:=91) rfl ?_);(try (refine a3D qH1 ?_;dsimp only));refine Kd.b1W (Kd.int .i64) _ 3 ?hg (N:=91) ?hd (xs:=([]:List Int)) (inner:=[]) (ok:=fun _ =>True) (okp:=fun _ =>True) ?hr ?hp (fun _ hk =>hk) trivial (zL0 _ _) (zM0 _) qI0 ?_;(case hd =>rfl);(case hg =>rfl);(case hr =>first | (go_simp;done) | (go_simp;rfl));(case hp =>exact (Reps.none _ _));intro v196 w39 ho40 hb hg_ hnew_;clear hg_ hnew_;(first | rw [← Ny195.out] at ho40 | (simp only [Int.reduceToNat] at ho40;rw [← Ny195.out] at ho40));replace aM:=a0D.mk (Kd.a3U qS0 hb);have HO197:=a0D.mk (Kd.a2H ho40 (a0R qC0));replace HB:=a0D.mk (a0K qC0 hb);clear hb ho40));go_loopg [11,12] kj12 (fun kq v11 v12 w' =>∃ (cX:List Int) (bC:Int),v12 = .int .i64 bC∧a0D (r12_Reach.l4 kq l0 cC cX bC = some r)∧a0D (kq≤kj12)∧a0D (Kd.R Kd.bool 4 w' w.heap.size (fun _ =>True) u5 cC)∧a0D (Kd.R (Kd.int .i64) 3 w' w.heap.size (fun _ =>True) v11 cX)∧a0D (Below w.heap.size w w'))
         case atStart =>exact ⟨(y195),(0),qH0,H',⟨zM0 _⟩,⟨by (with_reducible repeat (first | apply Kd.a0V | apply Kd.a0Z | apply Kd.a1F));exact aM.out⟩,⟨by (with_reducible repeat (first | apply Kd.a0V | apply Kd.a0Z | apply Kd.a1F));exact HO197.out⟩,⟨by repeat (first | (with_reducible first | exact HB.out | apply a0C | apply a0A | apply a0E) | exact HB.out)⟩⟩
         case round =>
          clear H';obtain ⟨cX,bC,rfl,HA,HK4,aM,iE,HB⟩:=hrel;cases gk with
          | zero =>exact absurd HA.out (by simp [r12_Reach.l4])
          | succ k4 =>
           have H:=HA.out;clear HA;simp only [r12_Reach.l4] at H;by_cases c41:bC < (l0.length:Int)
           ·rw [if_pos c41] at H;have c41b0:decide (bC < (l0.length:Int)) = true:=zD0 c41;clear c41;by_cases c42:0≤bC
            ·rw [if_pos c42] at H;have c42b0:decide (0≤bC) = true:=zD0 c42;clear c42;by_cases c43:bC < (cC.length:Int)
             ·rw [if_pos c43] at H;have c43b0:decide (bC < (cC.length:Int)) = true:=zD0 c43;clear c43;obtain ⟨bq44,hbq44⟩:∃ b_:Bool,b_ = (rdOf false cC bC):=⟨_,rfl⟩;replace H:(if bq44 = true then (if cX.length < 17592186044416 then (r12_Reach.l4 k4 l0 cC (cX ++ [bC]) (wrap64 (bC + 1))) else (none)) else (r12_Reach.l4 k4 l0 cC cX (wrap64 (bC + 1)))) = some r:=by rw [← hbq44] at H;exact H
              have Nbq44:=a0D.mk hbq44;clear hbq44;by_cases c45:bq44 = true
              ·subst c45;rw [if_pos rfl] at H;by_cases c46:cX.length < 17592186044416
               ·rw [if_pos c46] at H;have LMc46:=a0D.mk c46;clear c46;obtain ⟨y199,hy199⟩:∃ y_:List Int,y_ = (cX ++ [bC]):=⟨_,rfl⟩;replace H:(r12_Reach.l4 k4 l0 cC y199 (wrap64 (bC + 1))) = some r:=by first | (rw [hy199];with_reducible exact H) | (have H2_:=(zN0 _ _).symm.trans H;rw [hy199];with_reducible exact H2_) | (have H2_:=(zN0 _ _).symm.trans H;with_reducible exact H2_) | with_reducible exact H | (rw [hy199];exact H) | exact H
                have Ny199:=a0D.mk hy199;clear hy199;have H':=a0D.mk H;clear H;obtain ⟨Ao47,co47,eo47⟩:=Kd.a1Y aM.out;subst eo47;have p198:0≤(bC:Int):=zB0 qA0;have q198:bC < (cC.length:Int):=zB0 qA0;obtain ⟨ad198,e198,gA⟩:=Kd.a9M (Kd.a1H aM.out).2.2 bC p198 q198
                (try rw [← Nbq44.out] at gA)
                cases e198;replace p198:=eq_true p198;replace q198:=eq_true q198;go_wp2_with (first | ((with_reducible refine a1I (b:=.append) (xs:=#[.tmp 102,.tmp 104]) rfl ?_);(try (refine a3D qH1 ?_;dsimp only));at_builtin;refine Kd.a2Y (Kd.int .i64) (w0:=w) w.heap.size rfl (.tmp 102) (.tmp 104) 43 3 (.int .i64 0) 8 rfl Tryz.underlying43 b1K rfl qF0 qD0 u11 cX bC [.int .i64 bC] (fun _ =>True) (fun _ =>False) rfl rfl ?aP (fun _ hk =>hk.elim) ?aF ?aO ?aB ?aS ?aL ?_;(case aP =>exact rfl);(case aB =>exact qC0);(case aF =>exact (fun _ _ =>trivial));(case aO =>exact qM2);(case aS =>exact (a0R qC0));(case aL =>have:=LMc46.out;omega);intro v200 w48 ho hb hg hat;rw [← Ny199.out] at ho;have bZ:=a0D.mk (Kd.b7J qS0 (Kd.c3S qM2) qF0 hg);have cA:=a0D.mk (hb);have cM:=a0D.mk (ho);clear aM;clear HB;clear iE;have aM:=bZ;have HB:=cA;have HO201:=cM;clear bZ cA cM;clear ho hb hg hat));go_roundg k4
                case measure =>have:=HJ2.out;have:=HK2.out;have:=HJ12.out;have:=HK4.out;omega
                case rel =>exact ⟨(y199),(wrap64 (bC + 1)),qH0,H',⟨by have:=HJ2.out;have:=HK2.out;have:=HJ12.out;have:=HK4.out;omega⟩,⟨by (with_reducible repeat (first | apply Kd.a0V | apply Kd.a0Z | apply Kd.a1F));exact aM.out⟩,⟨by (with_reducible repeat (first | apply Kd.a0V | apply Kd.a0Z | apply Kd.a1F));exact HO201.out⟩,⟨by repeat (first | (with_reducible first | exact HB.out | apply a0C | apply a0A | apply a0E) | exact HB.out)⟩⟩
               ·rw [if_neg c46] at H;exact absurd H qI0
              ·replace c45:=Bool.eq_false_iff.mpr c45;subst c45;rw [if_neg (show ¬ (false = true) by decide)] at H;have H':=a0D.mk H;clear H;obtain ⟨Ao49,co49,eo49⟩:=Kd.a1Y aM.out;subst eo49;have p198:0≤(bC:Int):=zB0 qA0;have q198:bC < (cC.length:Int):=zB0 qA0;obtain ⟨ad198,e198,gA⟩:=Kd.a9M (Kd.a1H aM.out).2.2 bC p198 q198
               (try rw [← Nbq44.out] at gA)
               cases e198;replace p198:=eq_true p198;replace q198:=eq_true q198;go_wp2;go_roundg k4
               case measure =>have:=HJ2.out;have:=HK2.out;have:=HJ12.out;have:=HK4.out;omega
               case rel =>exact ⟨(cX),(wrap64 (bC + 1)),qH0,H',⟨by have:=HJ2.out;have:=HK2.out;have:=HJ12.out;have:=HK4.out;omega⟩,⟨by (with_reducible repeat (first | apply Kd.a0V | apply Kd.a0Z | apply Kd.a1F));exact aM.out⟩,⟨by (with_reducible repeat (first | apply Kd.a0V | apply Kd.a0Z | apply Kd.a1F));exact iE.out⟩,⟨by repeat (first | (with_reducible first | exact HB.out | apply a0C | apply a0A | apply a0E) | exact HB.out)⟩⟩
             ·rw [if_neg c43] at H;exact absurd H qI0
            ·rw [if_neg c42] at H;exact absurd H qI0
           ·rw [if_neg c41] at H;have c41b0:decide (bC < (l0.length:Int)) = false:=zO0 c41;clear c41;obtain rfl:=zI0 H;go_wp2;go_ret;exact ⟨_,by first | rfl | (simp [a0X,a0W] <;> rfl) | (simp [*,a0X,a0W] <;> rfl),by (with_reducible repeat (first | apply Kd.a0V | apply Kd.a0Z | apply Kd.a1F));exact iE.out,by repeat (first | (with_reducible first | exact HB.out | apply a0C | apply a0A | apply a0E) | exact HB.out)⟩
mutual
def r04_List.l0:Nat→List (S65)→List (S65)→Int→Option ((List (S65)))
 | 0,_,_,_ =>none
 | k + 1,x0,x3,x4 =>if x4 < (x0.length:Int) then (if 0≤x4 then (if x3.length < 925904528653 then ((some (x3 ++ [(⟨(a0M x0 x4).f0,(a0M x0 x4).f1,(a0M x0 x4).f2,(a0M x0 x4).f3,(a0M x0 x4).f4,(a0M x0 x4).f5,(a0M x0 x4).f6,(a0M x0 x4).f7⟩:S65)]:List (S65))).bind fun y206 =>((r04_List.f k ((a0M x0 x4).f6)).bind fun t210 =>(if y206.length + t210.length < 925904528653 then ((some (y206 ++ t210:List (S65))).bind fun y213 =>((r04_List.f k ((a0M x0 x4).f7)).bind fun t217 =>(if y213.length + t217.length < 925904528653 then (r04_List.l0 k x0 (y213 ++ t217) (wrap64 (x4 + 1))) else (none)))) else (none)))) else (none)) else (none)) else (some x3)
def r04_List.f:Nat→List (S65)→Option ((List (S65)))
 | 0,_ =>none
 | k + 1,l0 =>r04_List.l0 k l0 (([]:List (S65))) 0
end
theorem r04_List.calls (k:Nat):∀ (P0_:Nat→Prop) (A0:Option Addr) (c0:Nat) (l0:List (S65)) (r:List (S65)) (w:World) (hs0:Kd.V k65 65 w w.heap.size (fun k_ =>P0_ k_) (.slice A0 l0.length c0) l0) (h:r04_List.f k l0 = some r),
    Calls Tryz.prog 34 #[.slice A0 l0.length c0] w fun e w' =>∃ v0_:Value,e = .returned (v0_)∧Kd.N k65 65 w' w.heap.size (fun k_ =>(P0_ k_∨w.heap.size≤k_)) v0_ r∧Below w.heap.size w w':=by
 induction k using Nat.strongRecOn with
 | _ k ih =>
 intro P0_ A0 c0 l0 r w hs0 h;cases k with
 | zero =>exact absurd h (by simp [r04_List.f])
 | succ k =>
 simp only [r04_List.f] at h;have hu65:=Tryz.underlying65;have HO0:=a0D.mk (show Kd.V k65 65 w w.heap.size (fun k_ =>(P0_ k_∨w.heap.size≤k_)) (.slice A0 l0.length c0) l0 from Kd.a3C hs0 (fun k_ hk =>.inl hk));have HB:=a0D.mk (zL0 w.heap.size w);have H:(r04_List.l0 k l0 (([]:List (S65))) 0) = some r:=h;clear h;obtain ⟨y202,hy202⟩:∃ y_:List (S65),y_ = (([]:List (S65))):=⟨_,rfl⟩;replace H:(r04_List.l0 k l0 y202 0) = some r:=by first | (rw [hy202];with_reducible exact H) | (have H2_:=(zN0 _ _).symm.trans H;rw [hy202];with_reducible exact H2_) | (have H2_:=(zN0 _ _).symm.trans H;with_reducible exact H2_) | with_reducible exact H | (rw [hy202];exact H) | exact H
 have Ny202:=a0D.mk hy202;clear hy202;have H':=a0D.mk H;clear H;go_enter Tryz.func34,Tryz.ntmps34
 go_wp2_with (first | ((with_reducible refine a0T (N:=5) rfl ?_);refine Kd.N_lit k65 _ 65 ?hg (N':=5) ?hd (xs:=([]:List (S65))) (inner:=[]) (ok:=(fun k_ =>(P0_ k_∨w.heap.size≤k_))) (okp:=(fun k_ =>(P0_ k_∨w.heap.size≤k_))) ?hr ?hp (fun _ hk =>hk) ((show ∀ k_,w.heap.size≤k_→(fun k_ =>(P0_ k_∨w.heap.size≤k_)) k_ from fun k_ hk =>(.inr (zE0 (a0R qC0) hk))) _ (zM0 _)) (zL0 _ _) (zM0 _) qI0 ?_;(case hd =>rfl);(case hg =>rfl);(case hr =>first | (go_simp;done) | (go_simp;rfl));(case hp =>exact (Reps.none _ _));intro v203 w2 ho3 hb hg_ hnew_;clear hg_ hnew_;(first | rw [← Ny202.out] at ho3 | (simp only [Int.reduceToNat] at ho3;rw [← Ny202.out] at ho3));replace HO0:=a0D.mk (Kd.a2O (by (with_reducible repeat (first | apply Kd.a1N | apply Kd.a1M | apply Kd.a1V));exact HO0.out) (Kd.a3H ho3) hb);have HO204:=a0D.mk (Kd.a7C ho3 (a0R qC0));replace HB:=a0D.mk (a0K qC0 hb);clear hb ho3));go_loopg [3,4] k (fun kq v3 v4 w' =>∃ (aC:List (S65)) (aA:Int),v4 = .int .i64 aA∧a0D (r04_List.l0 kq l0 aC aA = some r)∧a0D (kq≤k)∧a0D (Kd.V k65 65 w' w.heap.size (fun k_ =>(P0_ k_∨w.heap.size≤k_)∧some k_≠(v3:Value).ownBlock) (.slice A0 l0.length c0) l0)∧a0D (Kd.N k65 65 w' w.heap.size (fun k_ =>(P0_ k_∨w.heap.size≤k_)) v3 aC)∧a0D (Below w.heap.size w w'))
 case atStart =>exact ⟨(y202),(0),qH0,H',⟨zM0 _⟩,⟨by (with_reducible repeat (first | apply Kd.a1N | apply Kd.a1M | apply Kd.a1V));exact HO0.out⟩,⟨by (with_reducible repeat (first | apply Kd.a1P | apply Kd.a1O | apply Kd.a1T));exact HO204.out⟩,⟨by repeat (first | (with_reducible first | exact HB.out | apply a0C | apply a0A | apply a0E) | exact HB.out)⟩⟩
 case round =>
  clear H';obtain ⟨aC,aA,rfl,HA,HK1,bV,bD,HB⟩:=hrel;cases gk with
  | zero =>exact absurd HA.out (by simp [r04_List.l0])
  | succ k1 =>
   have H:=HA.out;clear HA;simp only [r04_List.l0] at H;by_cases c4:aA < (l0.length:Int)
   ·rw [if_pos c4] at H;have c4b0:decide (aA < (l0.length:Int)) = true:=zD0 c4;clear c4;by_cases c5:0≤aA
    ·rw [if_pos c5] at H;have c5b0:decide (0≤aA) = true:=zD0 c5;clear c5;by_cases c6:aC.length < 925904528653
     ·rw [if_pos c6] at H;have LMc6:=a0D.mk c6;clear c6;obtain ⟨y206,hy206⟩:∃ y_:List (S65),y_ = (aC ++ [(⟨(a0M l0 aA).f0,(a0M l0 aA).f1,(a0M l0 aA).f2,(a0M l0 aA).f3,(a0M l0 aA).f4,(a0M l0 aA).f5,(a0M l0 aA).f6,(a0M l0 aA).f7⟩:S65)]):=⟨_,rfl⟩;replace H:((r04_List.f k1 ((a0M l0 aA).f6)).bind fun t210 =>(if y206.length + t210.length < 925904528653 then ((some (y206 ++ t210:List (S65))).bind fun y213 =>((r04_List.f k1 ((a0M l0 aA).f7)).bind fun t217 =>(if y213.length + t217.length < 925904528653 then (r04_List.l0 k1 l0 (y213 ++ t217) (wrap64 (aA + 1))) else (none)))) else (none))) = some r:=by first | (rw [hy206];with_reducible exact H) | (have H2_:=(zN0 _ _).symm.trans H;rw [hy206];with_reducible exact H2_) | (have H2_:=(zN0 _ _).symm.trans H;with_reducible exact H2_) | with_reducible exact H | (rw [hy206];exact H) | exact H
      have Ny206:=a0D.mk hy206;clear hy206;obtain ⟨t210,A7,H⟩:=ob_ H;by_cases c8:y206.length + t210.length < 925904528653
      ·rw [if_pos c8] at H;have LMc8:=a0D.mk c8;clear c8;obtain ⟨y213,hy213⟩:∃ y_:List (S65),y_ = (y206 ++ t210):=⟨_,rfl⟩;replace H:((r04_List.f k1 ((a0M l0 aA).f7)).bind fun t217 =>(if y213.length + t217.length < 925904528653 then (r04_List.l0 k1 l0 (y213 ++ t217) (wrap64 (aA + 1))) else (none))) = some r:=by first | (rw [hy213];with_reducible exact H) | (have H2_:=(zN0 _ _).symm.trans H;rw [hy213];with_reducible exact H2_) | (have H2_:=(zN0 _ _).symm.trans H;with_reducible exact H2_) | with_reducible exact H | (rw [hy213];exact H) | exact H
       have Ny213:=a0D.mk hy213;clear hy213;obtain ⟨t217,A9,H⟩:=ob_ H;by_cases c10:y213.length + t217.length < 925904528653
       ·rw [if_pos c10] at H;have LMc10:=a0D.mk c10;clear c10;obtain ⟨y220,hy220⟩:∃ y_:List (S65),y_ = (y213 ++ t217):=⟨_,rfl⟩;replace H:(r04_List.l0 k1 l0 y220 (wrap64 (aA + 1))) = some r:=by first | (rw [hy220];with_reducible exact H) | (have H2_:=(zN0 _ _).symm.trans H;rw [hy220];with_reducible exact H2_) | (have H2_:=(zN0 _ _).symm.trans H;with_reducible exact H2_) | with_reducible exact H | (rw [hy220];exact H) | exact H
        have Ny220:=a0D.mk hy220;clear hy220;have H':=a0D.mk H;clear H;have p205:0≤(aA:Int):=zB0 qA0;have q205:aA < (l0.length:Int):=zB0 qA0;obtain ⟨ad205,nT,nU,nV,nW,nX,nY,nZ,oA,e205,pN,pO,pP,pQ,mM,mN,mO,mP,jT,jU,jV,jW,jX,jY,jZ,kA⟩:=a9C (Kd.a5C bV.out).2.2 aA p205 q205;cases e205;obtain ⟨ce205,oB,oC,fE⟩:=Kd.V_get bV.out z65 aA p205 (by first | exact q205 | exact zB0 qA0 | (have e_:=(Kd.a5C bV.out).1;omega));obtain ⟨pR,pS,pT,pU,pV,pW,pX,pY,rfl,gB,gC,gD,gE,gG,gH,gI,gJ⟩:=a8W oC;have eG:=fE 4 _ rfl;rw [a1R _ _ 4 qD0] at eG;replace eG:=zI0 (eG.symm.trans mM);injection eG with hva_ hvn_ hvc_
        rw [hva_] at gC;rw [hvc_] at gB;have aW:=a0D.mk (show Kd.V k155 155 _ w.heap.size _ _ ((a0M l0 aA).f4) from Kd.V_mk gB gC);clear hva_ hvn_ hvc_ gC gB;have eH:=fE 5 _ rfl;rw [a1R _ _ 5 qD0] at eH;replace eH:=zI0 (eH.symm.trans mN);injection eH with hva_ hvn_ hvc_
        rw [hva_] at gE;rw [hvc_] at gD;have aX:=a0D.mk (show Kd.V Kd.string 9 _ w.heap.size _ _ ((a0M l0 aA).f5) from Kd.V_mk gD gE);clear hva_ hvn_ hvc_ gE gD;have eI:=fE 6 _ rfl;rw [a1R _ _ 6 qD0] at eI;replace eI:=zI0 (eI.symm.trans mO);injection eI with hva_ hvn_ hvc_
        rw [hva_] at gH;rw [hvc_] at gG;have aY:=a0D.mk (show Kd.V k65 65 _ w.heap.size _ _ ((a0M l0 aA).f6) from Kd.V_mk gG gH);clear hva_ hvn_ hvc_ gH gG;have eJ:=fE 7 _ rfl;rw [a1R _ _ 7 qD0] at eJ;replace eJ:=zI0 (eJ.symm.trans mP);injection eJ with hva_ hvn_ hvc_
        rw [hva_] at gJ;rw [hvc_] at gI;have aZ:=a0D.mk (show Kd.V k65 65 _ w.heap.size _ _ ((a0M l0 aA).f7) from Kd.V_mk gI gJ);clear hva_ hvn_ hvc_ gJ gI;clear fE oB;have pZ:=a0D.mk jU;have qA:=a0D.mk jT;clear jU jT;have qB:=a0D.mk jW;have qC:=a0D.mk jV;clear jW jV;have qD:=a0D.mk jY;have qE:=a0D.mk jX;clear jY jX;have qF:=a0D.mk kA;have qG:=a0D.mk jZ;clear kA jZ;replace p205:=eq_true p205;replace q205:=eq_true q205;go_wp2_with (first | ((with_reducible refine a1I (b:=.append) (xs:=#[.tmp 12,.tmp 17]) rfl ?_);at_builtin;refine Kd.b0P k65 (w0:=w) w.heap.size rfl (.tmp 12) (.tmp 17) 32 65 (.agg #[(.int .i64 0),(.string ⟨#[]⟩),(.string ⟨#[]⟩),(.string ⟨#[]⟩),(.slice none 0 0),(.slice none 0 0),(.slice none 0 0),(.slice none 0 0)]) 152 rfl Tryz.underlying32 b8H rfl qF0 qD0 u3 aC (⟨(a0M l0 aA).f0,(a0M l0 aA).f1,(a0M l0 aA).f2,(a0M l0 aA).f3,(a0M l0 aA).f4,(a0M l0 aA).f5,(a0M l0 aA).f6,(a0M l0 aA).f7⟩:S65) [.int .i64 ((a0M l0 aA).f0),.string ((a0M l0 aA).f1),.string ((a0M l0 aA).f2),.string ((a0M l0 aA).f3),.slice nT ((a0M l0 aA).f4).length nU,.slice nV ((a0M l0 aA).f5).length nW,.slice nX ((a0M l0 aA).f6).length nY,.slice nZ ((a0M l0 aA).f7).length oA] (fun k_ =>(P0_ k_∨w.heap.size≤k_)) (fun k_ =>((fun k_ =>(P0_ k_∨w.heap.size≤k_))) k_∧some k_≠(u3:Value).ownBlock) rfl rfl ?aP (fun _ hk =>hk) ?aF ?aO ?aB ?aS ?aL ?_;(case aP =>exact (c2I _ _ (⟨(a0M l0 aA).f0,(a0M l0 aA).f1,(a0M l0 aA).f2,(a0M l0 aA).f3,(a0M l0 aA).f4,(a0M l0 aA).f5,(a0M l0 aA).f6,(a0M l0 aA).f7⟩:S65) (Kd.a5C (Kd.a3C (ok':=(fun k_ =>((fun k_ =>(P0_ k_∨w.heap.size≤k_))) k_∧some k_≠(u3:Value).ownBlock)) (aW.out) (fun k_ hk =>⟨hk.1,hk.2⟩))).2.1 (Kd.V_F (Kd.a3C (ok':=(fun k_ =>((fun k_ =>(P0_ k_∨w.heap.size≤k_))) k_∧some k_≠(u3:Value).ownBlock)) (aW.out) (fun k_ hk =>⟨hk.1,hk.2⟩))) (Kd.a5C (Kd.a3C (ok':=(fun k_ =>((fun k_ =>(P0_ k_∨w.heap.size≤k_))) k_∧some k_≠(u3:Value).ownBlock)) (aX.out) (fun k_ hk =>⟨hk.1,hk.2⟩))).2.1 (Kd.V_F (Kd.a3C (ok':=(fun k_ =>((fun k_ =>(P0_ k_∨w.heap.size≤k_))) k_∧some k_≠(u3:Value).ownBlock)) (aX.out) (fun k_ hk =>⟨hk.1,hk.2⟩))) (Kd.a5C (Kd.a3C (ok':=(fun k_ =>((fun k_ =>(P0_ k_∨w.heap.size≤k_))) k_∧some k_≠(u3:Value).ownBlock)) (aY.out) (fun k_ hk =>⟨hk.1,hk.2⟩))).2.1 (Kd.V_F (Kd.a3C (ok':=(fun k_ =>((fun k_ =>(P0_ k_∨w.heap.size≤k_))) k_∧some k_≠(u3:Value).ownBlock)) (aY.out) (fun k_ hk =>⟨hk.1,hk.2⟩))) (Kd.a5C (Kd.a3C (ok':=(fun k_ =>((fun k_ =>(P0_ k_∨w.heap.size≤k_))) k_∧some k_≠(u3:Value).ownBlock)) (aZ.out) (fun k_ hk =>⟨hk.1,hk.2⟩))).2.1 (Kd.V_F (Kd.a3C (ok':=(fun k_ =>((fun k_ =>(P0_ k_∨w.heap.size≤k_))) k_∧some k_≠(u3:Value).ownBlock)) (aZ.out) (fun k_ hk =>⟨hk.1,hk.2⟩)))));(case aB =>exact qC0);(case aF =>exact (fun k_ hk =>(.inr (zE0 (a0R qC0) hk))));(case aO =>exact (by (with_reducible repeat (first | apply Kd.a1P | apply Kd.a1O | apply Kd.a1T));exact bD.out));(case aS =>exact (a0R qC0));(case aL =>have:=LMc6.out;omega);intro v207 w11 ho hb hg hat;rw [← Ny206.out] at ho;have bZ:=a0D.mk (Kd.a2E (ok:=(fun k_ =>(P0_ k_∨w.heap.size≤k_))) qO1 hg hat);have cA:=a0D.mk (Kd.a2E (ok:=(fun k_ =>(P0_ k_∨w.heap.size≤k_))) qP1 hg hat);have cM:=a0D.mk (Kd.a2E (ok:=(fun k_ =>(P0_ k_∨w.heap.size≤k_))) qQ1 hg hat);have dY:=a0D.mk (Kd.a2E (ok:=(fun k_ =>(P0_ k_∨w.heap.size≤k_))) qR1 hg hat);have kB:=a0D.mk (Kd.a2E (ok:=(fun k_ =>(P0_ k_∨w.heap.size≤k_))) qS1 hg hat);have kC:=a0D.mk (hb);have kD:=a0D.mk (ho);clear bV;clear aW;clear aX;clear aY;clear aZ;clear HB;clear bD;have bV:=bZ;have aW:=cA;have aX:=cM;have aY:=dY;have aZ:=kB;have HB:=kC;have HO208:=kD;clear bZ cA cM dY kB kC kD;clear ho hb hg hat;have p209:0≤(aA:Int):=zB0 qA0;have q209:aA < (l0.length:Int):=zB0 qA0;obtain ⟨ad209,sL,sM,sN,sO,oE,oF,sP,sQ,e209,qH,qI,qJ,qK,mQ,mR,mS,mT,kE,kF,kG,kH,kJ,kK,kN,kO⟩:=a9C (Kd.a5C bV.out).2.2 aA p209 q209;obtain rfl:ad205 = ad209:=(by injection e209);obtain ⟨ce209,oG,oH,fF⟩:=Kd.V_get bV.out z65 aA p209 (by first | exact q209 | exact zB0 qA0 | (have e_:=(Kd.a5C bV.out).1;omega));obtain ⟨qL,qM,qN,qO,qP,qQ,qR,qS,rfl,gK,gL,gM,gN,gO,gP,gQ,gR⟩:=a8W oH;have eK:=fF 4 _ rfl;rw [a1R _ _ 4 qD0] at eK;replace eK:=zI0 (eK.symm.trans mQ);injection eK with hva_ hvn_ hvc_;rw [hva_] at gL;rw [hvc_] at gK;have bJ:=a0D.mk (show Kd.V k155 155 _ w.heap.size _ _ ((a0M l0 aA).f4) from Kd.V_mk gK gL);clear hva_ hvn_ hvc_ gL gK;have eL:=fF 5 _ rfl;rw [a1R _ _ 5 qD0] at eL;replace eL:=zI0 (eL.symm.trans mR);injection eL with hva_ hvn_ hvc_;rw [hva_] at gN;rw [hvc_] at gM;have bK:=a0D.mk (show Kd.V Kd.string 9 _ w.heap.size _ _ ((a0M l0 aA).f5) from Kd.V_mk gM gN);clear hva_ hvn_ hvc_ gN gM;have eM:=fF 6 _ rfl;rw [a1R _ _ 6 qD0] at eM;replace eM:=zI0 (eM.symm.trans mS);injection eM with hva_ hvn_ hvc_;rw [hva_] at gP;rw [hvc_] at gO;have bH:=a0D.mk (show Kd.V k65 65 _ w.heap.size _ _ ((a0M l0 aA).f6) from Kd.V_mk gO gP);clear hva_ hvn_ hvc_ gP gO;have eN:=fF 7 _ rfl;rw [a1R _ _ 7 qD0] at eN;replace eN:=zI0 (eN.symm.trans mT);injection eN with hva_ hvn_ hvc_;rw [hva_] at gR;rw [hvc_] at gQ;have bM:=a0D.mk (show Kd.V k65 65 _ w.heap.size _ _ ((a0M l0 aA).f7) from Kd.V_mk gQ gR);clear hva_ hvn_ hvc_ gR gQ;clear fF oG;have eO:=a0D.mk kF;have qT:=a0D.mk kE;clear kF kE;have eP:=a0D.mk kH;have qU:=a0D.mk kG;clear kH kG;have eQ:=a0D.mk kK;have qV:=a0D.mk kJ;clear kK kJ;have eR:=a0D.mk kO;have qW:=a0D.mk kN;clear kO kN;replace p209:=eq_true p209;replace q209:=eq_true q209) | ((with_reducible refine a0Y (f:=34) rfl ?_);refine a2F (some 25) rfl rfl Tryz.func34 qE0 rfl #[.slice oE ((a0M l0 aA).f6).length oF] rfl qB0 ?_;(with_reducible refine (ih k1 (by have:=HK1.out;omega) (fun k_ =>((P0_ k_∨w.heap.size≤k_)∧some k_≠(v207:Value).ownBlock)) _ _ ((a0M l0 aA).f6) t210 _ ?side1 A7.out).mono ?_);(case side1 =>exact bH.out);rintro e w12 ⟨v211,rfl,ho0,hb⟩;refine ⟨_,rfl,?_⟩;have bZ:=a0D.mk (Kd.a2O qO1 (Kd.a3H ho0) hb);have cA:=a0D.mk (Kd.a2O qP1 (Kd.a3H ho0) hb);have cM:=a0D.mk (Kd.a2O qQ1 (Kd.a3H ho0) hb);have dY:=a0D.mk (Kd.a2O qR1 (Kd.a3H ho0) hb);have kB:=a0D.mk (Kd.a2O qS1 (Kd.a3H ho0) hb);have kC:=a0D.mk (Kd.a2P qF2 (Kd.a3H ho0) hb);have kD:=a0D.mk (Kd.a2O qN2 (Kd.a3H ho0) hb);have lM:=a0D.mk (Kd.a2O qO2 (Kd.a3H ho0) hb);have lN:=a0D.mk (Kd.a2O qP2 (Kd.a3H ho0) hb);have lO:=a0D.mk (Kd.a2O qQ2 (Kd.a3H ho0) hb);have fG:=a0D.mk (Kd.a7C (Kd.a3Q (ok':=fun k_ =>(P0_ k_∨w.heap.size≤k_)∧some k_≠(v207:Value).ownBlock) ho0 (fun k_ hk_ =>⟨Or.elim hk_ (fun hs_ =>hs_.1) (fun hn_ =>(.inr (zE0 (a0R qC0) hn_))),Or.elim hk_ (fun hs_ =>hs_.2) (fun hn_ =>(Kd.fresh' (Kd.N_lt qF2) k_ hn_))⟩)) (a0R qC0));have fH:=a0D.mk (Kd.a0H (by repeat (first | (with_reducible exact eO.out) | (with_reducible refine Kd.a1D ?_ _) | (with_reducible refine Kd.a1C ?_ _) | (with_reducible refine Kd.a1K ?_) | exact eO.out)) hb);have iF:=a0D.mk (Kd.a0H (by repeat (first | (with_reducible exact eP.out) | (with_reducible refine Kd.a1D ?_ _) | (with_reducible refine Kd.a1C ?_ _) | (with_reducible refine Kd.a1K ?_) | exact eP.out)) hb);have iG:=a0D.mk (Kd.a0H (by repeat (first | (with_reducible exact eQ.out) | (with_reducible refine Kd.a1D ?_ _) | (with_reducible refine Kd.a1C ?_ _) | (with_reducible refine Kd.a1K ?_) | exact eQ.out)) hb);have iH:=a0D.mk (Kd.a0H (by repeat (first | (with_reducible exact eR.out) | (with_reducible refine Kd.a1D ?_ _) | (with_reducible refine Kd.a1C ?_ _) | (with_reducible refine Kd.a1K ?_) | exact eR.out)) hb);have iI:=a0D.mk (a0K qC0 hb);clear bV;clear aW;clear aX;clear aY;clear aZ;clear HO208;clear bJ;clear bK;clear bH;clear bM;clear eO;clear eP;clear eQ;clear eR;clear HB;have bV:=bZ;have aW:=cA;have aX:=cM;have aY:=dY;have aZ:=kB;have HO208:=kC;have bJ:=kD;have bK:=lM;have bH:=lN;have bM:=lO;have HO212:=fG;have eO:=fH;have eP:=iF;have eQ:=iG;have eR:=iH;have HB:=iI;clear bZ cA cM dY kB kC kD lM lN lO fG fH iF iG iH iI;(try clear hb);(try clear hk);(try clear ho0);obtain ⟨Ao14,co14,eo14⟩:=Kd.a3V HO212.out;subst eo14) | ((with_reducible refine a1I (b:=.append) (xs:=#[.tmp 19,.tmp 25]) rfl ?_);at_builtin;refine Kd.a9F k65 (w0:=w) w.heap.size rfl (.tmp 19) (.tmp 25) 32 65 (.agg #[(.int .i64 0),(.string ⟨#[]⟩),(.string ⟨#[]⟩),(.string ⟨#[]⟩),(.slice none 0 0),(.slice none 0 0),(.slice none 0 0),(.slice none 0 0)]) 152 rfl Tryz.underlying32 b8H rfl qF0 qD0 v207 y206 t210 _ _ _ (fun k_ =>(P0_ k_∨w.heap.size≤k_)) (fun k_ =>((fun k_ =>(P0_ k_∨w.heap.size≤k_))) k_∧some k_≠(v207:Value).ownBlock) rfl rfl ?aO ?aR (fun _ hk =>hk) ?aF ?aB ?aS ?aL ?_;(case aR =>exact (by skip;exact Kd.N_F (Kd.a3Q (ok':=(fun k_ =>((fun k_ =>(P0_ k_∨w.heap.size≤k_))) k_∧some k_≠(v207:Value).ownBlock)) (HO212.out) (fun k_ hk =>⟨hk.1,hk.2⟩))));(case aB =>exact qC0);(case aF =>exact (fun k_ hk =>(.inr (zE0 (a0R qC0) hk))));(case aO =>exact (by (with_reducible repeat (first | apply Kd.a1P | apply Kd.a1O | apply Kd.a1T));exact Kd.a3Q HO208.out (fun _ hk =>hk.1)));(case aS =>exact (a0R qC0));(case aL =>have:=LMc8.out;omega);intro v214 w13 ho hb hg hat;rw [← Ny213.out] at ho;have bZ:=a0D.mk (Kd.a2E (ok:=(fun k_ =>(P0_ k_∨w.heap.size≤k_)∧some k_≠(.slice Ao14 t210.length co14:Value).ownBlock)) (by (with_reducible repeat (first | apply Kd.a1N | apply Kd.a1M | apply Kd.a1V));exact Kd.a3C bV.out (fun _ hk =>⟨⟨hk.1.1,hk.2⟩,hk.1.2⟩)) hg hat);have cA:=a0D.mk (Kd.a2E (ok:=(fun k_ =>(P0_ k_∨w.heap.size≤k_)∧some k_≠(.slice Ao14 t210.length co14:Value).ownBlock)) (by (with_reducible repeat (first | apply Kd.a1N | apply Kd.a1M | apply Kd.a1V));exact Kd.a3C aW.out (fun _ hk =>⟨⟨hk.1.1,hk.2⟩,hk.1.2⟩)) hg hat);have cM:=a0D.mk (Kd.a2E (ok:=(fun k_ =>(P0_ k_∨w.heap.size≤k_)∧some k_≠(.slice Ao14 t210.length co14:Value).ownBlock)) (by (with_reducible repeat (first | apply Kd.a1N | apply Kd.a1M | apply Kd.a1V));exact Kd.a3C aX.out (fun _ hk =>⟨⟨hk.1.1,hk.2⟩,hk.1.2⟩)) hg hat);have dY:=a0D.mk (Kd.a2E (ok:=(fun k_ =>(P0_ k_∨w.heap.size≤k_)∧some k_≠(.slice Ao14 t210.length co14:Value).ownBlock)) (by (with_reducible repeat (first | apply Kd.a1N | apply Kd.a1M | apply Kd.a1V));exact Kd.a3C aY.out (fun _ hk =>⟨⟨hk.1.1,hk.2⟩,hk.1.2⟩)) hg hat);have kB:=a0D.mk (Kd.a2E (ok:=(fun k_ =>(P0_ k_∨w.heap.size≤k_)∧some k_≠(.slice Ao14 t210.length co14:Value).ownBlock)) (by (with_reducible repeat (first | apply Kd.a1N | apply Kd.a1M | apply Kd.a1V));exact Kd.a3C aZ.out (fun _ hk =>⟨⟨hk.1.1,hk.2⟩,hk.1.2⟩)) hg hat);have kC:=a0D.mk (Kd.a2E (ok:=(fun k_ =>(P0_ k_∨w.heap.size≤k_)∧some k_≠(.slice Ao14 t210.length co14:Value).ownBlock)) (by (with_reducible repeat (first | apply Kd.a1N | apply Kd.a1M | apply Kd.a1V));exact Kd.a3C bJ.out (fun _ hk =>⟨⟨hk.1.1,hk.2⟩,hk.1.2⟩)) hg hat);have kD:=a0D.mk (Kd.a2E (ok:=(fun k_ =>(P0_ k_∨w.heap.size≤k_)∧some k_≠(.slice Ao14 t210.length co14:Value).ownBlock)) (by (with_reducible repeat (first | apply Kd.a1N | apply Kd.a1M | apply Kd.a1V));exact Kd.a3C bK.out (fun _ hk =>⟨⟨hk.1.1,hk.2⟩,hk.1.2⟩)) hg hat);have lM:=a0D.mk (Kd.a2E (ok:=(fun k_ =>(P0_ k_∨w.heap.size≤k_)∧some k_≠(.slice Ao14 t210.length co14:Value).ownBlock)) (by (with_reducible repeat (first | apply Kd.a1N | apply Kd.a1M | apply Kd.a1V));exact Kd.a3C bH.out (fun _ hk =>⟨⟨hk.1.1,hk.2⟩,hk.1.2⟩)) hg hat);have lN:=a0D.mk (Kd.a2E (ok:=(fun k_ =>(P0_ k_∨w.heap.size≤k_)∧some k_≠(.slice Ao14 t210.length co14:Value).ownBlock)) (by (with_reducible repeat (first | apply Kd.a1N | apply Kd.a1M | apply Kd.a1V));exact Kd.a3C bM.out (fun _ hk =>⟨⟨hk.1.1,hk.2⟩,hk.1.2⟩)) hg hat);have lO:=a0D.mk (Kd.b4G (ok:=(fun k_ =>(P0_ k_∨w.heap.size≤k_))) qN1 hg hat);have fG:=a0D.mk (hb);have fH:=a0D.mk (ho);clear bV;clear aW;clear aX;clear aY;clear aZ;clear bJ;clear bK;clear bH;clear bM;clear HO212;clear HB;clear HO208;have bV:=bZ;have aW:=cA;have aX:=cM;have aY:=dY;have aZ:=kB;have bJ:=kC;have bK:=kD;have bH:=lM;have bM:=lN;have HO212:=lO;have HB:=fG;have HO215:=fH;clear bZ cA cM dY kB kC kD lM lN lO fG fH;clear ho hb hg hat;have p216:0≤(aA:Int):=zB0 qA0;have q216:aA < (l0.length:Int):=zB0 qA0;obtain ⟨ad216,sR,sS,sT,sU,sV,sW,oI,oJ,e216,qX,qY,qZ,rA,mU,mV,mW,mX,kP,kQ,kR,kS,kU,kV,kW,kX⟩:=a9C (Kd.a5C bV.out).2.2 aA p216 q216;obtain rfl:ad205 = ad216:=(by injection e216);obtain ⟨ce216,oK,oL,fI⟩:=Kd.V_get bV.out z65 aA p216 (by first | exact q216 | exact zB0 qA0 | (have e_:=(Kd.a5C bV.out).1;omega));obtain ⟨rB,rC,rD,rE,rG,rH,rI,rJ,rfl,gS,gT,gU,gV,gW,gX,gY,gZ⟩:=a8W oL;have eS:=fI 4 _ rfl;rw [a1R _ _ 4 qD0] at eS;replace eS:=zI0 (eS.symm.trans mU);injection eS with hva_ hvn_ hvc_;rw [hva_] at gT;rw [hvc_] at gS;have cO:=a0D.mk (show Kd.V k155 155 _ w.heap.size _ _ ((a0M l0 aA).f4) from Kd.V_mk gS gT);clear hva_ hvn_ hvc_ gT gS;have eT:=fI 5 _ rfl;rw [a1R _ _ 5 qD0] at eT;replace eT:=zI0 (eT.symm.trans mV);injection eT with hva_ hvn_ hvc_;rw [hva_] at gV;rw [hvc_] at gU;have cQ:=a0D.mk (show Kd.V Kd.string 9 _ w.heap.size _ _ ((a0M l0 aA).f5) from Kd.V_mk gU gV);clear hva_ hvn_ hvc_ gV gU;have eU:=fI 6 _ rfl;rw [a1R _ _ 6 qD0] at eU;replace eU:=zI0 (eU.symm.trans mW);injection eU with hva_ hvn_ hvc_;rw [hva_] at gX;rw [hvc_] at gW;have cR:=a0D.mk (show Kd.V k65 65 _ w.heap.size _ _ ((a0M l0 aA).f6) from Kd.V_mk gW gX);clear hva_ hvn_ hvc_ gX gW;have eV:=fI 7 _ rfl;rw [a1R _ _ 7 qD0] at eV;replace eV:=zI0 (eV.symm.trans mX);injection eV with hva_ hvn_ hvc_;rw [hva_] at gZ;rw [hvc_] at gY;have cI:=a0D.mk (show Kd.V k65 65 _ w.heap.size _ _ ((a0M l0 aA).f7) from Kd.V_mk gY gZ);clear hva_ hvn_ hvc_ gZ gY;clear fI oK;have eW:=a0D.mk kQ;have rK:=a0D.mk kP;clear kQ kP;have eX:=a0D.mk kS;have rL:=a0D.mk kR;clear kS kR;have eY:=a0D.mk kV;have rM:=a0D.mk kU;clear kV kU;have eZ:=a0D.mk kX;have rN:=a0D.mk kW;clear kX kW;replace p216:=eq_true p216;replace q216:=eq_true q216) | ((with_reducible refine a0Y (f:=34) rfl ?_);refine a2F (some 33) rfl rfl Tryz.func34 qE0 rfl #[.slice oI ((a0M l0 aA).f7).length oJ] rfl qB0 ?_;(with_reducible refine (ih k1 (by have:=HK1.out;omega) (fun k_ =>(((P0_ k_∨w.heap.size≤k_)∧some k_≠(.slice Ao14 t210.length co14:Value).ownBlock)∧some k_≠(v214:Value).ownBlock)) _ _ ((a0M l0 aA).f7) t217 _ ?side1 A9.out).mono ?_);(case side1 =>exact cI.out);rintro e w15 ⟨v218,rfl,ho0,hb⟩;refine ⟨_,rfl,?_⟩;have bZ:=a0D.mk (Kd.a2O qO1 (Kd.a3H ho0) hb);have cA:=a0D.mk (Kd.a2O qP1 (Kd.a3H ho0) hb);have cM:=a0D.mk (Kd.a2O qQ1 (Kd.a3H ho0) hb);have dY:=a0D.mk (Kd.a2O qR1 (Kd.a3H ho0) hb);have kB:=a0D.mk (Kd.a2O qS1 (Kd.a3H ho0) hb);have kC:=a0D.mk (Kd.a2O qN2 (Kd.a3H ho0) hb);have kD:=a0D.mk (Kd.a2O qO2 (Kd.a3H ho0) hb);have lM:=a0D.mk (Kd.a2O qP2 (Kd.a3H ho0) hb);have lN:=a0D.mk (Kd.a2O qQ2 (Kd.a3H ho0) hb);have lO:=a0D.mk (Kd.a2P qN1 (Kd.a3H ho0) hb);have fG:=a0D.mk (Kd.a2P qG2 (Kd.a3H ho0) hb);have fH:=a0D.mk (Kd.a2O (by (with_reducible repeat (first | apply Kd.a1N | apply Kd.a1M | apply Kd.a1V));exact cO.out) (Kd.a3H ho0) hb);have iF:=a0D.mk (Kd.a2O (by (with_reducible repeat (first | apply Kd.a1N | apply Kd.a1M | apply Kd.a1V));exact cQ.out) (Kd.a3H ho0) hb);have iG:=a0D.mk (Kd.a2O (by (with_reducible repeat (first | apply Kd.a1N | apply Kd.a1M | apply Kd.a1V));exact cR.out) (Kd.a3H ho0) hb);have iH:=a0D.mk (Kd.a2O (by (with_reducible repeat (first | apply Kd.a1N | apply Kd.a1M | apply Kd.a1V));exact cI.out) (Kd.a3H ho0) hb);have iI:=a0D.mk (Kd.a7C (Kd.a3Q (ok':=fun k_ =>(P0_ k_∨w.heap.size≤k_)∧some k_≠(.slice Ao14 t210.length co14:Value).ownBlock∧some k_≠(v214:Value).ownBlock) ho0 (fun k_ hk_ =>⟨Or.elim hk_ (fun hs_ =>hs_.1.1) (fun hn_ =>(.inr (zE0 (a0R qC0) hn_))),Or.elim hk_ (fun hs_ =>hs_.1.2) (fun hn_ =>(Kd.fresh' (Kd.N_lt qN1) k_ hn_)),Or.elim hk_ (fun hs_ =>hs_.2) (fun hn_ =>(Kd.fresh' (Kd.N_lt qG2) k_ hn_))⟩)) (a0R qC0));have lP:=a0D.mk (Kd.a0H (by repeat (first | (with_reducible exact eW.out) | (with_reducible refine Kd.a1D ?_ _) | (with_reducible refine Kd.a1C ?_ _) | (with_reducible refine Kd.a1K ?_) | exact eW.out)) hb);have oY:=a0D.mk (Kd.a0H (by repeat (first | (with_reducible exact eX.out) | (with_reducible refine Kd.a1D ?_ _) | (with_reducible refine Kd.a1C ?_ _) | (with_reducible refine Kd.a1K ?_) | exact eX.out)) hb);have oZ:=a0D.mk (Kd.a0H (by repeat (first | (with_reducible exact eY.out) | (with_reducible refine Kd.a1D ?_ _) | (with_reducible refine Kd.a1C ?_ _) | (with_reducible refine Kd.a1K ?_) | exact eY.out)) hb);have pA:=a0D.mk (Kd.a0H (by repeat (first | (with_reducible exact eZ.out) | (with_reducible refine Kd.a1D ?_ _) | (with_reducible refine Kd.a1C ?_ _) | (with_reducible refine Kd.a1K ?_) | exact eZ.out)) hb);have pB:=a0D.mk (a0K qC0 hb);clear bV;clear aW;clear aX;clear aY;clear aZ;clear bJ;clear bK;clear bH;clear bM;clear HO212;clear HO215;clear cO;clear cQ;clear cR;clear cI;clear eW;clear eX;clear eY;clear eZ;clear HB;have bV:=bZ;have aW:=cA;have aX:=cM;have aY:=dY;have aZ:=kB;have bJ:=kC;have bK:=kD;have bH:=lM;have bM:=lN;have HO212:=lO;have HO215:=fG;have cO:=fH;have cQ:=iF;have cR:=iG;have cI:=iH;have HO219:=iI;have eW:=lP;have eX:=oY;have eY:=oZ;have eZ:=pA;have HB:=pB;clear bZ cA cM dY kB kC kD lM lN lO fG fH iF iG iH iI lP oY oZ pA pB;(try clear hb);(try clear hk);(try clear ho0);obtain ⟨Ao17,co17,eo17⟩:=Kd.a3V HO219.out;subst eo17) | ((with_reducible refine a1I (b:=.append) (xs:=#[.tmp 27,.tmp 33]) rfl ?_);at_builtin;refine Kd.a9F k65 (w0:=w) w.heap.size rfl (.tmp 27) (.tmp 33) 32 65 (.agg #[(.int .i64 0),(.string ⟨#[]⟩),(.string ⟨#[]⟩),(.string ⟨#[]⟩),(.slice none 0 0),(.slice none 0 0),(.slice none 0 0),(.slice none 0 0)]) 152 rfl Tryz.underlying32 b8H rfl qF0 qD0 v214 y213 t217 _ _ _ (fun k_ =>(P0_ k_∨w.heap.size≤k_)) (fun k_ =>((fun k_ =>(P0_ k_∨w.heap.size≤k_))) k_∧some k_≠(v214:Value).ownBlock) rfl rfl ?aO ?aR (fun _ hk =>hk) ?aF ?aB ?aS ?aL ?_;(case aR =>exact (by skip;exact Kd.N_F (Kd.a3Q (ok':=(fun k_ =>((fun k_ =>(P0_ k_∨w.heap.size≤k_))) k_∧some k_≠(v214:Value).ownBlock)) (HO219.out) (fun k_ hk =>⟨hk.1,hk.2.2⟩))));(case aB =>exact qC0);(case aF =>exact (fun k_ hk =>(.inr (zE0 (a0R qC0) hk))));(case aO =>exact (by (with_reducible repeat (first | apply Kd.a1P | apply Kd.a1O | apply Kd.a1T));exact Kd.a3Q HO215.out (fun _ hk =>hk.1)));(case aS =>exact (a0R qC0));(case aL =>have:=LMc10.out;omega);intro v221 w16 ho hb hg hat;rw [← Ny220.out] at ho;have bZ:=a0D.mk (Kd.a2E (ok:=(fun k_ =>(P0_ k_∨w.heap.size≤k_)∧some k_≠(.slice Ao14 t210.length co14:Value).ownBlock∧some k_≠(.slice Ao17 t217.length co17:Value).ownBlock)) (by (with_reducible repeat (first | apply Kd.a1N | apply Kd.a1M | apply Kd.a1V));exact Kd.a3C bV.out (fun _ hk =>⟨⟨hk.1.1.1,⟨hk.1.1.2,hk.2⟩⟩,hk.1.2⟩)) hg hat);have cA:=a0D.mk (Kd.a2E (ok:=(fun k_ =>(P0_ k_∨w.heap.size≤k_)∧some k_≠(.slice Ao14 t210.length co14:Value).ownBlock∧some k_≠(.slice Ao17 t217.length co17:Value).ownBlock)) (by (with_reducible repeat (first | apply Kd.a1N | apply Kd.a1M | apply Kd.a1V));exact Kd.a3C aW.out (fun _ hk =>⟨⟨hk.1.1.1,⟨hk.1.1.2,hk.2⟩⟩,hk.1.2⟩)) hg hat);have cM:=a0D.mk (Kd.a2E (ok:=(fun k_ =>(P0_ k_∨w.heap.size≤k_)∧some k_≠(.slice Ao14 t210.length co14:Value).ownBlock∧some k_≠(.slice Ao17 t217.length co17:Value).ownBlock)) (by (with_reducible repeat (first | apply Kd.a1N | apply Kd.a1M | apply Kd.a1V));exact Kd.a3C aX.out (fun _ hk =>⟨⟨hk.1.1.1,⟨hk.1.1.2,hk.2⟩⟩,hk.1.2⟩)) hg hat);have dY:=a0D.mk (Kd.a2E (ok:=(fun k_ =>(P0_ k_∨w.heap.size≤k_)∧some k_≠(.slice Ao14 t210.length co14:Value).ownBlock∧some k_≠(.slice Ao17 t217.length co17:Value).ownBlock)) (by (with_reducible repeat (first | apply Kd.a1N | apply Kd.a1M | apply Kd.a1V));exact Kd.a3C aY.out (fun _ hk =>⟨⟨hk.1.1.1,⟨hk.1.1.2,hk.2⟩⟩,hk.1.2⟩)) hg hat);have kB:=a0D.mk (Kd.a2E (ok:=(fun k_ =>(P0_ k_∨w.heap.size≤k_)∧some k_≠(.slice Ao14 t210.length co14:Value).ownBlock∧some k_≠(.slice Ao17 t217.length co17:Value).ownBlock)) (by (with_reducible repeat (first | apply Kd.a1N | apply Kd.a1M | apply Kd.a1V));exact Kd.a3C aZ.out (fun _ hk =>⟨⟨hk.1.1.1,⟨hk.1.1.2,hk.2⟩⟩,hk.1.2⟩)) hg hat);have kC:=a0D.mk (Kd.a2E (ok:=(fun k_ =>(P0_ k_∨w.heap.size≤k_)∧some k_≠(.slice Ao14 t210.length co14:Value).ownBlock∧some k_≠(.slice Ao17 t217.length co17:Value).ownBlock)) (by (with_reducible repeat (first | apply Kd.a1N | apply Kd.a1M | apply Kd.a1V));exact Kd.a3C bJ.out (fun _ hk =>⟨⟨hk.1.1.1,⟨hk.1.1.2,hk.2⟩⟩,hk.1.2⟩)) hg hat);have kD:=a0D.mk (Kd.a2E (ok:=(fun k_ =>(P0_ k_∨w.heap.size≤k_)∧some k_≠(.slice Ao14 t210.length co14:Value).ownBlock∧some k_≠(.slice Ao17 t217.length co17:Value).ownBlock)) (by (with_reducible repeat (first | apply Kd.a1N | apply Kd.a1M | apply Kd.a1V));exact Kd.a3C bK.out (fun _ hk =>⟨⟨hk.1.1.1,⟨hk.1.1.2,hk.2⟩⟩,hk.1.2⟩)) hg hat);have lM:=a0D.mk (Kd.a2E (ok:=(fun k_ =>(P0_ k_∨w.heap.size≤k_)∧some k_≠(.slice Ao14 t210.length co14:Value).ownBlock∧some k_≠(.slice Ao17 t217.length co17:Value).ownBlock)) (by (with_reducible repeat (first | apply Kd.a1N | apply Kd.a1M | apply Kd.a1V));exact Kd.a3C bH.out (fun _ hk =>⟨⟨hk.1.1.1,⟨hk.1.1.2,hk.2⟩⟩,hk.1.2⟩)) hg hat);have lN:=a0D.mk (Kd.a2E (ok:=(fun k_ =>(P0_ k_∨w.heap.size≤k_)∧some k_≠(.slice Ao14 t210.length co14:Value).ownBlock∧some k_≠(.slice Ao17 t217.length co17:Value).ownBlock)) (by (with_reducible repeat (first | apply Kd.a1N | apply Kd.a1M | apply Kd.a1V));exact Kd.a3C bM.out (fun _ hk =>⟨⟨hk.1.1.1,⟨hk.1.1.2,hk.2⟩⟩,hk.1.2⟩)) hg hat);have lO:=a0D.mk (Kd.b4G (ok:=(fun k_ =>(P0_ k_∨w.heap.size≤k_)∧some k_≠(.slice Ao17 t217.length co17:Value).ownBlock)) (by (with_reducible repeat (first | apply Kd.a1P | apply Kd.a1O | apply Kd.a1T));exact Kd.a3Q HO212.out (fun _ hk =>⟨⟨hk.1.1,hk.2⟩,hk.1.2⟩)) hg hat);have fG:=a0D.mk (Kd.a2E (ok:=(fun k_ =>(P0_ k_∨w.heap.size≤k_)∧some k_≠(.slice Ao14 t210.length co14:Value).ownBlock∧some k_≠(.slice Ao17 t217.length co17:Value).ownBlock)) (by (with_reducible repeat (first | apply Kd.a1N | apply Kd.a1M | apply Kd.a1V));exact Kd.a3C cO.out (fun _ hk =>⟨⟨hk.1.1.1,⟨hk.1.1.2,hk.2⟩⟩,hk.1.2⟩)) hg hat);have fH:=a0D.mk (Kd.a2E (ok:=(fun k_ =>(P0_ k_∨w.heap.size≤k_)∧some k_≠(.slice Ao14 t210.length co14:Value).ownBlock∧some k_≠(.slice Ao17 t217.length co17:Value).ownBlock)) (by (with_reducible repeat (first | apply Kd.a1N | apply Kd.a1M | apply Kd.a1V));exact Kd.a3C cQ.out (fun _ hk =>⟨⟨hk.1.1.1,⟨hk.1.1.2,hk.2⟩⟩,hk.1.2⟩)) hg hat);have iF:=a0D.mk (Kd.a2E (ok:=(fun k_ =>(P0_ k_∨w.heap.size≤k_)∧some k_≠(.slice Ao14 t210.length co14:Value).ownBlock∧some k_≠(.slice Ao17 t217.length co17:Value).ownBlock)) (by (with_reducible repeat (first | apply Kd.a1N | apply Kd.a1M | apply Kd.a1V));exact Kd.a3C cR.out (fun _ hk =>⟨⟨hk.1.1.1,⟨hk.1.1.2,hk.2⟩⟩,hk.1.2⟩)) hg hat);have iG:=a0D.mk (Kd.a2E (ok:=(fun k_ =>(P0_ k_∨w.heap.size≤k_)∧some k_≠(.slice Ao14 t210.length co14:Value).ownBlock∧some k_≠(.slice Ao17 t217.length co17:Value).ownBlock)) (by (with_reducible repeat (first | apply Kd.a1N | apply Kd.a1M | apply Kd.a1V));exact Kd.a3C cI.out (fun _ hk =>⟨⟨hk.1.1.1,⟨hk.1.1.2,hk.2⟩⟩,hk.1.2⟩)) hg hat);have iH:=a0D.mk (Kd.b4G (ok:=(fun k_ =>(P0_ k_∨w.heap.size≤k_)∧some k_≠(.slice Ao14 t210.length co14:Value).ownBlock)) (by (with_reducible repeat (first | apply Kd.a1P | apply Kd.a1O | apply Kd.a1T));exact Kd.a3Q HO219.out (fun _ hk =>⟨⟨hk.1,hk.2.1⟩,hk.2.2⟩)) hg hat);have iI:=a0D.mk (hb);have lP:=a0D.mk (ho);clear bV;clear aW;clear aX;clear aY;clear aZ;clear bJ;clear bK;clear bH;clear bM;clear HO212;clear cO;clear cQ;clear cR;clear cI;clear HO219;clear HB;clear HO215;have bV:=bZ;have aW:=cA;have aX:=cM;have aY:=dY;have aZ:=kB;have bJ:=kC;have bK:=kD;have bH:=lM;have bM:=lN;have HO212:=lO;have cO:=fG;have cQ:=fH;have cR:=iF;have cI:=iG;have HO219:=iH;have HB:=iI;have HO222:=lP;clear bZ cA cM dY kB kC kD lM lN lO fG fH iF iG iH iI lP;clear ho hb hg hat));go_roundg k1
        case measure =>have:=HK1.out;omega
        case rel =>exact ⟨(y220),(wrap64 (aA + 1)),qH0,H',⟨by have:=HK1.out;omega⟩,⟨by (with_reducible repeat (first | apply Kd.a1N | apply Kd.a1M | apply Kd.a1V));exact Kd.a3C bV.out (fun _ hk =>⟨hk.1.1,hk.2⟩)⟩,⟨by (with_reducible repeat (first | apply Kd.a1P | apply Kd.a1O | apply Kd.a1T));exact HO222.out⟩,⟨by repeat (first | (with_reducible first | exact HB.out | apply a0C | apply a0A | apply a0E) | exact HB.out)⟩⟩
       ·rw [if_neg c10] at H;exact absurd H qI0
      ·rw [if_neg c8] at H;exact absurd H qI0
     ·rw [if_neg c6] at H;exact absurd H qI0
    ·rw [if_neg c5] at H;exact absurd H qI0
   ·rw [if_neg c4] at H;have c4b0:decide (aA < (l0.length:Int)) = false:=zO0 c4;clear c4;obtain rfl:=zI0 H;go_wp2;go_ret;exact ⟨_,by first | rfl | (simp [a0X,a0W] <;> rfl) | (simp [*,a0X,a0W] <;> rfl),by (with_reducible repeat (first | apply Kd.a1P | apply Kd.a1O | apply Kd.a1T));exact bD.out,by repeat (first | (with_reducible first | exact HB.out | apply a0C | apply a0A | apply a0E) | exact HB.out)⟩
def r05_Fun.l0:Nat→ByteArray→Int→List (S34)→Option (Int)
 | 0,_,_,_ =>none
 | k + 1,x1,x5,x224000 =>if x5 < (x224000.length:Int) then (if 0≤x5 then (if ((a0S x224000 x5).f0).toList = x1.toList then (some x5) else (r05_Fun.l0 k x1 (wrap64 (x5 + 1)) x224000)) else (none)) else (some (-1))
def r05_Fun.f (k:Nat) (aD:List (S34)) (a1:ByteArray):Option (Int):=r05_Fun.l0 k a1 0 aD
theorem r05_Fun.calls (k:Nat) (bT:Option Addr) (bI:Nat) (aD:List (S34)) (a1:ByteArray) (r:Int) (w:World) (cU:Kd.C k34 w bT aD.length aD) (cV:aD.length≤bI) (h:r05_Fun.f k aD a1 = some r) :
    Calls Tryz.prog 60 #[.agg #[.slice bT aD.length bI],.string a1] w fun e w' =>e = .returned (.int .i64 r)∧Below w.heap.size w w':=by
 have hu24:=Tryz.underlying24;have cW:=a0D.mk cU;have iS:=a0D.mk cV;clear cU cV;have HB:=a0D.mk (zL0 w.heap.size w);have H:(r05_Fun.l0 k a1 0 aD) = some r:=h;clear h;have H':=a0D.mk H;clear H;go_enter Tryz.func60,Tryz.ntmps60
 go_wp2_with (first | ((with_reducible refine a0T (N:=2) rfl ?_);refine a2A ?hg (N:=2) ?hd (cs:=#[.slice bT aD.length bI]) (t:=24) ?hr ?_;(case hd =>rfl);(case hg =>rfl);(case hr =>first | (go_simp;done) | (go_simp;rfl));intro lQ hg w3 hbox hb;have bZ:=a0D.mk (a0K qC0 hb);have cA:=a0D.mk (hbox);have cM:=a0D.mk ((by rw [hg];exact (a0R qC0):w.heap.size≤lQ));have dY:=a0D.mk ((by rw [hg];exact (a0R qC0):w.heap.size≤lQ));clear HB;have HB:=bZ;have fK:=cA;have GW223:=cM;have kY:=dY;clear bZ cA cM dY;clear hb hbox hg));go_loopg [5] k (fun kq v5 w' =>∃ (aN:Int),v5 = .int .i64 aN∧a0D (r05_Fun.l0 kq a1 aN aD = some r)∧a0D (kq≤k)∧a0D (w'.heap[lQ]? = some (.cells #[(.slice bT aD.length bI)] 24 (0,0)))∧a0D (Below w.heap.size w w'))
 case atStart =>exact ⟨(0),qH0,H',⟨zM0 _⟩,⟨by (with_reducible repeat (first | refine a0N ?_ _ | refine a0O ?_ | refine a0J ?_ _));exact fK.out⟩,⟨by repeat (first | (with_reducible first | exact HB.out | apply a0C | apply a0A | apply a0E | refine a0F ?_ kY.out) | exact HB.out)⟩⟩
 case round =>
  clear H';obtain ⟨aN,rfl,HA,HK1,fK,HB⟩:=hrel;cases gk with
  | zero =>exact absurd HA.out (by simp [r05_Fun.l0])
  | succ k1 =>
   have H:=HA.out;clear HA;simp only [r05_Fun.l0] at H;by_cases c4:aN < (aD.length:Int)
   ·rw [if_pos c4] at H;have c4b0:decide (aN < (aD.length:Int)) = true:=zD0 c4;clear c4;by_cases c5:0≤aN
    ·rw [if_pos c5] at H;have c5b0:decide (0≤aN) = true:=zD0 c5;clear c5;by_cases c6:((a0S aD aN).f0).toList = a1.toList
     ·rw [if_pos c6] at H;have c6b0:(((a0S aD aN).f0).toList == a1.toList) = true:=beq_iff_eq.mpr c6;have c6b1:(((a0S aD aN).f0).toList != a1.toList) = false:=bne_eq_false_iff_eq.mpr c6;clear c6;obtain rfl:=zI0 H;have nL:=cf1 fK.out;have p224:0≤(aN:Int):=zB0 qA0;have q224:aN < (aD.length:Int):=zB0 qA0;obtain ⟨ad224,oM,oN,oO,oP,e224,dQ,dR,dS,dT,dU,dV,dW⟩:=a5F cW.out aN p224 q224;cases e224;replace dQ:=a0B HB.out dQ;replace dR:=a0B HB.out dR;replace dS:=a0B HB.out dS;have mY:=a0D.mk dU;have mZ:=a0D.mk dT;clear dU dT;have nA:=a0D.mk dW;have nB:=a0D.mk dV;clear dW dV;replace p224:=eq_true p224;replace q224:=eq_true q224;go_wp2;go_ret;exact qW3
     ·rw [if_neg c6] at H;have c6b0:(((a0S aD aN).f0).toList == a1.toList) = false:=beq_eq_false_iff_ne.mpr c6;have c6b1:(((a0S aD aN).f0).toList != a1.toList) = true:=bne_iff_ne.mpr c6;have H':=a0D.mk H;clear H;have sX:=cf1 fK.out;have p224:0≤(aN:Int):=zB0 qA0;have q224:aN < (aD.length:Int):=zB0 qA0;obtain ⟨ad224,oM,oN,oO,oP,e224,dQ,dR,dS,dT,dU,dV,dW⟩:=a5F cW.out aN p224 q224;cases e224;replace dQ:=a0B HB.out dQ;replace dR:=a0B HB.out dR;replace dS:=a0B HB.out dS;have mY:=a0D.mk dU;have mZ:=a0D.mk dT;clear dU dT;have nA:=a0D.mk dW;have nB:=a0D.mk dV;clear dW dV;replace p224:=eq_true p224;replace q224:=eq_true q224;go_wp2;go_roundg k1
      case measure =>have:=HK1.out;omega
      case rel =>exact ⟨(wrap64 (aN + 1)),qH0,H',⟨by have:=HK1.out;omega⟩,⟨by (with_reducible repeat (first | refine a0N ?_ _ | refine a0O ?_ | refine a0J ?_ _));exact fK.out⟩,⟨by repeat (first | (with_reducible first | exact HB.out | apply a0C | apply a0A | apply a0E | refine a0F ?_ kY.out) | exact HB.out)⟩⟩
    ·rw [if_neg c5] at H;exact absurd H qI0
   ·rw [if_neg c4] at H;have c4b0:decide (aN < (aD.length:Int)) = false:=zO0 c4;clear c4;obtain rfl:=zI0 H;have sY:=cf1 fK.out;go_wp2;go_ret;exact qW3
end Go.Proofs.YthhgfncliffggaaGreat.Pr
namespace Go.Proofs.YthhgfncliffggaaGreat.Man
open Go.RowKit Go.Proofs.YthhgfncliffggaaGreat.Pr Go.Proofs.YthhgfncliffggaaGreatW.PrintWords
theorem pzB (n:Nat) (h:n≤1000000000):wrap64 ((n:Int) + 1) = ((n + 1:Nat):Int):=by simp only [wrap64];omega
def Low (l:List S65):Prop:=l.length≤2000000∧∀ s ∈ flat l,s.f6.length≤2000000∧s.f7.length≤2000000
theorem c2V (l:List S65) (k:Nat) (h:k < l.length) (s:S65) (hs:s ∈ flat (a0M l k).f6):s ∈ flat l:=a7X l k h s (by simp [hs])
theorem c2U (l:List S65) (k:Nat) (h:k < l.length) (s:S65) (hs:s ∈ flat (a0M l k).f7):s ∈ flat l:=a7X l k h s (by simp [hs])
theorem Low.sub {l:List S65} (h:Low l) (k:Nat) (hk:k < l.length):Low (a0M l (k:Int)).f6∧Low (a0M l (k:Int)).f7:=by
 have h0:=h.2 _ (a7X l k hk (a0M l k) qI0);exact ⟨⟨h0.1,fun s hs =>h.2 s (c2V l k hk s hs)⟩,⟨h0.2,fun s hs =>h.2 s (c2U l k hk s hs)⟩⟩
theorem deep_ev:∀ (m:Nat) (l:List S65),SizeOf.sizeOf l < m→Low l→∀ a:Int,∃ r,Ev (fun k =>r03_Deep.f k l a) r:=by
 intro m
 induction m with
 | zero =>intro l h;omega
 | succ m ih =>
  intro l hm hl a;have hlen:=hl.1;have main:∀ d i:Nat,i + d = l.length→∀ x5:Int,∃ r,Ev (fun k =>r03_Deep.l0 k l a x5 (i:Int)) r:=by
   intro d
   induction d with
   | zero =>
    intro i hi x5;have c:¬ (i:Int) < (l.length:Int):=by omega
    refine ⟨x5,Ev.step ?_⟩;simp only [r03_Deep.l0,if_neg c];refine Ev.step ?_;simp only [r03_Deep.j1,Bool.false_eq_true,if_false];exact Ev.const _
   | succ d ihd =>
    intro i hi x5;have c:(i:Int) < (l.length:Int):=by omega
    have c0:0≤(i:Int):=zJ0 i;by_cases ha:a > 0
    ·obtain ⟨h6,h7⟩:=hl.sub i qD0;obtain ⟨s6,s7⟩:=b0F l i qD0;obtain ⟨r6,e6⟩:=ih _ qD0 h6 (wrap64 (a - 1));obtain ⟨r7,e7⟩:=ih _ qD0 h7 (wrap64 (a - 1));obtain ⟨r,e⟩:=ihd (i + 1) qD0 (mx x5 (wrap64 (1 + (mx r6 r7))));refine ⟨r,Ev.step ?_⟩;simp only [r03_Deep.l0,if_pos c,zD0 ha];refine Ev.step ?_;simp only [r03_Deep.j1,if_true,if_pos c0,if_pos c];refine Ev.bind e6 (Ev.bind e7 ?_);rw [pzB i qD0];exact e
    ·refine ⟨x5,Ev.step ?_⟩;simp only [r03_Deep.l0,if_pos c,zO0 ha];refine Ev.step ?_;simp only [r03_Deep.j1,Bool.false_eq_true,if_false];exact Ev.const _
  obtain ⟨r,e⟩:=main l.length 0 qD0 0;refine ⟨r,Ev.step ?_⟩;simp only [r03_Deep.f];exact e
def LowP (fs:List S34):Prop:=fs.length≤2000000∧∀ f ∈ fs,f.f1.length≤2000000∧(flat f.f2).length≤2000000∧Low f.f2
theorem b3L {fs:List S34} {i:Nat} (h:i < fs.length):a0S fs (i:Int) ∈ fs:=by
 unfold a0S;rw [zP0,zK0,zF0 h];exact zE1 h
theorem b6O {fs:List S34} {i:Nat} (h:i < fs.length):a0S fs (i:Int) = fs[i]:=by
 unfold a0S;rw [zP0,zK0,zF0 h];rfl
theorem eta_stmt (s:S65):(⟨s.f0,s.f1,s.f2,s.f3,s.f4,s.f5,s.f6,s.f7⟩:S65) = s:=by cases s;rfl
theorem c2H:∀ (m:Nat) (l:List S65),SizeOf.sizeOf l < m→Low l→(flat l).length≤2000000→Ev (fun k =>r04_List.f k l) (flat l):=by
 intro m
 induction m with
 | zero =>intro l h;omega
 | succ m ih =>
  intro l hm hl hn;have hlen:=hl.1;have main:∀ d i:Nat,i + d = l.length→Ev (fun k =>r04_List.l0 k l (flat (l.take i)) (i:Int)) (flat l):=by
   intro d
   induction d with
   | zero =>
    intro i hi;have c:¬ (i:Int) < (l.length:Int):=by omega
    refine Ev.step ?_;simp only [r04_List.l0,if_neg c];rw [show l.take i = l from zX2 qD0];exact Ev.const _
   | succ d ihd =>
    intro i hi;have hil:i < l.length:=by omega
    have c:(i:Int) < (l.length:Int):=by omega
    have c0:0≤(i:Int):=zJ0 i;obtain ⟨h6,h7⟩:=hl.sub i hil;obtain ⟨s6,s7⟩:=b0F l i hil;have hfl:=b8O l i hil;have e6:=ih _ qD0 h6 qD0;have e7:=ih _ qD0 h7 qD0;have e:=ihd (i + 1) qD0;have ht:=a3W l i hil;have hg:l[i] = a0M l (i:Int):=by unfold a0M;simp [List.getD,hil]
    rw [hg] at ht;refine Ev.step ?_;have c1:(flat (l.take i)).length < 925904528653:=by omega
    have c2:(flat (l.take i) ++ [a0M l (i:Int)]).length + (flat (a0M l (i:Int)).f6).length < 925904528653:=by simp;omega
    have c3:(flat (l.take i) ++ [a0M l (i:Int)] ++ flat (a0M l (i:Int)).f6).length + (flat (a0M l (i:Int)).f7).length < 925904528653:=by simp;omega
    simp only [r04_List.l0,if_pos c,if_pos c0,if_pos c1,eta_stmt,zN0];refine Ev.bind e6 ?_;simp only [if_pos c2,zN0];refine Ev.bind e7 ?_;simp only [if_pos c3];rw [pzB i qD0];rw [ht] at e;simpa [zP2] using e
  have:=main l.length 0 qD0;refine Ev.step ?_;simp only [r04_List.f];simpa [flat] using this
theorem fun_ev (fs:List S34) (hl:fs.length≤2000000) (nm:ByteArray):Ev (fun k =>r05_Fun.f k fs nm) (funIx fs nm):=by
 have main:∀ d i:Nat,i + d = fs.length→Ev (fun k =>r05_Fun.l0 k nm (i:Int) fs) (firstIx nm (fs.drop i) i):=by
  intro d
  induction d with
  | zero =>
   intro i hi;have c:¬ (i:Int) < (fs.length:Int):=by omega
   refine Ev.step ?_;simp only [r05_Fun.l0,if_neg c];rw [zW2 qD0];exact Ev.const _
  | succ d ihd =>
   intro i hi;have c:(i:Int) < (fs.length:Int):=by omega
   have c0:0≤(i:Int):=zJ0 i;have e:=ihd (i + 1) qD0;rw [b8Q fs i qD0];refine Ev.step ?_;simp only [r05_Fun.l0,if_pos c,if_pos c0,firstIx];by_cases h:(a0S fs (i:Int)).f0.toList = nm.toList
   ·have h':((a0S fs (i:Int)).f0.toList == nm.toList) = true:=by simpa using h
    simp only [if_pos h,h',if_true];exact Ev.const _
   ·have h':((a0S fs (i:Int)).f0.toList == nm.toList) = false:=by simpa using h
    simp only [if_neg h,h',Bool.false_eq_true,if_false];rw [pzB i qD0];exact e
 exact main fs.length 0 qD0
def leads (fs:List S34) (L:List S65) (g:Int):Bool:=L.any fun s =>s.f0 == 6 || (s.f0 == 5 && funIx fs s.f3 == g)
theorem c1G (L:List S65) (i:Nat) (h:i < L.length):L.drop i = a0M L (i:Int) :: L.drop (i + 1):=by
 rw [zO2 h]
 congr 1
 unfold a0M;simp [List.getD,h]
attribute [local go_sem] Oper.semAt_some
theorem b9I (w:World) (fs:List S34) (A:Option Addr) (c:Nat) (hc:fs.length≤c) (hC:Kd.C k34 w A fs.length fs) (hl:LowP fs) (i:Nat) (hi:i < fs.length) (g:Int) :
  Calls Tryz.prog 40 #[.agg #[.slice A fs.length c],.int .i64 (i:Int),.int .i64 g] w fun e w' =>e = .returned (.bool (leads fs (flat (a0S fs (i:Int)).f2) g))∧Below w.heap.size w w':=by
 have hf:=hl.2 _ (b3L hi);obtain ⟨kl,ekl⟩:=c2H _ _ (zR0 _) hf.2.2 hf.2.1;have HL:=zA0 (ekl kl (zM0 _));have hfun:∀ nm,∃ k,r05_Fun.f k fs nm = some (funIx fs nm):=fun nm =>by obtain ⟨k,e⟩:=fun_ev fs hl.1 nm;exact ⟨k,e k (zM0 _)⟩
 have HFUN:=zA0 hfun
 obtain ⟨ad,A1,c1,A2,c2,eA,y0,y1,y2,_,_,l2,g2⟩:=a5F hC (i:Int) qD0 qD0;subst eA;rw [zP0] at y0 y1 y2;have hLn:=zA0 hf.2.1;have HB:=zA0 (zL0 w.heap.size w);have K0:=zA0 hC;have G2:=zA0 g2;have Y2:=zA0 y2;obtain ⟨F,hF⟩:∃ F,F = a0S fs (i:Int):=⟨_,rfl⟩;rw [← hF] at y0 y1 y2 l2 G2 Y2 HL hLn ⊢;have HI:=zA0 hi;have lt2:=zT0 _ _ y2;have c_i:(0:Int)≤(i:Int):=zJ0 i;have c_l:(i:Int) < (fs.length:Int):=by omega
 clear hfun hf ekl hF y0 y1 g2 hC hi
 go_enter Tryz.func40,Tryz.ntmps40
 go_wp2_with (first
  | ((with_reducible refine a0T (N:=3) rfl ?_);refine a2A ?hg (N:=3) ?hd (cs:=#[.slice (some ad) fs.length c]) (t:=24) ?hr ?_;(case hd =>rfl);(case hg =>rfl);(case hr =>first | (go_simp;done) | (go_simp;rfl));intro g3 hg w1 hx hb;have y2:=(hb.cell lt2).trans Y2.out;have HB:=zA0 (a0K HB.out hb);have B3:=zA0 (One.mk hx);clear hx hb hg;obtain ⟨iA,_⟩:=B3.out.c)
  | (go_at_call 34;((with_reducible refine (r04_List.calls kl _ A2 c2 F.f2 _ _ (Kd.V_mk l2 (Kd.a1Z (Kd.C_F b0J G2.out) HB.out)) HL.out).mono ?_));rintro e w2 ⟨v,rfl,hN,hb⟩;obtain ⟨AL,cL,rfl⟩:=Kd.a3V hN;have HCL:=zA0 (Kd.a2G hN).2.1;have KL:=zA0 (Kd.a2G hN).2.2;clear iA y2;have B3:=zA0 (B3.out.below hb);have HB:=zA0 (a0K HB.out hb);clear hb hN;obtain ⟨iA,_⟩:=B3.out.c))
 obtain ⟨L,hL⟩:∃ L,L = flat F.f2:=⟨_,rfl⟩;rw [← hL] at hLn HCL KL ⊢;have HLL:=zA0 hL;clear hL HL;go_loopg [8] L.length (fun kq v8 w' =>∃ j:Nat,j + kq = L.length∧v8 = .int .i64 j∧Hid (leads fs (L.drop j) g = leads fs L g)∧Hid (Below w.heap.size w w')∧Hid (One w' g3 (.slice (some ad) fs.length c) 24)∧Hid (Kd.C k65 w' AL L.length L))
 case atStart =>exact ⟨0,zY1 _,rfl,zA0 rfl,HB,B3,KL⟩
 case round =>
  obtain ⟨j,hj,rfl,HI2,HB,B3,KL⟩:=hrel;clear iA y2;by_cases hlt:j < L.length
  ·obtain ⟨ae,A4,c4,A5,c5,A6,c6,A7,c7,eA,x0,x1,x2,x3,_⟩:=a9C KL.out (j:Int) (zJ0 j) (zG1.2 hlt);subst eA;rw [zP0] at x0 x1 x2 x3;have ltx:=zT0 _ _ x0;have lty:=zT0 _ _ x3;obtain ⟨iA,_⟩:=B3.out.c;have lt3:=zT0 _ _ iA;have K0r:=zA0 (Kd.a0H K0.out HB.out);have hw:=pzB j (zE0 (zZ1 hlt) (zE0 hLn.out qF0));have c_j:(0:Int)≤(j:Int):=zJ0 j;have c_n:(j:Int) < (L.length:Int):=zG1.2 hlt;have hd:=zA0 (c1G L j hlt);have hB0:Below wr.heap.size wr wr:=zL0 _ _;obtain ⟨k1,rfl⟩:∃ k1,gk = k1 + 1:=Nat.exists_eq_add_one_of_ne_zero qK1;clear x1 x2;by_cases h6:(a0M L (j:Int)).f0 = 6
   ·have b6:((a0M L (j:Int)).f0 == 6) = true:=by simpa using h6
    have hres:=zA0 (show leads fs L g = true by rw [← HI2.out,hd.out];unfold leads;rw [zZ3,b6];rfl);clear h6;go_wp2
    go_quiet (fail)
    go_wp2;go_ret;exact ⟨by rw [← HLL.out,hres.out];rfl,a0K HB.out qT0⟩
   ·have b6:((a0M L (j:Int)).f0 == 6) = false:=by simpa using h6
    clear h6;by_cases h5:(a0M L (j:Int)).f0 = 5
    ·have b5:((a0M L (j:Int)).f0 == 5) = true:=by simpa using h5
     obtain ⟨kf,hkf⟩:=HFUN.out (a0M L (j:Int)).f3;obtain ⟨q,hq⟩:∃ q,q = funIx fs (a0M L (j:Int)).f3:=⟨_,rfl⟩
     rw [← hq] at hkf;have HKF:=zA0 hkf;have HQ:=zA0 hq;clear hkf hq h5;by_cases hg:q = g
     ·have bg:(q == g) = true:=by simpa using hg
      have hres:=zA0 (show leads fs L g = true by rw [← HI2.out,hd.out];unfold leads;rw [zZ3,b6,b5,← HQ.out,bg];rfl);clear hg;go_wp2
      go_region_held3 (fun w' =>w'.cell? (ae.add (j * 8)) = some (.int .i64 (a0M L (j:Int)).f0)∧w'.cell? ⟨(ae.add (j * 8)).block,(ae.add (j * 8)).off + 3,none⟩ = some (.string (a0M L (j:Int)).f3)∧w'.cell? ⟨g3,0,none⟩ = some (.slice (some ad) fs.length c)∧Below wr.heap.size wr w') (first | exact ⟨x0,x3,iA,Below.drew hB0⟩ | exact ⟨(hb.cell ltx).trans x0,(hb.cell (p:=⟨(ae.add (j * 8)).block,(ae.add (j * 8)).off + 3,none⟩) ltx).trans x3,(hb.cell (p:=⟨g3,0,none⟩) lt3).trans iA,Below.trans (Below.drew hB0) (hb.mono (zM0 _))⟩ | go_keep | (go_split_ands;exact ⟨(hb.cell (zJ1 ltx (Below.size qI1))).trans qI1,(hb.cell (zJ1 ltx (Below.size qI1))).trans qI1,(hb.cell (zJ1 lt3 (Below.size qI1))).trans qI1,Below.trans qI1 (hb.mono (Below.size qI1))⟩) | (go_split_ands;exact ⟨by assumption,by assumption,by assumption,Below.drew qI1⟩)) (first | (go_split_ands;go_at_call 60;refine (r05_Fun.calls kf (some ad) c fs (a0M L (j:Int)).f3 q _ (Kd.a0H K0r.out qI1) hc HKF.out).mono ?_;rintro e w3 ⟨rfl,hb⟩))
      go_wp2;go_ret;exact ⟨by rw [← HLL.out,hres.out];rfl,a0K HB.out qT0⟩
     ·have bg:(q == g) = false:=by simpa using hg
      have hres:=zA0 (show leads fs (L.drop (j + 1)) g = leads fs L g by rw [← HI2.out,hd.out];unfold leads;rw [zZ3,b6,b5,← HQ.out,bg];rfl);clear hg;go_wp2
      go_region_held3 (fun w' =>w'.cell? (ae.add (j * 8)) = some (.int .i64 (a0M L (j:Int)).f0)∧w'.cell? ⟨(ae.add (j * 8)).block,(ae.add (j * 8)).off + 3,none⟩ = some (.string (a0M L (j:Int)).f3)∧w'.cell? ⟨g3,0,none⟩ = some (.slice (some ad) fs.length c)∧Below wr.heap.size wr w') (first | exact ⟨x0,x3,iA,Below.drew hB0⟩ | exact ⟨(hb.cell ltx).trans x0,(hb.cell (p:=⟨(ae.add (j * 8)).block,(ae.add (j * 8)).off + 3,none⟩) ltx).trans x3,(hb.cell (p:=⟨g3,0,none⟩) lt3).trans iA,Below.trans (Below.drew hB0) (hb.mono (zM0 _))⟩ | go_keep | (go_split_ands;exact ⟨(hb.cell (zJ1 ltx (Below.size qI1))).trans qI1,(hb.cell (zJ1 ltx (Below.size qI1))).trans qI1,(hb.cell (zJ1 lt3 (Below.size qI1))).trans qI1,Below.trans qI1 (hb.mono (Below.size qI1))⟩) | (go_split_ands;exact ⟨by assumption,by assumption,by assumption,Below.drew qI1⟩)) (first | (go_split_ands;go_at_call 60;refine (r05_Fun.calls kf (some ad) c fs (a0M L (j:Int)).f3 q _ (Kd.a0H K0r.out qI1) hc HKF.out).mono ?_;rintro e w3 ⟨rfl,hb⟩))
      go_wp2;go_roundg k1
      case measure =>exact zR0 _
      case rel =>exact ⟨j + 1,by rw [zA1,zC1 1];exact hj,by first | rw [hw] | simp,hres,zA0 (a0K HB.out qT0),zA0 (B3.out.below qT0),zA0 (Kd.a0H KL.out qT0)⟩
    ·have b5:((a0M L (j:Int)).f0 == 5) = false:=by simpa using h5
     have hres:=zA0 (show leads fs (L.drop (j + 1)) g = leads fs L g by rw [← HI2.out,hd.out];unfold leads;rw [zZ3,b6,b5];rfl);clear h5;go_wp2
     go_quiet (fail)
     go_wp2;go_roundg k1
     case measure =>exact zR0 _
     case rel =>exact ⟨j + 1,by rw [zA1,zC1 1];exact hj,by first | rw [hw] | simp,hres,zA0 (a0K HB.out qT0),zA0 (B3.out.below qT0),zA0 (Kd.a0H KL.out qT0)⟩
  ·have hje:j = L.length:=Nat.le_antisymm qA2 (Nat.le_of_not_lt hlt);have hres:=zA0 (show leads fs L g = false by rw [← HI2.out,hje,zW2 (zM0 _)];rfl);go_wp2;go_ret;exact ⟨by rw [← HLL.out,hres.out];rfl,HB.out⟩
end Go.Proofs.YthhgfncliffggaaGreat.Man
namespace Go.Proofs.YthhgfncliffggaaGreat.Pr
open Go.RowKit Go.Proofs.YthhgfncliffggaaGreatW.PrintWords Go.Proofs.YthhgfncliffggaaGreatW.PrintLast Go.Proofs.YthhgfncliffggaaGreatW.PrintMore
attribute [local go_sem] a3J a3I a4D a4C a3F a3E a3T a3S   -- for this text's walks alone
open Classical in
noncomputable def r12_calls.f (aD:List (S34)) (a1:Int) (a2:Int):Option (Bool):=if Man.LowP aD∧0≤a1∧a1 < (aD.length:Int) then some (Man.leads aD (Man.flat (a0S aD a1).f2) a2) else none
theorem r12_calls.calls (bT:Option Addr) (bI:Nat) (aD:List (S34)) (a1:Int) (a2:Int) (r:Bool) (w:World) (cU:Kd.C k34 w bT aD.length aD) (cV:aD.length≤bI) (h:r12_calls.f aD a1 a2 = some r) :
  Calls Tryz.prog 40 #[.agg #[.slice bT aD.length bI],.int .i64 a1,.int .i64 a2] w fun e w' =>e = .returned (.bool r)∧Below w.heap.size w w' :=
 by
 unfold r12_calls.f at h
 split at h
 ·next hN =>
  cases h;obtain ⟨n,rfl⟩:∃ n:Nat,a1 = (n:Int):=⟨a1.toNat,by omega⟩;exact Man.b9I w aD bT bI cV cU hN.1 n qD0 a2
 ·cases h
end Go.Proofs.YthhgfncliffggaaGreat.Pr
namespace Go.Proofs.YthhgfncliffggaaGreat.Man
open Go.RowKit Go.Proofs.YthhgfncliffggaaGreat.Pr Go.Proofs.YthhgfncliffggaaGreatW.PrintWords
attribute [local go_sem] Oper.semAt_some
theorem b0N:capB ([]:List ByteArray) = []:=(a4W _).ext RisB.nil (fun x =>a6C)
theorem rdS_drop (L:List S65) (i:Nat) (h:i < L.length):L.take (i + 1) = L.take i ++ [a0M L (i:Int)]:=by
 rw [zW0 h]
 congr 2
 unfold a0M;rw [zP0,zK0,zF0 h];rfl
theorem b5H (L:List S65):(L.flatMap ownG).length≤L.length:=by
 induction L with
 | nil =>exact zM0 _
 | cons s r ih =>
  have:=b3Q s;simp only [List.flatMap_cons,zQ0,zX0];omega
theorem rown_any (w:World) (f:S34) (A1 A2:Option Addr) (c1 c2:Nat) (l2:f.f2.length≤c2) (g2:Kd.C k65 w A2 f.f2.length f.f2) (hL:Low f.f2) (hn:(flat f.f2).length≤2000000) :
  Calls Tryz.prog 12 #[.agg #[.string f.f0,.slice A1 f.f1.length c1,.slice A2 f.f2.length c2]] w fun e w' =>∃ v,e = .returned v∧Kd.R Kd.string 9 w' w.heap.size (fun _ =>True) v (ownF f)∧Below w.heap.size w w':=by
 obtain ⟨kl,ekl⟩:=c2H _ _ (zR0 _) hL hn;have HL:=zA0 (ekl kl (zM0 _));have HB:=zA0 (zL0 w.heap.size w);have G2:=zA0 g2;have HN:=zA0 hn;clear g2 ekl hL hn;go_enter Tryz.func12,Tryz.ntmps12
 go_wp2_with (first
  | ((with_reducible refine a0T (N:=1) rfl ?_);refine a2A ?hg (N:=1) ?hd (cs:=#[.string f.f0,.slice A1 f.f1.length c1,.slice A2 f.f2.length c2]) (t:=34) ?hr ?_;(case hd =>rfl);(case hg =>rfl);(case hr =>first | (go_simp;done) | (go_simp;rfl));intro g1 hg w1 hx hb;have HB:=zA0 (a0K HB.out hb);have B1:=zA0 (Tri.mk hx);clear hx hb hg;have k1:=zC3 B1.out.c B1.out.f)
  | ((with_reducible refine a0T (N:=6) rfl ?_);refine Kd.b1W Kd.string _ 9 ?hg (N:=6) ?hd (xs:=([]:List ByteArray)) (inner:=[]) (ok:=fun _ =>True) (okp:=fun _ =>True) ?hr ?hp (fun _ hk =>hk) trivial (zL0 _ _) (zM0 _) qI0 ?_;(case hd =>rfl);(case hg =>rfl);(case hr =>first | (go_simp;done) | (go_simp;rfl));(case hp =>exact (Reps.none _ _));intro v3 w3 ho4 hb hg_ hnew_;clear hg_ hnew_ k1;have HO:=zA0 (Kd.a2H ho4 HB.out.size);have B1:=zA0 (B1.out.below hb);have HB:=zA0 (a0K HB.out hb);clear ho4 hb;have k1:=zC3 B1.out.c B1.out.f)
  | (go_at_call 34;((with_reducible refine (r04_List.calls kl _ A2 c2 f.f2 _ _ (Kd.V_mk l2 (Kd.a1Z (Kd.C_F b0J G2.out) HB.out)) HL.out).mono ?_));rintro e w2 ⟨v,rfl,hN,hb⟩;obtain ⟨AL,cL,rfl⟩:=Kd.a3V hN;have HCL:=zA0 (Kd.a2G hN).2.1;have KL:=zA0 (Kd.a2G hN).2.2;clear k1;have HO:=zA0 (Kd.a3U HO.out hb);have HB:=zA0 (a0K HB.out hb);clear hb hN))
 obtain ⟨L,hL⟩:∃ L,L = flat f.f2:=⟨_,rfl⟩;have hown:ownF f = capB (L.flatMap ownG):=by unfold ownF unionF;rw [zU1,hL]
 have HOWN:=zA0 hown;rw [← hL] at HCL KL HN ⊢;clear hL HL hown;go_loopg [3,5] L.length (fun kq v3 v5 w' =>∃ (j:Nat) (o:Value),j + kq = L.length∧o = v3∧v5 = .int .i64 j∧Hid (Kd.R Kd.string 9 w' w.heap.size (fun _ =>True) o (capB ((L.take j).flatMap ownG)))∧Hid (Below w.heap.size w w')∧Hid (Kd.C k65 w' AL L.length L))
 case atStart =>exact ⟨0,_,zY1 _,rfl,rfl,zA0 (by rw [zD2,List.flatMap_nil,b0N];exact HO.out),HB,KL⟩
 case round =>
  obtain ⟨j,o,hj,rfl,rfl,HO,HB,KL⟩:=hrel;by_cases hlt:j < L.length
  ·obtain ⟨ae,A4,c4,A5,c5,A6,c6,A7,c7,eA,x0,x1,x2,x3,_⟩:=a9C KL.out (j:Int) (zJ0 j) (zG1.2 hlt);subst eA;rw [zP0] at x0 x1 x2 x3;obtain ⟨Ao,co,rfl⟩:=Kd.a1Y HO.out;have hw:=pz14 j (zE0 (zZ1 hlt) (zE0 HN.out qF0));have c_j:(0:Int)≤(j:Int):=zJ0 j;have c_n:(j:Int) < (L.length:Int):=zG1.2 hlt;have HD:=zA0 (rdS_drop L j hlt);have hcl:(capB ((L.take j).flatMap ownG)).length≤8000000000000:=zE0 (a9A _) (zE0 (b5H _) (by rw [zI1];exact zE0 (Nat.min_le_right _ _) (zE0 HN.out qF0)));have HWI:=zA0 (fun (W:World) (hC:Kd.C Kd.string W Ao (capB ((L.take j).flatMap ownG)).length (capB ((L.take j).flatMap ownG))) =>b3C (capB ((L.take j).flatMap ownG)) (a0M L (j:Int)).f3 Ao co W hC hcl);obtain ⟨k1,rfl⟩:∃ k1,gk = k1 + 1:=Nat.exists_eq_add_one_of_ne_zero qK1;clear x1 x2 hcl;by_cases h3:(a0M L (j:Int)).f0 = 3
   ·have b3:((a0M L (j:Int)).f0 == 3) = true:=by simpa using h3
    have HE:=zA0 (show a5I (a0M L (j:Int)).f3 false (capB ((L.take j).flatMap ownG)) = capB ((L.take (j + 1)).flatMap ownG) by rw [b0R,HD.out,List.flatMap_append,List.flatMap_cons,List.flatMap_nil,zU1];congr 2;unfold ownG;rw [if_pos h3]);clear h3
    go_wp2_with (first
     | (go_at_call 35;(with_reducible refine (HWI.out _ ?side1).mono ?_);(case side1 =>exact (Kd.a1H HO.out).2.2);rintro e w2 ⟨v,rfl,hR,hb⟩;rw [HE.out] at hR;have HO2:=zA0 (Kd.a2H hR HB.out.size);have KL:=zA0 (Kd.a0H KL.out hb);have HB:=zA0 (a0K HB.out hb);clear hR hb))
    go_roundg k1
    case measure =>exact zR0 _
    case rel =>exact ⟨j + 1,_,by rw [zA1,zC1 1];exact hj,rfl,by first | rw [hw] | simp [hw],HO2,HB,KL⟩
   ·have b3:((a0M L (j:Int)).f0 == 3) = false:=by simpa using h3
    have HE:=zA0 (show capB ((L.take j).flatMap ownG) = capB ((L.take (j + 1)).flatMap ownG) by rw [HD.out,List.flatMap_append,List.flatMap_cons,List.flatMap_nil,zU1];rw [show ownG (a0M L (j:Int)) = [] by unfold ownG;rw [if_neg h3],zU1]);clear h3;go_wp2;go_roundg k1
    case measure =>exact zR0 _
    case rel =>exact ⟨j + 1,_,by rw [zA1,zC1 1];exact hj,rfl,by first | rw [hw] | simp [hw],zA0 (by rw [← HE.out];exact HO.out),HB,KL⟩
  ·have hje:j = L.length:=Nat.le_antisymm qA2 (Nat.le_of_not_lt hlt);have ho:=HO.out;rw [hje,zH1,← HOWN.out] at ho;have HO2:=zA0 ho;clear ho;go_wp2;go_ret;exact ⟨_,rfl,HO2.out,HB.out⟩
theorem b9A (w:World) (a b:List ByteArray) (A1 A2:Option Addr) (c1 c2:Nat) (h1:Kd.C Kd.string w A1 a.length a) (h2:Kd.C Kd.string w A2 b.length b) (ha:a.length≤1000000000) (hb:b.length≤1000000000) :
  Calls Tryz.prog 16 #[.slice A1 a.length c1,.slice A2 b.length c2] w fun e w' =>∃ v,e = .returned v∧Kd.R Kd.string 9 w' w.heap.size (fun _ =>True) v (unionF a b)∧Below w.heap.size w w':=by
 have K0:=zA0 h1;have K1:=zA0 h2;have HA:=zA0 ha;have HBL:=zA0 hb;have hb0:Below w.heap.size w (w.alloc (.cells #[] 9)):=a0C (zL0 _ _) _;have HB:=zA0 hb0;have HO:=zA0 (a5U Kd.string 9 (World.alloc_heap_new w (.cells #[] 9)) (zM0 _) (fun _ =>True) trivial);clear h1 h2 ha hb hb0;unfold unionF;go_enter Tryz.func16,Tryz.ntmps16
 go_wp2;go_loopg [5,6] a.length (fun kq v5 v6 w' =>∃ (j:Nat) (o:Value),j + kq = a.length∧o = v5∧v6 = .int .i64 j∧Hid (Kd.R Kd.string 9 w' w.heap.size (fun _ =>True) o (capB (a.take j)))∧Hid (Below w.heap.size w w'))
 case atStart =>exact ⟨0,_,zY1 _,rfl,rfl,zA0 (by rw [zD2,b0N];exact HO.out),HB⟩
 case round =>
  obtain ⟨j,o,hj,rfl,rfl,HO,HB⟩:=hrel;by_cases hlt:j < a.length
  ·obtain ⟨ad,e0,hx⟩:=Kd.a3O K0.out (j:Int) (zJ0 j) (zG1.2 hlt);subst e0;rw [zP0] at hx;replace hx:=(HB.out.cell (zT0 _ _ hx)).trans hx;obtain ⟨Ao,co,rfl⟩:=Kd.a1Y HO.out;have hw:=pz14 j (zE0 (zZ1 hlt) (zE0 HA.out qF0));have c_j:(0:Int)≤(j:Int):=zJ0 j;have c_n:(j:Int) < (a.length:Int):=zG1.2 hlt;have hd:a.take (j + 1) = a.take j ++ [rdOf ByteArray.empty a (j:Int)]:=by rw [rd14 a hlt,zW0 hlt]
   have hcl:(a.take j).length≤8000000000000:=by rw [zI1];exact zE0 (Nat.min_le_right _ _) (zE0 HA.out qF0)
   have hex:a5I (rdOf ByteArray.empty a (j:Int)) false (capB (a.take j)) = capB (a.take (j + 1)):=by rw [b0R,hd]
   have HWI:=zA0 (fun (W:World) (hC:Kd.C Kd.string W Ao (capB (a.take j)).length (capB (a.take j))) =>b3C (capB (a.take j)) (rdOf ByteArray.empty a (j:Int)) Ao co W hC (zE0 (a9A _) hcl));have HE:=zA0 hex;obtain ⟨k1,rfl⟩:∃ k1,gk = k1 + 1:=Nat.exists_eq_add_one_of_ne_zero qK1;clear hcl hd hex
   go_wp2_with (first
    | (go_at_call 35;(with_reducible refine (HWI.out _ ?side1).mono ?_);(case side1 =>exact (Kd.a1H HO.out).2.2);rintro e w2 ⟨v,rfl,hR,hb⟩;rw [HE.out] at hR;have HO2:=zA0 (Kd.a2H hR HB.out.size);have HB:=zA0 (a0K HB.out hb);clear hR hb))
   go_roundg k1
   case measure =>exact zR0 _
   case rel =>exact ⟨j + 1,_,by rw [zA1,zC1 1];exact hj,rfl,by first | rw [hw] | simp [hw],HO2,HB⟩
  ·have hje:j = a.length:=Nat.le_antisymm qA2 (Nat.le_of_not_lt hlt);have ho:=HO.out;rw [hje,zH1] at ho;have HO:=zA0 ho;clear ho hje;go_wp2;go_loopg [5,7] b.length (fun kq v5 v7 w' =>∃ (j:Nat) (o:Value),j + kq = b.length∧o = v5∧v7 = .int .i64 j∧Hid (Kd.R Kd.string 9 w' w.heap.size (fun _ =>True) o (capB (a ++ b.take j)))∧Hid (Below w.heap.size w w'))
   case atStart =>exact ⟨0,_,zY1 _,rfl,rfl,zA0 (by rw [zD2,zU1];exact HO.out),HB⟩
   case round =>
    obtain ⟨j,o,hj,rfl,rfl,HO,HB⟩:=hrel;by_cases hlt:j < b.length
    ·obtain ⟨ad,e0,hx⟩:=Kd.a3O K1.out (j:Int) (zJ0 j) (zG1.2 hlt);subst e0;rw [zP0] at hx;replace hx:=(HB.out.cell (zT0 _ _ hx)).trans hx;obtain ⟨Ao,co,rfl⟩:=Kd.a1Y HO.out;have hw:=pz14 j (zE0 (zZ1 hlt) (zE0 HBL.out qF0));have c_j:(0:Int)≤(j:Int):=zJ0 j;have c_n:(j:Int) < (b.length:Int):=zG1.2 hlt;have hd:b.take (j + 1) = b.take j ++ [rdOf ByteArray.empty b (j:Int)]:=by rw [rd14 b hlt,zW0 hlt]
     have hcl:(a ++ b.take j).length≤8000000000000:=by rw [zQ0,zI1];exact zE0 (Nat.add_le_add HA.out (zE0 (Nat.min_le_right _ _) HBL.out)) qF0
     have hex:a5I (rdOf ByteArray.empty b (j:Int)) false (capB (a ++ b.take j)) = capB (a ++ b.take (j + 1)):=by rw [b0R,hd,zP2]
     have HWI:=zA0 (fun (W:World) (hC:Kd.C Kd.string W Ao (capB (a ++ b.take j)).length (capB (a ++ b.take j))) =>b3C (capB (a ++ b.take j)) (rdOf ByteArray.empty b (j:Int)) Ao co W hC (zE0 (a9A _) hcl));have HE:=zA0 hex;obtain ⟨k1,rfl⟩:∃ k1,gk = k1 + 1:=Nat.exists_eq_add_one_of_ne_zero qK1;clear hcl hd hex
     go_wp2_with (first
      | (go_at_call 35;(with_reducible refine (HWI.out _ ?side1).mono ?_);(case side1 =>exact (Kd.a1H HO.out).2.2);rintro e w2 ⟨v,rfl,hR,hb⟩;rw [HE.out] at hR;have HO2:=zA0 (Kd.a2H hR HB.out.size);have HB:=zA0 (a0K HB.out hb);clear hR hb))
     go_roundg k1
     case measure =>exact zR0 _
     case rel =>exact ⟨j + 1,_,by rw [zA1,zC1 1];exact hj,rfl,by first | rw [hw] | simp [hw],HO2,HB⟩
    ·have hje:j = b.length:=Nat.le_antisymm qA2 (Nat.le_of_not_lt hlt);have ho:=HO.out;rw [hje,zH1] at ho;have HO:=zA0 ho;clear ho hje;go_wp2;go_ret;exact ⟨_,rfl,HO.out,HB.out⟩
end Go.Proofs.YthhgfncliffggaaGreat.Man
namespace Go.Proofs.YthhgfncliffggaaGreat.Pr
open Go.RowKit Go.Proofs.YthhgfncliffggaaGreatW.PrintWords Go.Proofs.YthhgfncliffggaaGreatW.PrintLast Go.Proofs.YthhgfncliffggaaGreatW.PrintMore
attribute [local go_sem] a3J a3I a4D a4C a3F a3E a3T a3S   -- for this text's walks alone
open Classical in
noncomputable def r14_Union.f (l0:List ByteArray) (l1:List ByteArray):Option (List ByteArray):=if l0.length≤1000000000∧l1.length≤1000000000 then some (Man.unionF l0 l1) else none
theorem r14_Union.calls (A0:Option Addr) (c0:Nat) (l0:List ByteArray) (A1:Option Addr) (c1:Nat) (l1:List ByteArray) (r:List ByteArray) (w:World) (hr0:Kd.C Kd.string w A0 l0.length l0) (hc0:l0.length≤c0) (hr1:Kd.C Kd.string w A1 l1.length l1) (hc1:l1.length≤c1) (h:r14_Union.f l0 l1 = some r) :
  Calls Tryz.prog 16 #[.slice A0 l0.length c0,.slice A1 l1.length c1] w fun e w' =>∃ v0_:Value,e = .returned (v0_)∧Kd.R Kd.string 9 w' w.heap.size (fun _ =>True) v0_ r∧Below w.heap.size w w' :=
 by
 unfold r14_Union.f at h
 split at h
 ·next hN =>
  cases h;exact Man.b9A w l0 l1 A0 A1 c0 c1 hr0 hr1 hN.1 hN.2
 ·cases h
open Classical in
noncomputable def r14_Own.f (lR:ByteArray) (iJ:List ByteArray) (fJ:List (S65)):Option (List ByteArray):=if Man.Low fJ∧(Man.flat fJ).length≤2000000 then some (Man.ownF ⟨lR,iJ,fJ⟩) else none
theorem r14_Own.calls (lR:ByteArray) (oQ:Option Addr) (oR:Nat) (iJ:List ByteArray) (oS:Option Addr) (oT:Nat) (fJ:List (S65)) (r:List ByteArray) (w:World) (tG:Kd.C Kd.string w oQ iJ.length iJ) (tH:iJ.length≤oR) (pC:Kd.C k65 w oS fJ.length fJ) (pD:fJ.length≤oT) (h:r14_Own.f lR iJ fJ = some r) :
  Calls Tryz.prog 12 #[.agg #[.string lR,.slice oQ iJ.length oR,.slice oS fJ.length oT]] w fun e w' =>∃ v0_:Value,e = .returned (v0_)∧Kd.R Kd.string 9 w' w.heap.size (fun _ =>True) v0_ r∧Below w.heap.size w w' :=
 by
 unfold r14_Own.f at h
 split at h
 ·next hN =>
  cases h;exact Man.rown_any w ⟨lR,iJ,fJ⟩ oQ oS oR oT pD pC hN.1 hN.2
 ·cases h
end Go.Proofs.YthhgfncliffggaaGreat.Pr
namespace Go.Proofs.YthhgfncliffggaaGreat.Man
open Go.RowKit Go.Proofs.YthhgfncliffggaaGreat.Pr Go.Proofs.YthhgfncliffggaaGreatW.PrintWords
theorem b4K (x p q:Nat) (hx:x≤8000000000000) (hp:p≤4000000) (hq:q≤4000000):wrap64 ((x:Int) + wrap64 ((p:Int) + (q:Int))) = ((x + (p + q):Nat):Int):=by
 simp only [wrap64];omega
theorem b7A (s:S65) (r:List S65):(flat (s :: r)).length = 1 + (flat s.f6).length + (flat s.f7).length + (flat r).length:=by
 rw [flat];simp only [zX0,zQ0];omega
theorem b9P:(flat ([]:List S65)).length = 0:=by rw [flat];rfl
theorem count14:∀ (m:Nat) (l:List S65),SizeOf.sizeOf l < m→Low l→(flat l).length≤2000000→Ev (fun k =>r03_Count.f k l) (((flat l).length:Nat):Int):=by
 intro m
 induction m with
 | zero =>intro l h;omega
 | succ m ih =>
  intro l hm hl hfl;have hlen:=hl.1;have main:∀ d i:Nat,i + d = l.length→∀ x:Nat,x + (flat (l.drop i)).length = (flat l).length + d→d≤x→Ev (fun k =>r03_Count.l0 k l (x:Int) (i:Int)) (((flat l).length:Nat):Int):=by
   intro d
   induction d with
   | zero =>
    intro i hi x hx _;have c:¬ (i:Int) < (l.length:Int):=by omega
    rw [zW2 qD0,b9P] at hx;refine Ev.step ?_;simp only [r03_Count.l0,if_neg c];rw [show x = (flat l).length by omega];exact Ev.const _
   | succ d ihd =>
    intro i hi x hx hdx;have c:(i:Int) < (l.length:Int):=by omega
    have c0:0≤(i:Int):=zJ0 i;obtain ⟨h6,h7⟩:=hl.sub i qD0;obtain ⟨s6,s7⟩:=b0F l i qD0;rw [c1G l i qD0,b7A] at hx;have e6:=ih _ qD0 h6 qD0;have e7:=ih _ qD0 h7 qD0;have e:=ihd (i + 1) qD0 (x + ((flat (a0M l (i:Int)).f6).length + (flat (a0M l (i:Int)).f7).length)) qD0 qD0;refine Ev.step ?_;simp only [r03_Count.l0,if_pos c,if_pos c0];refine Ev.bind e6 (Ev.bind e7 ?_);rw [pzB i qD0];rw [b4K x _ _ qD0 qD0 qD0];exact e
  have e:=main l.length 0 qD0 l.length (by rw [zK3];omega) (zM0 _);refine Ev.step ?_;simp only [r03_Count.f];exact e
def total (fs:List S34):Nat:=(fs.flatMap fun f =>flat f.f2).length
theorem b8U (fs:List S34) (i:Nat) (hi:i < fs.length):total (fs.take (i + 1)) = total (fs.take i) + (flat (a0S fs (i:Int)).f2).length:=by
 unfold total;rw [zW0 hi,List.flatMap_append,zQ0,b6O hi];simp
theorem big14 (fs:List S34) (hl:LowP fs):∃ b,Ev (fun k =>r03_Big.f k fs) b∧(b = false→total fs≤3000):=by
 have hlen:=hl.1;have main:∀ d i:Nat,i + d = fs.length→∀ x:Nat,total (fs.take i)≤x→x≤i * 4000000→∃ b,Ev (fun k =>r03_Big.l0 k (x:Int) (i:Int) fs) b∧(b = false→total fs≤3000):=by
  intro d
  induction d with
  | zero =>
   intro i hi x hx _;have c:¬ (i:Int) < (fs.length:Int):=by omega
   rw [show i = fs.length by omega,zH1] at hx;by_cases h3:(x:Int) > 3000
   ·exact ⟨true,Ev.step (by simp only [r03_Big.l0,if_neg c,if_pos h3];exact Ev.const _),fun h =>by cases h⟩
   ·exact ⟨_,Ev.step (by simp only [r03_Big.l0,if_neg c,if_neg h3];exact Ev.const _),fun _ =>by omega⟩
  | succ d ihd =>
   intro i hi x hx hx2;have c:(i:Int) < (fs.length:Int):=by omega
   have c0:0≤(i:Int):=zJ0 i;have hf:=hl.2 _ (b3L (fs:=fs) (i:=i) qD0);obtain ⟨rd,ed⟩:=deep_ev _ _ (zR0 _) hf.2.2 60;have ec:=count14 _ _ (zR0 _) hf.2.2 hf.2.1;by_cases hd:rd ≥ 60
   ·refine ⟨true,Ev.step ?_,fun h =>by cases h⟩;simp only [r03_Big.l0,if_pos c,if_pos c0];refine Ev.bind ed ?_;simp only [if_pos hd];exact Ev.const _
   ·have ht:=b8U fs i qD0;have f1:=hf.1;have f2:=hf.2.1;obtain ⟨b,e,hb⟩:=ihd (i + 1) qD0 (x + ((flat (a0S fs (i:Int)).f2).length + ((a0S fs (i:Int)).f1).length)) qD0 qD0;refine ⟨b,Ev.step ?_,hb⟩;simp only [r03_Big.l0,if_pos c,if_pos c0];refine Ev.bind ed ?_;simp only [if_neg hd];refine Ev.bind ec ?_;rw [pzB i qD0,b4K x _ _ qD0 qD0 qD0];exact e
 exact main fs.length 0 qD0 0 (by simp [total]) qD0
end Go.Proofs.YthhgfncliffggaaGreat.Man
namespace Go.Proofs.YthhgfncliffggaaGreat.Pr
open Go.RowKit Go.Proofs.YthhgfncliffggaaGreatW.PrintWords Go.Proofs.YthhgfncliffggaaGreatW.PrintLast Go.Proofs.YthhgfncliffggaaGreatW.PrintMore
attribute [local go_sem] a3J a3I a4D a4C a3F a3E a3T a3S   -- for this text's walks alone
mutual
noncomputable def r12_Calls.l0:Nat→List (List Int)→Int→List (S34)→Option ((List (List Int)))
 | 0,_,_,_ =>none
 | k + 1,x3,x4,x227000 =>if x4 < (x227000.length:Int) then (r12_Calls.l1 k x3 x4 (([]:List Int)) 0 x227000) else (some x3)
noncomputable def r12_Calls.l1:Nat→List (List Int)→Int→List Int→Int→List (S34)→Option ((List (List Int)))
 | 0,_,_,_,_,_ =>none
 | k + 1,x3,x4,x5,x6,x227000 =>if x6 < (x227000.length:Int) then ((r12_calls.f x227000 x4 x6).bind fun t233 =>(if t233 = true then (if x5.length < 17592186044416 then (r12_Calls.l1 k x3 x4 (x5 ++ [x6]) (wrap64 (x6 + 1)) x227000) else (none)) else (r12_Calls.l1 k x3 x4 x5 (wrap64 (x6 + 1)) x227000))) else (if x3.length < 5864062014805 then (r12_Calls.l0 k (x3 ++ [x5]) (wrap64 (x4 + 1)) x227000) else (none))
end
noncomputable def r12_Calls.f (k:Nat) (aD:List (S34)):Option ((List (List Int))):=r12_Calls.l0 k (([]:List (List Int))) 0 aD
theorem r12_Calls.calls (k:Nat) (bT:Option Addr) (bI:Nat) (aD:List (S34)) (r:List (List Int)) (w:World) (cU:Kd.C k34 w bT aD.length aD) (cV:aD.length≤bI) (h:r12_Calls.f k aD = some r) :
    Calls Tryz.prog 19 #[.agg #[.slice bT aD.length bI]] w fun e w' =>∃ v0_:Value,e = .returned (v0_)∧Kd.S (Kd.slice 3 (Kd.int .i64)) 43 w' w.heap.size (fun _ =>True) v0_ r∧Below w.heap.size w w':=by
 have hu24:=Tryz.underlying24;have cW:=a0D.mk cU;have iS:=a0D.mk cV;clear cU cV;have HB:=a0D.mk (zL0 w.heap.size w);have H:(r12_Calls.l0 k (([]:List (List Int))) 0 aD) = some r:=h;clear h;obtain ⟨y227,hy227⟩:∃ y_:List (List Int),y_ = (([]:List (List Int))):=⟨_,rfl⟩;replace H:(r12_Calls.l0 k y227 0 aD) = some r:=by first | (rw [hy227];with_reducible exact H) | (have H2_:=(zN0 _ _).symm.trans H;rw [hy227];with_reducible exact H2_) | (have H2_:=(zN0 _ _).symm.trans H;with_reducible exact H2_) | with_reducible exact H | (rw [hy227];exact H) | exact H
 have Ny227:=a0D.mk hy227;clear hy227;have H':=a0D.mk H;clear H;go_enter Tryz.func19,Tryz.ntmps19
 go_wp2_with (first | ((with_reducible refine a0T (N:=1) rfl ?_);refine a2A ?hg (N:=1) ?hd (cs:=#[.slice bT aD.length bI]) (t:=24) ?hr ?_;(case hd =>rfl);(case hg =>rfl);(case hr =>first | (go_simp;done) | (go_simp;rfl));intro cN hg w2 hbox hb;have bZ:=a0D.mk (a0K qC0 hb);have cA:=a0D.mk (hbox);have cM:=a0D.mk ((by rw [hg];exact (a0R qC0):w.heap.size≤cN));have dY:=a0D.mk ((by rw [hg];exact (a0R qC0):w.heap.size≤cN));clear HB;have HB:=bZ;have bA:=cA;have GW226:=cM;have bW:=dY;clear bZ cA cM dY;clear hb hbox hg) | ((with_reducible refine a0T (N:=7) rfl ?_);refine Kd.S_lit (Kd.slice 3 (Kd.int .i64)) _ 43 ?hg (N:=7) ?hd (xs:=([]:List (List Int))) (inner:=[]) (ok:=fun _ =>True) (okp:=fun _ =>True) ?hr ?hp (fun _ hk =>hk) trivial (zL0 _ _) (zM0 _) qI0 ?_;(case hd =>rfl);(case hg =>rfl);(case hr =>first | (go_simp;done) | (go_simp;rfl));(case hp =>exact (Reps.none _ _));intro v228 w3 ho4 hb hg_ hnew_;clear hg_ hnew_;(first | rw [← Ny227.out] at ho4 | (simp only [Int.reduceToNat] at ho4;rw [← Ny227.out] at ho4));have HO229:=a0D.mk (Kd.b1V ho4 (a0R qO0));replace bA:=a0D.mk (a0P (g:=cN) (o:=.cells #[.slice bT aD.length bI] 24 (0,0)) qX0 hb);replace HB:=a0D.mk (a0K qO0 hb);clear hb ho4));go_loopg [3,4] k (fun kq v3 v4 w' =>∃ (aC:List (List Int)) (aA:Int),v4 = .int .i64 aA∧a0D (r12_Calls.l0 kq aC aA aD = some r)∧a0D (kq≤k)∧a0D (Kd.S (Kd.slice 3 (Kd.int .i64)) 43 w' w.heap.size (fun _ =>True) v3 aC)∧a0D (w'.heap[cN]? = some (.cells #[(.slice bT aD.length bI)] 24 (0,0)))∧a0D (Below w.heap.size w w'))
 case atStart =>exact ⟨(y227),(0),qH0,H',⟨zM0 _⟩,⟨by (with_reducible repeat (first | apply Kd.a1X | apply Kd.a1W | apply Kd.a2I));exact HO229.out⟩,⟨by (with_reducible repeat (first | refine a0N ?_ _ | refine a0O ?_ | refine a0J ?_ _));exact bA.out⟩,⟨by repeat (first | (with_reducible first | exact HB.out | apply a0C | apply a0A | apply a0E | refine a0F ?_ bW.out) | exact HB.out)⟩⟩
 case round =>
  clear H';obtain ⟨aC,aA,rfl,HA,HK1,bD,bA,HB⟩:=hrel;cases gk with
  | zero =>exact absurd HA.out (by simp [r12_Calls.l0])
  | succ k1 =>
   have H:=HA.out;clear HA;simp only [r12_Calls.l0] at H;by_cases c5:aA < (aD.length:Int)
   ·rw [if_pos c5] at H;have c5b0:decide (aA < (aD.length:Int)) = true:=zD0 c5;clear c5;obtain ⟨y230,hy230⟩:∃ y_:List Int,y_ = (([]:List Int)):=⟨_,rfl⟩;replace H:(r12_Calls.l1 k1 aC aA y230 0 aD) = some r:=by first | (rw [hy230];with_reducible exact H) | (have H2_:=(zN0 _ _).symm.trans H;rw [hy230];with_reducible exact H2_) | (have H2_:=(zN0 _ _).symm.trans H;with_reducible exact H2_) | with_reducible exact H | (rw [hy230];exact H) | exact H
    have Ny230:=a0D.mk hy230;clear hy230;have H':=a0D.mk H;clear H;have sZ:wr.cell? ⟨cN,0,none⟩ = some (.slice bT aD.length bI):=(a0L bA.out 0).trans rfl;have tA:=a0Q bA.out 0;go_wp2_with (first | ((with_reducible refine a0T (N:=15) rfl ?_);refine Kd.b1W (Kd.int .i64) _ 3 ?hg (N:=15) ?hd (xs:=([]:List Int)) (inner:=[]) (ok:=fun _ =>True) (okp:=fun _ =>True) ?hr ?hp (fun _ hk =>hk) trivial (zL0 _ _) (zM0 _) qI0 ?_;(case hd =>rfl);(case hg =>rfl);(case hr =>first | (go_simp;done) | (go_simp;rfl));(case hp =>exact (Reps.none _ _));intro v231 w7 ho8 hb hg_ hnew_;clear hg_ hnew_;(first | rw [← Ny230.out] at ho8 | (simp only [Int.reduceToNat] at ho8;rw [← Ny230.out] at ho8));replace bD:=a0D.mk (Kd.a9D qT1 (Kd.a2X ho8) hb);have HO232:=a0D.mk (Kd.a2H ho8 (a0R qO0));replace bA:=a0D.mk (a0P (g:=cN) (o:=.cells #[.slice bT aD.length bI] 24 (0,0)) qX0 hb);replace HB:=a0D.mk (a0K qO0 hb);clear hb ho8));go_loopg [5,6] k1 (fun kq v5 v6 w' =>∃ (cG:List Int) (bU:Int),v6 = .int .i64 bU∧a0D (r12_Calls.l1 kq aC aA cG bU aD = some r)∧a0D (kq≤k1)∧a0D (Kd.S (Kd.slice 3 (Kd.int .i64)) 43 w' w.heap.size (fun k_ =>some k_≠(v5:Value).ownBlock) u3 aC)∧a0D (Kd.R (Kd.int .i64) 3 w' w.heap.size (fun _ =>True) v5 cG)∧a0D (w'.heap[cN]? = some (.cells #[(.slice bT aD.length bI)] 24 (0,0)))∧a0D (Below w.heap.size w w'))
    case atStart =>exact ⟨(y230),(0),qH0,H',⟨zM0 _⟩,⟨by (with_reducible repeat (first | apply Kd.a1X | apply Kd.a1W | apply Kd.a2I));exact Kd.a5H bD.out (fun _ hk =>hk.2)⟩,⟨by (with_reducible repeat (first | apply Kd.a0V | apply Kd.a0Z | apply Kd.a1F));exact HO232.out⟩,⟨by (with_reducible repeat (first | refine a0N ?_ _ | refine a0O ?_ | refine a0J ?_ _));exact bA.out⟩,⟨by repeat (first | (with_reducible first | exact HB.out | apply a0C | apply a0A | apply a0E | refine a0F ?_ bW.out) | exact HB.out)⟩⟩
    case round =>
     clear H';obtain ⟨cG,bU,rfl,HA,HK2,bD,aM,bA,HB⟩:=hrel;cases gk with
     | zero =>exact absurd HA.out (by simp [r12_Calls.l1])
     | succ k2 =>
      have H:=HA.out;clear HA;simp only [r12_Calls.l1] at H;by_cases c9:bU < (aD.length:Int)
      ·rw [if_pos c9] at H;have c9b0:decide (bU < (aD.length:Int)) = true:=zD0 c9;clear c9;obtain ⟨t233,A10,H⟩:=ob_ H;by_cases c11:t233 = true
       ·subst c11;rw [if_pos rfl] at H;by_cases c12:cG.length < 17592186044416
        ·rw [if_pos c12] at H;have LMc12:=a0D.mk c12;clear c12;obtain ⟨y234,hy234⟩:∃ y_:List Int,y_ = (cG ++ [bU]):=⟨_,rfl⟩;replace H:(r12_Calls.l1 k2 aC aA y234 (wrap64 (bU + 1)) aD) = some r:=by first | (rw [hy234];with_reducible exact H) | (have H2_:=(zN0 _ _).symm.trans H;rw [hy234];with_reducible exact H2_) | (have H2_:=(zN0 _ _).symm.trans H;with_reducible exact H2_) | with_reducible exact H | (rw [hy234];exact H) | exact H
         have Ny234:=a0D.mk hy234;clear hy234;have H':=a0D.mk H;clear H;have rO:=cf1 bA.out;go_wp2_with (first | ((with_reducible refine a0Y (f:=40) rfl ?_);refine a2F (some 26) rfl rfl Tryz.func40 qE0 rfl #[.agg #[.slice bT aD.length bI],.int .i64 aA,.int .i64 bU] rfl qB0 ?_;(with_reducible refine (r12_calls.calls _ _ aD aA bU true _ ?side1 ?side2 A10.out).mono ?_);(case side1 =>repeat (first | exact (Kd.a0H cW.out HB.out) | (with_reducible refine Kd.a1D ?_ _) | (with_reducible refine Kd.a1C ?_ _) | (with_reducible refine Kd.a1K ?_)));(case side2 =>exact iS.out);rintro e w14 ⟨rfl,hb⟩;refine ⟨_,rfl,?_⟩;replace bD:=a0D.mk (Kd.a4Y qT1 hb);replace aM:=a0D.mk (Kd.a3U qS0 hb);replace bA:=a0D.mk (a0P (g:=cN) (o:=.cells #[.slice bT aD.length bI] 24 (0,0)) qX0 hb);replace HB:=a0D.mk (a0K qO0 hb);(try clear hb);(try clear hk)) | ((with_reducible refine a1I (b:=.append) (xs:=#[.tmp 27,.tmp 29]) rfl ?_);at_builtin;refine Kd.a2Y (Kd.int .i64) (w0:=w) w.heap.size rfl (.tmp 27) (.tmp 29) 43 3 (.int .i64 0) 8 rfl Tryz.underlying43 b1K rfl qF0 qD0 u5 cG bU [.int .i64 bU] (fun _ =>True) (fun _ =>False) rfl rfl ?aP (fun _ hk =>hk.elim) ?aF ?aO ?aB ?aS ?aL ?_;(case aP =>exact rfl);(case aB =>exact qO0);(case aF =>exact (fun _ _ =>trivial));(case aO =>exact qS0);(case aS =>exact (a0R qO0));(case aL =>have:=LMc12.out;omega);intro v235 w15 ho hb hg hat;rw [← Ny234.out] at ho;have bZ:=a0D.mk (Kd.c3Q (ok:=(fun _ =>True)) (by (with_reducible repeat (first | apply Kd.a1X | apply Kd.a1W | apply Kd.a2I));exact Kd.a5H bD.out (fun _ hk =>⟨trivial,hk⟩)) hg hat);have cA:=a0D.mk (a1S (g:=cN) (o:=.cells #[.slice bT aD.length bI] 24 (0,0)) qX0 hg (Kd.R_ne aM.out bA.out qF0));have cM:=a0D.mk (hb);have dY:=a0D.mk (ho);clear bD;clear bA;clear HB;clear aM;have bD:=bZ;have bA:=cA;have HB:=cM;have HO236:=dY;clear bZ cA cM dY;clear ho hb hg hat));go_roundg k2
         case measure =>have:=HK1.out;have:=HK2.out;omega
         case rel =>exact ⟨(y234),(wrap64 (bU + 1)),qH0,H',⟨by have:=HK1.out;have:=HK2.out;omega⟩,⟨by (with_reducible repeat (first | apply Kd.a1X | apply Kd.a1W | apply Kd.a2I));exact Kd.a5H bD.out (fun _ hk =>hk.2)⟩,⟨by (with_reducible repeat (first | apply Kd.a0V | apply Kd.a0Z | apply Kd.a1F));exact HO236.out⟩,⟨by (with_reducible repeat (first | refine a0N ?_ _ | refine a0O ?_ | refine a0J ?_ _));exact bA.out⟩,⟨by repeat (first | (with_reducible first | exact HB.out | apply a0C | apply a0A | apply a0E | refine a0F ?_ bW.out) | exact HB.out)⟩⟩
        ·rw [if_neg c12] at H;exact absurd H qI0
       ·replace c11:=Bool.eq_false_iff.mpr c11;subst c11;rw [if_neg (show ¬ (false = true) by decide)] at H;have H':=a0D.mk H;clear H;have mE:=cf1 bA.out;go_wp2_with (first | ((with_reducible refine a0Y (f:=40) rfl ?_);refine a2F (some 26) rfl rfl Tryz.func40 qE0 rfl #[.agg #[.slice bT aD.length bI],.int .i64 aA,.int .i64 bU] rfl qB0 ?_;(with_reducible refine (r12_calls.calls _ _ aD aA bU false _ ?side1 ?side2 A10.out).mono ?_);(case side1 =>repeat (first | exact (Kd.a0H cW.out HB.out) | (with_reducible refine Kd.a1D ?_ _) | (with_reducible refine Kd.a1C ?_ _) | (with_reducible refine Kd.a1K ?_)));(case side2 =>exact iS.out);rintro e w17 ⟨rfl,hb⟩;refine ⟨_,rfl,?_⟩;replace bD:=a0D.mk (Kd.a4Y qT1 hb);replace aM:=a0D.mk (Kd.a3U qS0 hb);replace bA:=a0D.mk (a0P (g:=cN) (o:=.cells #[.slice bT aD.length bI] 24 (0,0)) qX0 hb);replace HB:=a0D.mk (a0K qO0 hb);(try clear hb)));go_roundg k2
        case measure =>have:=HK1.out;have:=HK2.out;omega
        case rel =>exact ⟨(cG),(wrap64 (bU + 1)),qH0,H',⟨by have:=HK1.out;have:=HK2.out;omega⟩,⟨by (with_reducible repeat (first | apply Kd.a1X | apply Kd.a1W | apply Kd.a2I));exact bD.out⟩,⟨by (with_reducible repeat (first | apply Kd.a0V | apply Kd.a0Z | apply Kd.a1F));exact aM.out⟩,⟨by (with_reducible repeat (first | refine a0N ?_ _ | refine a0O ?_ | refine a0J ?_ _));exact bA.out⟩,⟨by repeat (first | (with_reducible first | exact HB.out | apply a0C | apply a0A | apply a0E | refine a0F ?_ bW.out) | exact HB.out)⟩⟩
      ·rw [if_neg c9] at H;have c9b0:decide (bU < (aD.length:Int)) = false:=zO0 c9;clear c9;by_cases c18:aC.length < 5864062014805
       ·rw [if_pos c18] at H;have LMc18:=a0D.mk c18;clear c18;obtain ⟨y237,hy237⟩:∃ y_:List (List Int),y_ = (aC ++ [cG]):=⟨_,rfl⟩;replace H:(r12_Calls.l0 k2 y237 (wrap64 (aA + 1)) aD) = some r:=by first | (rw [hy237];with_reducible exact H) | (have H2_:=(zN0 _ _).symm.trans H;rw [hy237];with_reducible exact H2_) | (have H2_:=(zN0 _ _).symm.trans H;with_reducible exact H2_) | with_reducible exact H | (rw [hy237];exact H) | exact H
        have Ny237:=a0D.mk hy237;clear hy237;have H':=a0D.mk H;clear H;have rP:=cf1 bA.out;obtain ⟨Ao21,co21,eo21⟩:=Kd.a1Y aM.out;subst eo21;go_wp2_with (first | ((with_reducible refine a1I (b:=.append) (xs:=#[.tmp 31,.tmp 33]) rfl ?_);at_builtin;refine Kd.S_append (Kd.slice 3 (Kd.int .i64)) (w0:=w) w.heap.size rfl (.tmp 31) (.tmp 33) 39 43 (.slice none 0 0) 24 rfl Tryz.underlying39 c2M rfl qF0 qD0 u3 aC cG [.slice Ao21 cG.length co21] (fun _ =>True) (fun k_ =>some k_ = (.slice Ao21 cG.length co21:Value).ownBlock) rfl rfl ?aP (fun k_ hk_ =>((Kd.a2W (ok':=fun k_ =>((fun _ =>True)) k_∧some k_≠(u3:Value).ownBlock) (Kd.b0O (aM.out) (Kd.a8N bD.out) qF0) (fun k_ hk =>⟨trivial,hk.2⟩))).1 k_ hk_.symm) ?aF ?aO ?aB ?aS ?aL ?_;(case aP =>exact Kd.M_row (Kd.a2W (Kd.b4C rfl (Kd.a2W (ok':=fun k_ =>((fun _ =>True)) k_∧some k_≠(u3:Value).ownBlock) (Kd.b0O (aM.out) (Kd.a8N bD.out) qF0) (fun k_ hk =>⟨trivial,hk.2⟩))) (fun _ h_ =>h_)));(case aB =>exact qO0);(case aF =>exact (fun _ _ =>trivial));(case aO =>exact (by (with_reducible repeat (first | apply Kd.a1X | apply Kd.a1W | apply Kd.a2I));exact Kd.a5H bD.out (fun k_ hk =>⟨trivial,fun e_ =>hk e_⟩)));(case aS =>exact (a0R qO0));(case aL =>have:=LMc18.out;omega);intro v238 w20 ho hb hg hat;rw [← Ny237.out] at ho;have bZ:=a0D.mk (a1S (g:=cN) (o:=.cells #[.slice bT aD.length bI] 24 (0,0)) qX0 hg (Kd.S_ne bD.out bA.out qF0));have cA:=a0D.mk (hb);have cM:=a0D.mk (ho);clear bA;clear HB;clear bD;clear aM;have bA:=bZ;have HB:=cA;have HO239:=cM;clear bZ cA cM;clear ho hb hg hat));go_roundg k2
        case measure =>have:=HK1.out;have:=HK2.out;omega
        case rel =>exact ⟨(y237),(wrap64 (aA + 1)),qH0,H',⟨by have:=HK1.out;have:=HK2.out;omega⟩,⟨by (with_reducible repeat (first | apply Kd.a1X | apply Kd.a1W | apply Kd.a2I));exact HO239.out⟩,⟨by (with_reducible repeat (first | refine a0N ?_ _ | refine a0O ?_ | refine a0J ?_ _));exact bA.out⟩,⟨by repeat (first | (with_reducible first | exact HB.out | apply a0C | apply a0A | apply a0E | refine a0F ?_ bW.out) | exact HB.out)⟩⟩
       ·rw [if_neg c18] at H;exact absurd H qI0
   ·rw [if_neg c5] at H;have c5b0:decide (aA < (aD.length:Int)) = false:=zO0 c5;clear c5;obtain rfl:=zI0 H;have rQ:=cf1 bA.out;go_wp2;go_ret;exact ⟨_,by first | rfl | (simp [a0X,a0W] <;> rfl) | (simp [*,a0X,a0W] <;> rfl),by (with_reducible repeat (first | apply Kd.a1X | apply Kd.a1W | apply Kd.a2I));exact bD.out,by repeat (first | (with_reducible first | exact HB.out | apply a0C | apply a0A | apply a0E | refine a0F ?_ bW.out) | exact HB.out)⟩
mutual
def graph_May.l0:Nat→List (List Int)→List (List Int)→Int→Int→Option (Bool)
 | 0,_,_,_,_ =>none
 | k + 1,x0,x7,x8,x9 =>if x9 < x8 then (if 0≤x9 then (if x9 < (x7.length:Int) then (graph_May.l1 k x0 (a1A x7 x9) x7 x8 x9 (a1A x7 x9) ((a1A x7 x9).length:Int) 0) else (none)) else (none)) else (some (decide ((x0.length:Int)≤1000)))
def graph_May.l1:Nat→List (List Int)→List Int→List (List Int)→Int→Int→List Int→Int→Int→Option (Bool)
 | 0,_,_,_,_,_,_,_,_ =>none
 | k + 1,x0,x4,x7,x8,x9,x13,x14,x15 =>if x15 < x14 then (if 0≤x15 then (if x15 < (x13.length:Int) then (if (rd x13 x15) < 0 then (some false) else (if (rd x13 x15) ≥ (x0.length:Int) then (some false) else (if x15 > 0 then (if 0≤(wrap64 (x15 - 1)) then (if (wrap64 (x15 - 1)) < (x4.length:Int) then (if (rd x4 (wrap64 (x15 - 1))) ≥ (rd x13 x15) then (some false) else (graph_May.l1 k x0 x4 x7 x8 x9 x13 x14 (wrap64 (x15 + 1)))) else (none)) else (none)) else (graph_May.l1 k x0 x4 x7 x8 x9 x13 x14 (wrap64 (x15 + 1)))))) else (none)) else (none)) else (graph_May.l0 k x0 x7 x8 (wrap64 (x9 + 1)))
end
def graph_May.f (k:Nat) (l0:List (List Int)):Option (Bool):=graph_May.l0 k l0 l0 (l0.length:Int) 0
theorem graph_May.calls (k:Nat) (A0:Option Addr) (c0:Nat) (l0:List (List Int)) (r:Bool) (w:World) (hr0:Kd.C (Kd.slice 3 (Kd.int .i64)) w A0 l0.length l0) (hc0:l0.length≤c0) (h:graph_May.f k l0 = some r) :
    Calls Tryz.prog 28 #[.slice A0 l0.length c0] w fun e w' =>e = .returned (.bool r)∧a1B w w':=by
 have HR0:=a0D.mk hr0;have HC0:=a0D.mk hc0;clear hr0 hc0;have H:(graph_May.l0 k l0 l0 (l0.length:Int) 0) = some r:=h;clear h;have H':=a0D.mk H;clear H;go_enter Tryz.func28,Tryz.ntmps28
 go_wp2;go_loopg [9] k (fun kq v9 w' =>∃ (aQ:Int),v9 = .int .i64 aQ∧a0D (graph_May.l0 kq l0 l0 (l0.length:Int) aQ = some r)∧a0D (kq≤k)∧a1B w w')
 case atStart =>exact ⟨(0),qH0,H',⟨zM0 _⟩,by repeat (first | exact a1B.refl _ | apply a1B.step)⟩
 case round =>
  clear H';obtain ⟨aQ,rfl,HA,HK1,⟨m1,rfl⟩⟩:=hrel;cases gk with
  | zero =>exact absurd HA.out (by simp [graph_May.l0])
  | succ k1 =>
   have H:=HA.out;clear HA;simp only [graph_May.l0] at H;by_cases c2:aQ < (l0.length:Int)
   ·rw [if_pos c2] at H;have c2b0:decide (aQ < (l0.length:Int)) = true:=zD0 c2;clear c2;by_cases c3:0≤aQ
    ·rw [if_pos c3] at H;have c3b0:decide (0≤aQ) = true:=zD0 c3;clear c3;by_cases c4:aQ < (l0.length:Int)
     ·rw [if_pos c4] at H;have c4b0:decide (aQ < (l0.length:Int)) = true:=zD0 c4;clear c4;have H':=a0D.mk H;clear H;have p240:0≤(aQ:Int):=zB0 qA0;have q240:aQ < (l0.length:Int):=zB0 qA0;obtain ⟨ad240,tB,tC,e240,rR,kZ,lA⟩:=a4S HR0.out aQ p240 q240;cases e240;have cJ:=a0D.mk lA;have rS:=a0D.mk kZ;clear lA kZ;replace p240:=eq_true p240;replace q240:=eq_true q240;go_wp2;go_loopg [15] k1 (fun kq v15 w' =>∃ (aI:Int),v15 = .int .i64 aI∧a0D (graph_May.l1 kq l0 (a1A l0 aQ) l0 (l0.length:Int) aQ (a1A l0 aQ) ((a1A l0 aQ).length:Int) aI = some r)∧a0D (kq≤k1)∧a1B w w')
      case atStart =>exact ⟨(0),qH0,H',⟨zM0 _⟩,by repeat (first | exact a1B.refl _ | apply a1B.step)⟩
      case round =>
       clear H';obtain ⟨aI,rfl,HA,HK2,⟨m2,rfl⟩⟩:=hrel;cases gk with
       | zero =>exact absurd HA.out (by simp [graph_May.l1])
       | succ k2 =>
        have H:=HA.out;clear HA;simp only [graph_May.l1] at H;by_cases c5:aI < ((a1A l0 aQ).length:Int)
        ·rw [if_pos c5] at H;have c5b0:decide (aI < ((a1A l0 aQ).length:Int)) = true:=zD0 c5;clear c5;by_cases c6:0≤aI
         ·rw [if_pos c6] at H;have c6b0:decide (0≤aI) = true:=zD0 c6;clear c6;by_cases c7:aI < ((a1A l0 aQ).length:Int)
          ·rw [if_pos c7] at H;have c7b0:decide (aI < ((a1A l0 aQ).length:Int)) = true:=zD0 c7;clear c7;by_cases c8:(rd (a1A l0 aQ) aI) < 0
           ·rw [if_pos c8] at H;have c8b0:decide ((rd (a1A l0 aQ) aI) < 0) = true:=zD0 c8;clear c8;obtain rfl:=zI0 H;have p241:0≤(aI:Int):=zB0 qA0;have q241:aI < ((a1A l0 aQ).length:Int):=zB0 qA0;obtain ⟨ad241,e241,fA⟩:=Kd.a2R cJ.out aI p241 q241;cases e241;replace p241:=eq_true p241;replace q241:=eq_true q241;go_wp2;go_ret;exact qR3
           ·rw [if_neg c8] at H;have c8b0:decide ((rd (a1A l0 aQ) aI) < 0) = false:=zO0 c8;clear c8;by_cases c9:(rd (a1A l0 aQ) aI) ≥ (l0.length:Int)
            ·rw [if_pos c9] at H;have c9b0:decide ((l0.length:Int)≤(rd (a1A l0 aQ) aI)) = true:=zD0 c9;clear c9;obtain rfl:=zI0 H;have p241:0≤(aI:Int):=zB0 qA0;have q241:aI < ((a1A l0 aQ).length:Int):=zB0 qA0;obtain ⟨ad241,e241,fA⟩:=Kd.a2R cJ.out aI p241 q241;cases e241;replace p241:=eq_true p241;replace q241:=eq_true q241;go_wp2;go_ret;exact qR3
            ·rw [if_neg c9] at H;have c9b0:decide ((l0.length:Int)≤(rd (a1A l0 aQ) aI)) = false:=zO0 c9;clear c9;by_cases c10:aI > 0
             ·rw [if_pos c10] at H;have c10b0:decide (0 < aI) = true:=zD0 c10;clear c10;obtain ⟨ji11,hji11⟩:∃ j_:Int,(wrap64 (aI - 1)) = j_:=⟨_,rfl⟩;replace H:(if 0≤(ji11) then (if (ji11) < ((a1A l0 aQ).length:Int) then (if (rd (a1A l0 aQ) (ji11)) ≥ (rd (a1A l0 aQ) aI) then (some false) else (graph_May.l1 k2 l0 (a1A l0 aQ) l0 (l0.length:Int) aQ (a1A l0 aQ) ((a1A l0 aQ).length:Int) (wrap64 (aI + 1)))) else (none)) else (none)) = some r:=by first | (rw [hji11] at H;exact H) | (simp only [hji11] at H ⊢;exact H)
              have hji11w:(IntKind.i64.wrap (aI - 1)) = ji11:=(a1L _).trans hji11;by_cases c12:0≤(ji11)
              ·rw [if_pos c12] at H;have c12b0:decide (0≤(ji11)) = true:=zD0 c12;clear c12;by_cases c13:(ji11) < ((a1A l0 aQ).length:Int)
               ·rw [if_pos c13] at H;have c13b0:decide ((ji11) < ((a1A l0 aQ).length:Int)) = true:=zD0 c13;clear c13;by_cases c14:(rd (a1A l0 aQ) (ji11)) ≥ (rd (a1A l0 aQ) aI)
                ·rw [if_pos c14] at H;have c14b0:decide ((rd (a1A l0 aQ) aI)≤(rd (a1A l0 aQ) (ji11))) = true:=zD0 c14;clear c14;obtain rfl:=zI0 H;have p241:0≤(aI:Int):=zB0 qA0;have q241:aI < ((a1A l0 aQ).length:Int):=zB0 qA0;obtain ⟨ad241,e241,fA⟩:=Kd.a2R cJ.out aI p241 q241;cases e241;replace p241:=eq_true p241;replace q241:=eq_true q241;have p242:0≤((ji11):Int):=zB0 qA0;have q242:(ji11) < ((a1A l0 aQ).length:Int):=zB0 qA0;obtain ⟨ad242,e242,nC⟩:=Kd.a2R cJ.out (ji11) p242 q242;obtain rfl:ad241 = ad242:=(by injection e242);replace p242:=eq_true p242;replace q242:=eq_true q242;go_wp2;go_ret;exact ⟨by first | rfl | (simp;done) | (simp only [← hji11] <;> (first | rfl | simp)) | (simp [*];done),by repeat (first | exact a1B.refl _ | apply a1B.step)⟩
                ·rw [if_neg c14] at H;have c14b0:decide ((rd (a1A l0 aQ) aI)≤(rd (a1A l0 aQ) (ji11))) = false:=zO0 c14;clear c14;have H':=a0D.mk H;clear H;have p241:0≤(aI:Int):=zB0 qA0;have q241:aI < ((a1A l0 aQ).length:Int):=zB0 qA0;obtain ⟨ad241,e241,fA⟩:=Kd.a2R cJ.out aI p241 q241;cases e241;replace p241:=eq_true p241;replace q241:=eq_true q241;have p242:0≤((ji11):Int):=zB0 qA0;have q242:(ji11) < ((a1A l0 aQ).length:Int):=zB0 qA0;obtain ⟨ad242,e242,nC⟩:=Kd.a2R cJ.out (ji11) p242 q242;obtain rfl:ad241 = ad242:=(by injection e242);replace p242:=eq_true p242;replace q242:=eq_true q242;go_wp2;go_roundg k2
                 case measure =>have:=HK1.out;have:=HK2.out;omega
                 case rel =>exact ⟨(wrap64 (aI + 1)),qH0,H',⟨by have:=HK1.out;have:=HK2.out;omega⟩,by repeat (first | exact a1B.refl _ | apply a1B.step)⟩
               ·rw [if_neg c13] at H;exact absurd H qI0
              ·rw [if_neg c12] at H;exact absurd H qI0
             ·rw [if_neg c10] at H;have c10b0:decide (0 < aI) = false:=zO0 c10;clear c10;have H':=a0D.mk H;clear H;have p241:0≤(aI:Int):=zB0 qA0;have q241:aI < ((a1A l0 aQ).length:Int):=zB0 qA0;obtain ⟨ad241,e241,fA⟩:=Kd.a2R cJ.out aI p241 q241;cases e241;replace p241:=eq_true p241;replace q241:=eq_true q241;go_wp2;go_roundg k2
              case measure =>have:=HK1.out;have:=HK2.out;omega
              case rel =>exact ⟨(wrap64 (aI + 1)),qH0,H',⟨by have:=HK1.out;have:=HK2.out;omega⟩,by repeat (first | exact a1B.refl _ | apply a1B.step)⟩
          ·rw [if_neg c7] at H;exact absurd H qI0
         ·rw [if_neg c6] at H;exact absurd H qI0
        ·rw [if_neg c5] at H;have c5b0:decide (aI < ((a1A l0 aQ).length:Int)) = false:=zO0 c5;clear c5;have H':=a0D.mk H;clear H;go_wp2;go_roundg k2
         case measure =>have:=HK1.out;have:=HK2.out;omega
         case rel =>exact ⟨(wrap64 (aQ + 1)),qH0,H',⟨by have:=HK1.out;have:=HK2.out;omega⟩,by repeat (first | exact a1B.refl _ | apply a1B.step)⟩
     ·rw [if_neg c4] at H;exact absurd H qI0
    ·rw [if_neg c3] at H;exact absurd H qI0
   ·rw [if_neg c2] at H;have c2b0:decide (aQ < (l0.length:Int)) = false:=zO0 c2;clear c2;obtain rfl:=zI0 H;go_wp2;go_ret;exact qR3
mutual
def graph_Turn.l0:Nat→List (List Int)→List (List Int)→Int→Int→Option ((List (List Int)))
 | 0,_,_,_,_ =>none
 | k + 1,x3,x14,x15,x16 =>if x16 < x15 then (if 0≤x16 then (if x16 < (x14.length:Int) then (graph_Turn.l1 k x3 x16 x14 x15 x16 (a1A x14 x16) ((a1A x14 x16).length:Int) 0) else (none)) else (none)) else (some x3)
def graph_Turn.l1:Nat→List (List Int)→Int→List (List Int)→Int→Int→List Int→Int→Int→Option ((List (List Int)))
 | 0,_,_,_,_,_,_,_,_ =>none
 | k + 1,x3,x4,x14,x15,x16,x21,x22,x23 =>if x23 < x22 then (if 0≤x23 then (if x23 < (x21.length:Int) then (if 0≤(rd x21 x23) then (if (rd x21 x23) < (x3.length:Int) then (if (a1A x3 (rd x21 x23)).length < 17592186044416 then (graph_Turn.l1 k (x3.set ((rd x21 x23):Int).toNat ((a1A x3 (rd x21 x23)) ++ [x4])) x4 x14 x15 x16 x21 x22 (wrap64 (x23 + 1))) else (none)) else (none)) else (none)) else (none)) else (none)) else (graph_Turn.l0 k x3 x14 x15 (wrap64 (x16 + 1)))
end
def graph_Turn.f (k:Nat) (l0:List (List Int)):Option ((List (List Int))):=(graph_May.f k l0).bind fun t243 =>(if t243 = true then (if 0≤(l0.length:Int) then (if ((l0.length:Int):Int).toNat≤11728124029610 then (graph_Turn.l0 k (List.replicate ((l0.length:Int):Int).toNat []) l0 (l0.length:Int) 0) else (none)) else (none)) else (some ([]:List (List Int))))
theorem graph_Turn.calls (k:Nat) (A0:Option Addr) (c0:Nat) (l0:List (List Int)) (r:List (List Int)) (w:World) (hr0:Kd.C (Kd.slice 3 (Kd.int .i64)) w A0 l0.length l0) (hc0:l0.length≤c0) (h:graph_Turn.f k l0 = some r) :
    Calls Tryz.prog 51 #[.slice A0 l0.length c0] w fun e w' =>∃ v0_:Value,e = .returned (v0_)∧Kd.S (Kd.slice 3 (Kd.int .i64)) 43 w' w.heap.size (fun _ =>True) v0_ r∧Below w.heap.size w w':=by
 have HR0:=a0D.mk hr0;have HC0:=a0D.mk hc0;clear hr0 hc0;have HB:=a0D.mk (zL0 w.heap.size w);have H:((graph_May.f k l0).bind fun t243 =>(if t243 = true then (if 0≤(l0.length:Int) then (if ((l0.length:Int):Int).toNat≤11728124029610 then (graph_Turn.l0 k (List.replicate ((l0.length:Int):Int).toNat []) l0 (l0.length:Int) 0) else (none)) else (none)) else (some ([]:List (List Int))))) = some r:=h;clear h;obtain ⟨t243,A2,H⟩:=ob_ H;by_cases c3:t243 = true
 ·subst c3;rw [if_pos rfl] at H;by_cases c4:0≤(l0.length:Int)
  ·rw [if_pos c4] at H;have c4b0:=eq_true c4;have c4b1:decide (0≤(l0.length:Int)) = true:=zD0 c4;clear c4;by_cases c5:((l0.length:Int):Int).toNat≤11728124029610
   ·rw [if_pos c5] at H;have c5b0:=eq_true c5;have c5b1:decide (((l0.length:Int):Int).toNat≤11728124029610) = true:=zD0 c5;clear c5;obtain ⟨y244,hy244⟩:∃ y_:List (List Int),y_ = (List.replicate ((l0.length:Int):Int).toNat []):=⟨_,rfl⟩;replace H:(graph_Turn.l0 k y244 l0 (l0.length:Int) 0) = some r:=by first | (rw [hy244];with_reducible exact H) | (have H2_:=(zN0 _ _).symm.trans H;rw [hy244];with_reducible exact H2_) | (have H2_:=(zN0 _ _).symm.trans H;with_reducible exact H2_) | with_reducible exact H | (rw [hy244];exact H) | exact H
    have Ny244:=a0D.mk hy244;clear hy244;have H':=a0D.mk H;clear H;go_enter Tryz.func51,Tryz.ntmps51
    go_wp2_with (first | ((with_reducible refine a0Y (f:=28) rfl ?_);refine a2F (some 9) rfl rfl Tryz.func28 qE0 rfl #[.slice A0 l0.length c0] rfl qB0 ?_;(with_reducible refine (graph_May.calls k _ _ l0 true _ ?side1 ?side2 A2.out).mono ?_);(case side1 =>repeat (first | exact HR0.out | (with_reducible refine Kd.a1D ?_ _) | (with_reducible refine Kd.a1C ?_ _) | (with_reducible refine Kd.a1K ?_)));(case side2 =>exact HC0.out);rintro e w' ⟨rfl,⟨nd,rfl⟩⟩;refine ⟨_,rfl,?_⟩) | ((with_reducible refine a0T (N:=13) rfl ?_);refine Kd.S_make (Kd.slice 3 (Kd.int .i64)) _ 43 rfl (N:=13) rfl 39 _ _ rfl (l0.length:Int) rfl rfl Tryz.underlying39 (.slice none 0 0) 24 c2M rfl qF0 qD0 [] (ok:=fun _ =>True) (okp:=fun _ =>True) ⟨_,rfl,Kd.b0A _ _ _ _ _⟩ (fun _ hk =>hk) trivial (zB0 qA0) (zE0 (zO1 _ (zB0 qA0:(l0.length:Int).toNat≤11728124029610)) qD0) (zL0 _ _) (zM0 _) ?_;intro v245 w6 ho7 hb hg_ hnew_;clear hg_ hnew_;(first | rw [← Ny244.out] at ho7 | (simp only [Int.reduceToNat] at ho7;rw [← Ny244.out] at ho7));have HO246:=a0D.mk (Kd.b1V ho7 (a0R qC0));replace HB:=a0D.mk (a0K qC0 hb);clear hb ho7));go_loopg [16] k (fun kq v16 w' =>∃ (aC:List (List Int)) (aE:Int),v16 = .int .i64 aE∧a0D (graph_Turn.l0 kq aC l0 (l0.length:Int) aE = some r)∧a0D (kq≤k)∧a0D (Kd.S (Kd.slice 3 (Kd.int .i64)) 43 w' w.heap.size (fun _ =>True) v245 aC)∧a0D (Below w.heap.size w w'))
    case atStart =>exact ⟨(y244),(0),qH0,H',⟨zM0 _⟩,⟨by (with_reducible repeat (first | apply Kd.a1X | apply Kd.a1W | apply Kd.a2I));exact HO246.out⟩,⟨by repeat (first | (with_reducible first | exact HB.out | apply a0C | apply a0A | apply a0E) | exact HB.out)⟩⟩
    case round =>
     clear H';obtain ⟨aC,aE,rfl,HA,HK1,bD,HB⟩:=hrel;cases gk with
     | zero =>exact absurd HA.out (by simp [graph_Turn.l0])
     | succ k1 =>
      have H:=HA.out;clear HA;simp only [graph_Turn.l0] at H;by_cases c8:aE < (l0.length:Int)
      ·rw [if_pos c8] at H;have c8b0:decide (aE < (l0.length:Int)) = true:=zD0 c8;clear c8;by_cases c9:0≤aE
       ·rw [if_pos c9] at H;have c9b0:decide (0≤aE) = true:=zD0 c9;clear c9;by_cases c10:aE < (l0.length:Int)
        ·rw [if_pos c10] at H;have c10b0:decide (aE < (l0.length:Int)) = true:=zD0 c10;clear c10;have H':=a0D.mk H;clear H;have p247:0≤(aE:Int):=zB0 qA0;have q247:aE < (l0.length:Int):=zB0 qA0;obtain ⟨ad247,tD,tE,e247,lB,lC,lD⟩:=a4S HR0.out aE p247 q247;cases e247;replace lB:=a0B HB.out lB;have nD:=a0D.mk lD;have rT:=a0D.mk lC;clear lD lC;replace p247:=eq_true p247;replace q247:=eq_true q247;go_wp2;go_loopg [23] k1 (fun kq v23 w' =>∃ (cB:List (List Int)) (aJ:Int),v23 = .int .i64 aJ∧a0D (graph_Turn.l1 kq cB aE l0 (l0.length:Int) aE (a1A l0 aE) ((a1A l0 aE).length:Int) aJ = some r)∧a0D (kq≤k1)∧a0D (Kd.S (Kd.slice 3 (Kd.int .i64)) 43 w' w.heap.size (fun _ =>True) v245 cB)∧a0D (Below w.heap.size w w'))
         case atStart =>exact ⟨(aC),(0),qH0,H',⟨zM0 _⟩,⟨by (with_reducible repeat (first | apply Kd.a1X | apply Kd.a1W | apply Kd.a2I));exact bD.out⟩,⟨by repeat (first | (with_reducible first | exact HB.out | apply a0C | apply a0A | apply a0E) | exact HB.out)⟩⟩
         case round =>
          clear H';obtain ⟨cB,aJ,rfl,HA,HK2,bD,HB⟩:=hrel;cases gk with
          | zero =>exact absurd HA.out (by simp [graph_Turn.l1])
          | succ k2 =>
           have H:=HA.out;clear HA;simp only [graph_Turn.l1] at H;by_cases c11:aJ < ((a1A l0 aE).length:Int)
           ·rw [if_pos c11] at H;have c11b0:decide (aJ < ((a1A l0 aE).length:Int)) = true:=zD0 c11;clear c11;by_cases c12:0≤aJ
            ·rw [if_pos c12] at H;have c12b0:decide (0≤aJ) = true:=zD0 c12;clear c12;by_cases c13:aJ < ((a1A l0 aE).length:Int)
             ·rw [if_pos c13] at H;have c13b0:decide (aJ < ((a1A l0 aE).length:Int)) = true:=zD0 c13;clear c13;by_cases c14:0≤(rd (a1A l0 aE) aJ)
              ·rw [if_pos c14] at H;have c14b0:decide (0≤(rd (a1A l0 aE) aJ)) = true:=zD0 c14;clear c14;by_cases c15:(rd (a1A l0 aE) aJ) < (cB.length:Int)
               ·rw [if_pos c15] at H;have c15b0:decide ((rd (a1A l0 aE) aJ) < (cB.length:Int)) = true:=zD0 c15;clear c15;by_cases c16:(a1A cB (rd (a1A l0 aE) aJ)).length < 17592186044416
                ·rw [if_pos c16] at H;have LMc16:=a0D.mk c16;clear c16;obtain ⟨y250,hy250⟩:∃ y_:List Int,y_ = ((a1A cB (rd (a1A l0 aE) aJ)) ++ [aE]):=⟨_,rfl⟩;replace H:(graph_Turn.l1 k2 (cB.set ((rd (a1A l0 aE) aJ):Int).toNat y250) aE l0 (l0.length:Int) aE (a1A l0 aE) ((a1A l0 aE).length:Int) (wrap64 (aJ + 1))) = some r:=by first | (rw [hy250];with_reducible exact H) | (have H2_:=(zN0 _ _).symm.trans H;rw [hy250];with_reducible exact H2_) | (have H2_:=(zN0 _ _).symm.trans H;with_reducible exact H2_) | with_reducible exact H | (rw [hy250];exact H) | exact H
                 have Ny250:=a0D.mk hy250;clear hy250;obtain ⟨y253,hy253⟩:∃ y_:List (List Int),y_ = (cB.set ((rd (a1A l0 aE) aJ):Int).toNat y250):=⟨_,rfl⟩;replace H:(graph_Turn.l1 k2 y253 aE l0 (l0.length:Int) aE (a1A l0 aE) ((a1A l0 aE).length:Int) (wrap64 (aJ + 1))) = some r:=by first | (rw [hy253];with_reducible exact H) | (have H2_:=(zN0 _ _).symm.trans H;rw [hy253];with_reducible exact H2_) | (have H2_:=(zN0 _ _).symm.trans H;with_reducible exact H2_) | with_reducible exact H | (rw [hy253];exact H) | exact H
                 have Ny253:=a0D.mk hy253;clear hy253;have H':=a0D.mk H;clear H;have p248:0≤(aJ:Int):=zB0 qA0;have q248:aJ < ((a1A l0 aE).length:Int):=zB0 qA0;obtain ⟨ad248,e248,lE⟩:=Kd.a2R nD.out aJ p248 q248;cases e248;replace lE:=a0B HB.out lE;replace p248:=eq_true p248;replace q248:=eq_true q248;obtain ⟨Ao18,co18,eo18⟩:=Kd.c3P bD.out;subst eo18;have p249:0≤((rd (a1A l0 aE) aJ):Int):=zB0 qA0;have q249:(rd (a1A l0 aE) aJ) < (cB.length:Int):=zB0 qA0;obtain ⟨ad249,lS,lT,e249,iB,lF,lG⟩:=a4S (Kd.a6D bD.out).2.2 (rd (a1A l0 aE) aJ) p249 q249;cases e249;obtain ⟨ce249,oU,oV,lU⟩:=Kd.S_get bD.out [] (rd (a1A l0 aE) aJ) p249 (by first | exact q249 | exact zB0 qA0 | (have e_:=(Kd.a6D bD.out).1;omega));obtain ⟨rU,rfl,iC⟩:=oV;have dX:=lU 0 _ rfl;rw [zW3,show ((Kd.slice 3 (Kd.int .i64))).sz = 1 from rfl,zB3] at dX;replace dX:=zI0 (dX.symm.trans iB);rw [dX] at iC;have nE:=a0D.mk (show Kd.R (Kd.int .i64) 3 _ _ _ _ (a1A cB (rd (a1A l0 aE) aJ)) from iC);clear dX iC;have nG:=a0D.mk iB;clear lU oU;have rV:=a0D.mk lG;have rW:=a0D.mk lF;clear lG lF;replace p249:=eq_true p249;replace q249:=eq_true q249;obtain ⟨go19,co19,eo19,pE,gl19,cl19,HG19⟩:=Kd.S_form bD.out (by have h_:((rd (a1A l0 aE) aJ):Int) < ((cB.length:Int):Int):=zB0 qA0;have h2_:0≤((rd (a1A l0 aE) aJ):Int):=(zB0 qA0);omega)
                 (first | cases eo19 | (injection eo19 with ea_ en_ ec_;(first | subst ea_ | (injection ea_ with ea_;subst ea_));subst ec_;clear en_))
                 have GB19:=a0D.mk pE;have GG19:=a0D.mk HG19;clear pE gl19 HG19
                 (first | simp only [a4T] at iB | skip)
                 obtain ⟨oki19,ce19,hcl19,hM19,nJ,_,_,hH19⟩:=Kd.S_elem bD.out [] ((rd (a1A l0 aE) aJ):Int) (zB0 qA0) (by have h_:((rd (a1A l0 aE) aJ):Int) < ((cB.length:Int):Int):=zB0 qA0;first | exact h_ | (have e_:=(Kd.a6D bD.out).1;omega) | simpa using h_);obtain ⟨tF,rfl,lV⟩:=hM19;have hv19:=nJ 0 _ rfl;have hX19:=nG.out
                 (try simp only [a4T] at hX19)
                 (try simp only [zW3] at hv19)
                 (try rw [show ((Kd.slice 3 (Kd.int .i64))).sz = 1 from rfl,zB3] at hv19)
                 replace hv19:=zI0 (hv19.symm.trans hX19);subst hv19;clear hX19 nJ hcl19;have UU19:=a0D.mk (show Kd.R (Kd.int .i64) 3 _ w.heap.size oki19 (.slice lS (a1A cB (rd (a1A l0 aE) aJ)).length lT) (a1A cB (rd (a1A l0 aE) aJ)) from lV);have HH19:=a0D.mk hH19;have HN19:=a0D.mk (Kd.a6D bD.out).1;clear hH19 lV;go_wp2_with (first | ((with_reducible refine a1I (b:=.append) (xs:=#[.tmp 32,.tmp 34]) rfl ?_);at_builtin;refine Kd.a2Y (Kd.int .i64) (w0:=w) w.heap.size rfl (.tmp 32) (.tmp 34) 43 3 (.int .i64 0) 8 rfl Tryz.underlying43 b1K rfl qF0 qD0 (.slice lS (a1A cB (rd (a1A l0 aE) aJ)).length lT) (a1A cB (rd (a1A l0 aE) aJ)) aE [.int .i64 aE] (fun k_ =>oki19 k_∨((fun _ =>True)) k_∧wr.heap.size≤k_) (fun _ =>False) rfl rfl ?aP (fun _ hk =>hk.elim) ?aF ?aO ?aB ?aS ?aL ?_;(case aP =>exact rfl);(case aB =>exact qC0);(case aF =>exact (fun k_ hk =>.inr ⟨trivial,hk⟩));(case aO =>exact (by (with_reducible repeat (first | apply Kd.a0V | apply Kd.a0Z | apply Kd.a1F));exact Kd.a2W UU19.out (fun _ hk =>.inl hk)));(case aS =>exact (a0R qC0));(case aL =>have:=LMc16.out;omega);intro v251 w20 ho hb hg hat;rw [← Ny250.out] at ho;have bZ:=a0D.mk (hb);have cA:=a0D.mk (Kd.H_grown (Kd.H_widen (by repeat (first | exact HH19.out | refine Kd.H_alloc ?_ _ | refine Kd.H_drewN ?_ _ | refine Kd.H_drew ?_))) hg (fun k_ e_ =>.inl (UU19.out.1 k_ e_)));have cM:=a0D.mk (ho);clear HB;clear HH19;clear bD;clear UU19;clear nE;have HB:=bZ;have HH19:=cA;have HO252:=cM;clear bZ cA cM;clear ho hb hg hat;have p17:0≤((rd (a1A l0 aE) aJ):Int):=zB0 qA0;have q17:((rd (a1A l0 aE) aJ):Int) < ((cB.length:Int):Int):=zB0 qA0;replace p17:=eq_true p17;replace q17:=eq_true q17;obtain ⟨Ao23,co23,eo23⟩:=Kd.a1Y HO252.out;subst eo23;obtain ⟨_,_,hraw21,_,_,nK,_⟩:=Kd.H_raw HH19.out (zB0 qA0) (by have h_:((rd (a1A l0 aE) aJ):Int) < ((cB.length:Int):Int):=zB0 qA0;first | exact h_ | (have e_:=(HN19.out);omega) | simpa using h_);obtain ⟨_,hfr21⟩:=Kd.H_at HH19.out (zB0 qA0) (by have h_:((rd (a1A l0 aE) aJ):Int) < ((cB.length:Int):Int):=zB0 qA0;first | exact h_ | (have e_:=(HN19.out);omega) | simpa using h_);have lW:=nK 0 _ rfl;have lX:=hfr21 0;(try simp only [zW3] at lW lX);(try rw [show ((Kd.slice 3 (Kd.int .i64))).sz = 1 from rfl,zB3] at lW);(try rw [show ((Kd.slice 3 (Kd.int .i64))).sz = 1 from rfl,zB3] at lX);have HP21:=Kd.S_seg0 HH19.out (zB0 qA0) (by have h_:((rd (a1A l0 aE) aJ):Int) < ((cB.length:Int):Int):=zB0 qA0;first | exact h_ | (have e_:=(HN19.out);omega) | simpa using h_) (seg:=[.slice Ao23 y250.length co23]) (j:=0) (show 1≤1 from by decide) (x':=y250) (Kd.M_row HO252.out) (fun _ hk =>hk);(try simp only [show ((Kd.slice 3 (Kd.int .i64))).sz = 1 from rfl,zB3,zW3] at HP21);clear nK hfr21) | ((with_reducible refine a0U (t:=43) (p:=36) rfl ?_);refine a8G (t:=43) (p:=36) (v:=?vo_w22) (w1:=(w20.setCell ⟨go19,((rd (a1A l0 aE) aJ):Int).toNat,none⟩ (.slice Ao23 y250.length co23))) ?hg ?ho ?hn ?hr ?_;(case ho =>rfl);(case hg =>rfl);(case hn =>rfl);(case hr =>first | (go_simp;done) | (go_simp;rfl));intro w22 hw;have hg:w20.grownBy w22 (some go19):=(by rw [hw];exact HP21.2);have hp_:Kd.S (Kd.slice 3 (Kd.int .i64)) 43 w22 w.heap.size (fun _ =>True) (.slice (some ⟨go19,0,none⟩) cB.length co18) y253:=(by rw [hw,Ny253.out];exact HP21.1);clear HP21;have bZ:=a0D.mk ((by rw [hw];exact a0F HB.out GB19.out:Below w.heap.size w w22));have cA:=a0D.mk (hp_);clear HB;clear HO252;clear HH19;have HB:=bZ;have bD:=cA;clear bZ cA;clear hg hw hp_ hraw21));go_roundg k2
                 case measure =>have:=HK1.out;have:=HK2.out;omega
                 case rel =>exact ⟨(y253),(wrap64 (aJ + 1)),qH0,H',⟨by have:=HK1.out;have:=HK2.out;omega⟩,⟨by (with_reducible repeat (first | apply Kd.a1X | apply Kd.a1W | apply Kd.a2I));exact bD.out⟩,⟨by repeat (first | (with_reducible first | exact HB.out | apply a0C | apply a0A | apply a0E) | exact HB.out)⟩⟩
                ·rw [if_neg c16] at H;exact absurd H qI0
               ·rw [if_neg c15] at H;exact absurd H qI0
              ·rw [if_neg c14] at H;exact absurd H qI0
             ·rw [if_neg c13] at H;exact absurd H qI0
            ·rw [if_neg c12] at H;exact absurd H qI0
           ·rw [if_neg c11] at H;have c11b0:decide (aJ < ((a1A l0 aE).length:Int)) = false:=zO0 c11;clear c11;have H':=a0D.mk H;clear H;go_wp2;go_roundg k2
            case measure =>have:=HK1.out;have:=HK2.out;omega
            case rel =>exact ⟨(cB),(wrap64 (aE + 1)),qH0,H',⟨by have:=HK1.out;have:=HK2.out;omega⟩,⟨by (with_reducible repeat (first | apply Kd.a1X | apply Kd.a1W | apply Kd.a2I));exact bD.out⟩,⟨by repeat (first | (with_reducible first | exact HB.out | apply a0C | apply a0A | apply a0E) | exact HB.out)⟩⟩
        ·rw [if_neg c10] at H;exact absurd H qI0
       ·rw [if_neg c9] at H;exact absurd H qI0
      ·rw [if_neg c8] at H;have c8b0:decide (aE < (l0.length:Int)) = false:=zO0 c8;clear c8;obtain rfl:=zI0 H;go_wp2;go_ret;exact ⟨_,by first | rfl | (simp [a0X,a0W] <;> rfl) | (simp [*,a0X,a0W] <;> rfl),by (with_reducible repeat (first | apply Kd.a1X | apply Kd.a1W | apply Kd.a2I));exact bD.out,by repeat (first | (with_reducible first | exact HB.out | apply a0C | apply a0A | apply a0E) | exact HB.out)⟩
   ·rw [if_neg c5] at H;exact absurd H qI0
  ·rw [if_neg c4] at H;exact absurd H qI0
 ·replace c3:=Bool.eq_false_iff.mpr c3;subst c3;rw [if_neg (show ¬ (false = true) by decide)] at H;obtain rfl:=zI0 H;go_enter Tryz.func51,Tryz.ntmps51
  go_wp2_with (first | ((with_reducible refine a0Y (f:=28) rfl ?_);refine a2F (some 9) rfl rfl Tryz.func28 qE0 rfl #[.slice A0 l0.length c0] rfl qB0 ?_;(with_reducible refine (graph_May.calls k _ _ l0 false _ ?side1 ?side2 A2.out).mono ?_);(case side1 =>repeat (first | exact HR0.out | (with_reducible refine Kd.a1D ?_ _) | (with_reducible refine Kd.a1C ?_ _) | (with_reducible refine Kd.a1K ?_)));(case side2 =>exact HC0.out);rintro e w' ⟨rfl,⟨nd,rfl⟩⟩;refine ⟨_,rfl,?_⟩));go_ret;exact ⟨_,by first | rfl | (simp [a0X,a0W] <;> rfl) | (simp [*,a0X,a0W] <;> rfl),by first | exact Kd.S_nil _ _ _ _ _ | exact Kd.c3Y _ _ _ _ _ | exact Kd.V_nil _ _ _ _ _ | exact Kd.Q_nil _ _ _ _ _ | exact Kd.b0A _ _ _ _ _,by repeat (first | (with_reducible first | exact HB.out | apply a0C | apply a0A | apply a0E) | exact HB.out)⟩
def r14_Texts.l0:Nat→List ByteArray→List ByteArray→Int→Option (Bool)
 | 0,_,_,_ =>none
 | k + 1,x0,x1,x5 =>if x5 < (x0.length:Int) then (if 0≤x5 then (if x5 < (x1.length:Int) then (if (rdOf ByteArray.empty x0 x5).toList = (rdOf ByteArray.empty x1 x5).toList then (r14_Texts.l0 k x0 x1 (wrap64 (x5 + 1))) else (some false)) else (none)) else (none)) else (some true)
def r14_Texts.f (k:Nat) (l0:List ByteArray) (l1:List ByteArray):Option (Bool):=if (l0.length:Int) = (l1.length:Int) then (r14_Texts.l0 k l0 l1 0) else (some false)
theorem r14_Texts.calls (k:Nat) (A0:Option Addr) (c0:Nat) (l0:List ByteArray) (A1:Option Addr) (c1:Nat) (l1:List ByteArray) (r:Bool) (w:World) (hr0:Kd.C Kd.string w A0 l0.length l0) (hc0:l0.length≤c0) (hr1:Kd.C Kd.string w A1 l1.length l1) (hc1:l1.length≤c1) (h:r14_Texts.f k l0 l1 = some r) :
    Calls Tryz.prog 10 #[.slice A0 l0.length c0,.slice A1 l1.length c1] w fun e w' =>e = .returned (.bool r)∧a1B w w':=by
 have HR0:=a0D.mk hr0;have HC0:=a0D.mk hc0;clear hr0 hc0;have HR1:=a0D.mk hr1;have HC1:=a0D.mk hc1;clear hr1 hc1;have H:(if (l0.length:Int) = (l1.length:Int) then (r14_Texts.l0 k l0 l1 0) else (some false)) = some r:=h;clear h;by_cases c3:(l0.length:Int) = (l1.length:Int)
 ·rw [if_pos c3] at H;have c3b0:((l0.length:Int) == (l1.length:Int)) = true:=beq_iff_eq.mpr c3;have c3b1:((l0.length:Int) != (l1.length:Int)) = false:=bne_eq_false_iff_eq.mpr c3;have c3b2:(l0.length == l1.length) = true:=by first | simpa using c3 | (simp at c3 ⊢;omega)
  clear c3;have H':=a0D.mk H;clear H;go_enter Tryz.func10,Tryz.ntmps10
  go_wp2
  repeat (go_quiet (fail);try go_wp2)
  go_loopg [5] k (fun kq v5 w' =>∃ (aN:Int),v5 = .int .i64 aN∧a0D (r14_Texts.l0 kq l0 l1 aN = some r)∧a0D (kq≤k)∧a1B w w')
  case atStart =>exact ⟨(0),qH0,H',⟨zM0 _⟩,by repeat (first | exact a1B.refl _ | apply a1B.step)⟩
  case round =>
   clear H';obtain ⟨aN,rfl,HA,HK1,⟨m1,rfl⟩⟩:=hrel;cases gk with
   | zero =>exact absurd HA.out (by simp [r14_Texts.l0])
   | succ k1 =>
    have H:=HA.out;clear HA;simp only [r14_Texts.l0] at H;by_cases c4:aN < (l0.length:Int)
    ·rw [if_pos c4] at H;have c4b0:decide (aN < (l0.length:Int)) = true:=zD0 c4;clear c4;by_cases c5:0≤aN
     ·rw [if_pos c5] at H;have c5b0:decide (0≤aN) = true:=zD0 c5;clear c5;by_cases c6:aN < (l1.length:Int)
      ·rw [if_pos c6] at H;have c6b0:decide (aN < (l1.length:Int)) = true:=zD0 c6;clear c6;by_cases c7:(rdOf ByteArray.empty l0 aN).toList = (rdOf ByteArray.empty l1 aN).toList
       ·rw [if_pos c7] at H;have c7b0:((rdOf ByteArray.empty l0 aN).toList == (rdOf ByteArray.empty l1 aN).toList) = true:=beq_iff_eq.mpr c7;have c7b1:((rdOf ByteArray.empty l0 aN).toList != (rdOf ByteArray.empty l1 aN).toList) = false:=bne_eq_false_iff_eq.mpr c7;clear c7;have H':=a0D.mk H;clear H;have p286:0≤(aN:Int):=zB0 qA0;have q286:aN < (l0.length:Int):=zB0 qA0;obtain ⟨ad286,e286,nH⟩:=Kd.a3O HR0.out aN p286 q286;cases e286;replace p286:=eq_true p286;replace q286:=eq_true q286;have p287:0≤(aN:Int):=zB0 qA0;have q287:aN < (l1.length:Int):=zB0 qA0;obtain ⟨ad287,e287,nI⟩:=Kd.a3O HR1.out aN p287 q287;cases e287;replace p287:=eq_true p287;replace q287:=eq_true q287;go_wp2
        repeat (go_quiet (fail);try go_wp2)
        go_roundg k1
        case measure =>have:=HK1.out;omega
        case rel =>exact ⟨(wrap64 (aN + 1)),qH0,H',⟨by have:=HK1.out;omega⟩,by repeat (first | exact a1B.refl _ | apply a1B.step)⟩
       ·rw [if_neg c7] at H;have c7b0:((rdOf ByteArray.empty l0 aN).toList == (rdOf ByteArray.empty l1 aN).toList) = false:=beq_eq_false_iff_ne.mpr c7;have c7b1:((rdOf ByteArray.empty l0 aN).toList != (rdOf ByteArray.empty l1 aN).toList) = true:=bne_iff_ne.mpr c7;obtain rfl:=zI0 H;have p286:0≤(aN:Int):=zB0 qA0;have q286:aN < (l0.length:Int):=zB0 qA0;obtain ⟨ad286,e286,nH⟩:=Kd.a3O HR0.out aN p286 q286;cases e286;replace p286:=eq_true p286;replace q286:=eq_true q286;have p287:0≤(aN:Int):=zB0 qA0;have q287:aN < (l1.length:Int):=zB0 qA0;obtain ⟨ad287,e287,nI⟩:=Kd.a3O HR1.out aN p287 q287;cases e287;replace p287:=eq_true p287;replace q287:=eq_true q287;go_wp2
        repeat (go_quiet (fail);try go_wp2)
        go_ret;exact qR3
      ·rw [if_neg c6] at H;exact absurd H qI0
     ·rw [if_neg c5] at H;exact absurd H qI0
    ·rw [if_neg c4] at H;have c4b0:decide (aN < (l0.length:Int)) = false:=zO0 c4;clear c4;obtain rfl:=zI0 H;go_wp2
     repeat (go_quiet (fail);try go_wp2)
     go_ret;exact qR3
 ·rw [if_neg c3] at H;have c3b0:((l0.length:Int) == (l1.length:Int)) = false:=beq_eq_false_iff_ne.mpr c3;have c3b1:((l0.length:Int) != (l1.length:Int)) = true:=bne_iff_ne.mpr c3;have c3b2:(l0.length == l1.length) = false:=by first | simpa using c3 | (simp at c3 ⊢;omega)
  obtain rfl:=zI0 H;go_enter Tryz.func10,Tryz.ntmps10
  go_wp2
  repeat (go_quiet (fail);try go_wp2)
  go_ret;exact qR3
end Go.Proofs.YthhgfncliffggaaGreat.Pr
namespace Go.Proofs.YthhgfncliffggaaGreat.Man
open Go.RowKit Go.Proofs.YthhgfncliffggaaGreat.Pr Go.Proofs.YthhgfncliffggaaGreatW.PrintWords
theorem b3E (l:List ByteArray) (hl:l.length≤8000000000000):Ev (fun k =>r14_Texts.f k l l) true:=by
 suffices h:∀ m i:Nat,i + m = l.length→Ev (fun k =>r14_Texts.l0 k l l (i:Int)) true by
  have:=h l.length 0 qD0;simpa [r14_Texts.f] using this
 intro m
 induction m with
 | zero =>
  intro i hi;have hnl:¬ ((i:Int) < (l.length:Int)):=by rw [show i = l.length from hi];exact zY3 _
  refine Ev.step ?_;simp only [r14_Texts.l0,if_neg hnl];exact Ev.const true
 | succ m ih =>
  intro i hi;have hil:i < l.length:=by omega
  have c1:(0:Int)≤(i:Int):=zJ0 i;have c2:(i:Int) < (l.length:Int):=zG1.2 hil;have hw:=pz14 i (zE0 (zZ1 hil) hl);refine Ev.step ?_;simp only [r14_Texts.l0,if_pos c1,if_pos c2,if_true,hw];exact ih (i + 1) qD0
theorem union14 (a b:List ByteArray) (ha:a.length≤1050000) (hb:b.length≤1050000):effects_Union.f a b = some (unionF a b):=by
 unfold effects_Union.f;rw [if_pos ⟨ha,hb⟩]
theorem b4S (a b:List ByteArray):(unionF a b).length≤a.length + b.length:=by
 unfold unionF;refine zE0 (a9A _) ?_;rw [zQ0];exact zM0 _
end Go.Proofs.YthhgfncliffggaaGreat.Man
