/- A part of the proof that EffectsBehind returns true for every argument. No conditions beyond the given statement's own. -/
import Derived.Test.YthhgfncliffggaaGreatEB2
import Derived.Test.YthhgfncliffggaaGreatEB3
import Derived.Test.YthhgfncliffggaaGreatEB4
import Derived.Deep.RegionHeld3
import Derived.WalkMore
import Derived.Says
import Derived.Lib.Hide
import Derived.StillTailTactics
set_option maxHeartbeats 16000000
set_option maxRecDepth 100000
set_option linter.unusedVariables false
set_option linter.unusedSimpArgs false
namespace Go.Proofs.YthhgfncliffggaaGreat.Pr
open Go.RowKit Go.Proofs.YthhgfncliffggaaGreatW.PrintWords Go.Proofs.YthhgfncliffggaaGreatW.PrintLast Go.Proofs.YthhgfncliffggaaGreatW.PrintMore
attribute [local go_sem] a5J a5I a6Y a6X a6A a5Z a7K a7J   -- for this text's walks alone
mutual
def graph_May.l0:Nat→List (List Int)→List (List Int)→Int→Int→Option (Bool)
 | 0,_,_,_,_ =>none
 | k + 1,x0,x7,x8,x9 =>if x9 < x8 then (if 0≤x9 then (if x9 < (x7.length:Int) then (graph_May.l1 k x0 (a1B x7 x9) x7 x8 x9 (a1B x7 x9) ((a1B x7 x9).length:Int) 0) else (none)) else (none)) else (some (decide ((x0.length:Int)≤1000)))
def graph_May.l1:Nat→List (List Int)→List Int→List (List Int)→Int→Int→List Int→Int→Int→Option (Bool)
 | 0,_,_,_,_,_,_,_,_ =>none
 | k + 1,x0,x4,x7,x8,x9,x13,x14,x15 =>if x15 < x14 then (if 0≤x15 then (if x15 < (x13.length:Int) then (if (rd x13 x15) < 0 then (some false) else (if (rd x13 x15) ≥ (x0.length:Int) then (some false) else (if x15 > 0 then (if 0≤(wrap64 (x15 - 1)) then (if (wrap64 (x15 - 1)) < (x4.length:Int) then (if (rd x4 (wrap64 (x15 - 1))) ≥ (rd x13 x15) then (some false) else (graph_May.l1 k x0 x4 x7 x8 x9 x13 x14 (wrap64 (x15 + 1)))) else (none)) else (none)) else (graph_May.l1 k x0 x4 x7 x8 x9 x13 x14 (wrap64 (x15 + 1)))))) else (none)) else (none)) else (graph_May.l0 k x0 x7 x8 (wrap64 (x9 + 1)))
end
def graph_May.f (k:Nat) (l0:List (List Int)):Option (Bool):=graph_May.l0 k l0 l0 (l0.length:Int) 0
theorem graph_May.calls (k:Nat) (A0:Option Addr) (c0:Nat) (l0:List (List Int)) (r:Bool) (w:World) (hr0:Kd.C (Kd.slice 3 (Kd.int .i64)) w A0 l0.length l0) (hc0:l0.length≤c0) (h:graph_May.f k l0 = some r) :
    Calls Tryz.prog 28 #[.slice A0 l0.length c0] w fun e w' =>e = .returned (.bool r)∧a0S w w':=by
 have HR0:=a0B.mk hr0;have HC0:=a0B.mk hc0;clear hr0 hc0;have H:(graph_May.l0 k l0 l0 (l0.length:Int) 0) = some r:=h;clear h;have H':=a0B.mk H;clear H;go_enter Tryz.func28,Tryz.ntmps28
 go_wp2;go_loopg [9] k (fun kq v9 w' =>∃ (aE:Int),v9 = .int .i64 aE∧a0B (graph_May.l0 kq l0 l0 (l0.length:Int) aE = some r)∧a0B (kq≤k)∧a0S w w')
 case atStart =>exact ⟨(0),qH0,H',⟨zJ0 _⟩,by repeat (first | exact a0S.refl _ | apply a0S.step)⟩
 case round =>
  clear H';obtain ⟨aE,rfl,HA,HK1,⟨m1,rfl⟩⟩:=hrel;cases gk with
  | zero =>exact absurd HA.out (by simp [graph_May.l0])
  | succ k1 =>
   have H:=HA.out;clear HA;simp only [graph_May.l0] at H;by_cases c2:aE < (l0.length:Int)
   ·rw [if_pos c2] at H;have c2b0:decide (aE < (l0.length:Int)) = true:=zI0 c2;clear c2;by_cases c3:0≤aE
    ·rw [if_pos c3] at H;have c3b0:decide (0≤aE) = true:=zI0 c3;clear c3;by_cases c4:aE < (l0.length:Int)
     ·rw [if_pos c4] at H;have c4b0:decide (aE < (l0.length:Int)) = true:=zI0 c4;clear c4;have H':=a0B.mk H;clear H;have p240:0≤(aE:Int):=zB0 qA0;have q240:aE < (l0.length:Int):=zB0 qA0;obtain ⟨ad240,cD,cE,e240,bX,aR,aT⟩:=at_L9 HR0.out aE p240 q240;cases e240;have aI:=a0B.mk aT;have bY:=a0B.mk aR;clear aT aR;replace p240:=eq_true p240;replace q240:=eq_true q240;go_wp2;go_loopg [15] k1 (fun kq v15 w' =>∃ (aC:Int),v15 = .int .i64 aC∧a0B (graph_May.l1 kq l0 (a1B l0 aE) l0 (l0.length:Int) aE (a1B l0 aE) ((a1B l0 aE).length:Int) aC = some r)∧a0B (kq≤k1)∧a0S w w')
      case atStart =>exact ⟨(0),qH0,H',⟨zJ0 _⟩,by repeat (first | exact a0S.refl _ | apply a0S.step)⟩
      case round =>
       clear H';obtain ⟨aC,rfl,HA,HK2,⟨m2,rfl⟩⟩:=hrel;cases gk with
       | zero =>exact absurd HA.out (by simp [graph_May.l1])
       | succ k2 =>
        have H:=HA.out;clear HA;simp only [graph_May.l1] at H;by_cases c5:aC < ((a1B l0 aE).length:Int)
        ·rw [if_pos c5] at H;have c5b0:decide (aC < ((a1B l0 aE).length:Int)) = true:=zI0 c5;clear c5;by_cases c6:0≤aC
         ·rw [if_pos c6] at H;have c6b0:decide (0≤aC) = true:=zI0 c6;clear c6;by_cases c7:aC < ((a1B l0 aE).length:Int)
          ·rw [if_pos c7] at H;have c7b0:decide (aC < ((a1B l0 aE).length:Int)) = true:=zI0 c7;clear c7;by_cases c8:(rd (a1B l0 aE) aC) < 0
           ·rw [if_pos c8] at H;have c8b0:decide ((rd (a1B l0 aE) aC) < 0) = true:=zI0 c8;clear c8;obtain rfl:=zC0 H;have p241:0≤(aC:Int):=zB0 qA0;have q241:aC < ((a1B l0 aE).length:Int):=zB0 qA0;obtain ⟨ad241,e241,aM⟩:=Kd.a3B aI.out aC p241 q241;cases e241;replace p241:=eq_true p241;replace q241:=eq_true q241;go_wp2;go_ret;exact qE3
           ·rw [if_neg c8] at H;have c8b0:decide ((rd (a1B l0 aE) aC) < 0) = false:=zM0 c8;clear c8;by_cases c9:(rd (a1B l0 aE) aC) ≥ (l0.length:Int)
            ·rw [if_pos c9] at H;have c9b0:decide ((l0.length:Int)≤(rd (a1B l0 aE) aC)) = true:=zI0 c9;clear c9;obtain rfl:=zC0 H;have p241:0≤(aC:Int):=zB0 qA0;have q241:aC < ((a1B l0 aE).length:Int):=zB0 qA0;obtain ⟨ad241,e241,aM⟩:=Kd.a3B aI.out aC p241 q241;cases e241;replace p241:=eq_true p241;replace q241:=eq_true q241;go_wp2;go_ret;exact qE3
            ·rw [if_neg c9] at H;have c9b0:decide ((l0.length:Int)≤(rd (a1B l0 aE) aC)) = false:=zM0 c9;clear c9;by_cases c10:aC > 0
             ·rw [if_pos c10] at H;have c10b0:decide (0 < aC) = true:=zI0 c10;clear c10;obtain ⟨ji11,hji11⟩:∃ j_:Int,(wrap64 (aC - 1)) = j_:=⟨_,rfl⟩;replace H:(if 0≤(ji11) then (if (ji11) < ((a1B l0 aE).length:Int) then (if (rd (a1B l0 aE) (ji11)) ≥ (rd (a1B l0 aE) aC) then (some false) else (graph_May.l1 k2 l0 (a1B l0 aE) l0 (l0.length:Int) aE (a1B l0 aE) ((a1B l0 aE).length:Int) (wrap64 (aC + 1)))) else (none)) else (none)) = some r:=by first | (rw [hji11] at H;exact H) | (simp only [hji11] at H ⊢;exact H)
              have hji11w:(IntKind.i64.wrap (aC - 1)) = ji11:=(a4P _).trans hji11;by_cases c12:0≤(ji11)
              ·rw [if_pos c12] at H;have c12b0:decide (0≤(ji11)) = true:=zI0 c12;clear c12;by_cases c13:(ji11) < ((a1B l0 aE).length:Int)
               ·rw [if_pos c13] at H;have c13b0:decide ((ji11) < ((a1B l0 aE).length:Int)) = true:=zI0 c13;clear c13;by_cases c14:(rd (a1B l0 aE) (ji11)) ≥ (rd (a1B l0 aE) aC)
                ·rw [if_pos c14] at H;have c14b0:decide ((rd (a1B l0 aE) aC)≤(rd (a1B l0 aE) (ji11))) = true:=zI0 c14;clear c14;obtain rfl:=zC0 H;have p241:0≤(aC:Int):=zB0 qA0;have q241:aC < ((a1B l0 aE).length:Int):=zB0 qA0;obtain ⟨ad241,e241,aM⟩:=Kd.a3B aI.out aC p241 q241;cases e241;replace p241:=eq_true p241;replace q241:=eq_true q241;have p242:0≤((ji11):Int):=zB0 qA0;have q242:(ji11) < ((a1B l0 aE).length:Int):=zB0 qA0;obtain ⟨ad242,e242,bH⟩:=Kd.a3B aI.out (ji11) p242 q242;obtain rfl:ad241 = ad242:=(by injection e242);replace p242:=eq_true p242;replace q242:=eq_true q242;go_wp2;go_ret;exact ⟨by first | rfl | (simp;done) | (simp only [← hji11] <;> (first | rfl | simp)) | (simp [*];done),by repeat (first | exact a0S.refl _ | apply a0S.step)⟩
                ·rw [if_neg c14] at H;have c14b0:decide ((rd (a1B l0 aE) aC)≤(rd (a1B l0 aE) (ji11))) = false:=zM0 c14;clear c14;have H':=a0B.mk H;clear H;have p241:0≤(aC:Int):=zB0 qA0;have q241:aC < ((a1B l0 aE).length:Int):=zB0 qA0;obtain ⟨ad241,e241,aM⟩:=Kd.a3B aI.out aC p241 q241;cases e241;replace p241:=eq_true p241;replace q241:=eq_true q241;have p242:0≤((ji11):Int):=zB0 qA0;have q242:(ji11) < ((a1B l0 aE).length:Int):=zB0 qA0;obtain ⟨ad242,e242,bH⟩:=Kd.a3B aI.out (ji11) p242 q242;obtain rfl:ad241 = ad242:=(by injection e242);replace p242:=eq_true p242;replace q242:=eq_true q242;go_wp2;go_roundg k2
                 case measure =>have:=HK1.out;have:=HK2.out;omega
                 case rel =>exact ⟨(wrap64 (aC + 1)),qH0,H',⟨by have:=HK1.out;have:=HK2.out;omega⟩,by repeat (first | exact a0S.refl _ | apply a0S.step)⟩
               ·rw [if_neg c13] at H;exact absurd H qE0
              ·rw [if_neg c12] at H;exact absurd H qE0
             ·rw [if_neg c10] at H;have c10b0:decide (0 < aC) = false:=zM0 c10;clear c10;have H':=a0B.mk H;clear H;have p241:0≤(aC:Int):=zB0 qA0;have q241:aC < ((a1B l0 aE).length:Int):=zB0 qA0;obtain ⟨ad241,e241,aM⟩:=Kd.a3B aI.out aC p241 q241;cases e241;replace p241:=eq_true p241;replace q241:=eq_true q241;go_wp2;go_roundg k2
              case measure =>have:=HK1.out;have:=HK2.out;omega
              case rel =>exact ⟨(wrap64 (aC + 1)),qH0,H',⟨by have:=HK1.out;have:=HK2.out;omega⟩,by repeat (first | exact a0S.refl _ | apply a0S.step)⟩
          ·rw [if_neg c7] at H;exact absurd H qE0
         ·rw [if_neg c6] at H;exact absurd H qE0
        ·rw [if_neg c5] at H;have c5b0:decide (aC < ((a1B l0 aE).length:Int)) = false:=zM0 c5;clear c5;have H':=a0B.mk H;clear H;go_wp2;go_roundg k2
         case measure =>have:=HK1.out;have:=HK2.out;omega
         case rel =>exact ⟨(wrap64 (aE + 1)),qH0,H',⟨by have:=HK1.out;have:=HK2.out;omega⟩,by repeat (first | exact a0S.refl _ | apply a0S.step)⟩
     ·rw [if_neg c4] at H;exact absurd H qE0
    ·rw [if_neg c3] at H;exact absurd H qE0
   ·rw [if_neg c2] at H;have c2b0:decide (aE < (l0.length:Int)) = false:=zM0 c2;clear c2;obtain rfl:=zC0 H;go_wp2;go_ret;exact qE3
mutual
def graph_Turn.l0:Nat→List (List Int)→List (List Int)→Int→Int→Option ((List (List Int)))
 | 0,_,_,_,_ =>none
 | k + 1,x3,x14,x15,x16 =>if x16 < x15 then (if 0≤x16 then (if x16 < (x14.length:Int) then (graph_Turn.l1 k x3 x16 x14 x15 x16 (a1B x14 x16) ((a1B x14 x16).length:Int) 0) else (none)) else (none)) else (some x3)
def graph_Turn.l1:Nat→List (List Int)→Int→List (List Int)→Int→Int→List Int→Int→Int→Option ((List (List Int)))
 | 0,_,_,_,_,_,_,_,_ =>none
 | k + 1,x3,x4,x14,x15,x16,x21,x22,x23 =>if x23 < x22 then (if 0≤x23 then (if x23 < (x21.length:Int) then (if 0≤(rd x21 x23) then (if (rd x21 x23) < (x3.length:Int) then (if (a1B x3 (rd x21 x23)).length < 17592186044416 then (graph_Turn.l1 k (x3.set ((rd x21 x23):Int).toNat ((a1B x3 (rd x21 x23)) ++ [x4])) x4 x14 x15 x16 x21 x22 (wrap64 (x23 + 1))) else (none)) else (none)) else (none)) else (none)) else (none)) else (graph_Turn.l0 k x3 x14 x15 (wrap64 (x16 + 1)))
end
def graph_Turn.f (k:Nat) (l0:List (List Int)):Option ((List (List Int))):=(graph_May.f k l0).bind fun t243 =>(if t243 = true then (if 0≤(l0.length:Int) then (if ((l0.length:Int):Int).toNat≤11728124029610 then (graph_Turn.l0 k (List.replicate ((l0.length:Int):Int).toNat []) l0 (l0.length:Int) 0) else (none)) else (none)) else (some ([]:List (List Int))))
theorem graph_Turn.calls (k:Nat) (A0:Option Addr) (c0:Nat) (l0:List (List Int)) (r:List (List Int)) (w:World) (hr0:Kd.C (Kd.slice 3 (Kd.int .i64)) w A0 l0.length l0) (hc0:l0.length≤c0) (h:graph_Turn.f k l0 = some r) :
    Calls Tryz.prog 51 #[.slice A0 l0.length c0] w fun e w' =>∃ v0_:Value,e = .returned (v0_)∧Kd.S (Kd.slice 3 (Kd.int .i64)) 43 w' w.heap.size (fun _ =>True) v0_ r∧Below w.heap.size w w':=by
 have HR0:=a0B.mk hr0;have HC0:=a0B.mk hc0;clear hr0 hc0;have HB:=a0B.mk (zG0 w.heap.size w);have H:((graph_May.f k l0).bind fun t243 =>(if t243 = true then (if 0≤(l0.length:Int) then (if ((l0.length:Int):Int).toNat≤11728124029610 then (graph_Turn.l0 k (List.replicate ((l0.length:Int):Int).toNat []) l0 (l0.length:Int) 0) else (none)) else (none)) else (some ([]:List (List Int))))) = some r:=h;clear h;obtain ⟨t243,A2,H⟩:=ob_ H;by_cases c3:t243 = true
 ·subst c3;rw [if_pos rfl] at H;by_cases c4:0≤(l0.length:Int)
  ·rw [if_pos c4] at H;have c4b0:=eq_true c4;have c4b1:decide (0≤(l0.length:Int)) = true:=zI0 c4;clear c4;by_cases c5:((l0.length:Int):Int).toNat≤11728124029610
   ·rw [if_pos c5] at H;have c5b0:=eq_true c5;have c5b1:decide (((l0.length:Int):Int).toNat≤11728124029610) = true:=zI0 c5;clear c5;obtain ⟨y244,hy244⟩:∃ y_:List (List Int),y_ = (List.replicate ((l0.length:Int):Int).toNat []):=⟨_,rfl⟩;replace H:(graph_Turn.l0 k y244 l0 (l0.length:Int) 0) = some r:=by first | (rw [hy244];with_reducible exact H) | (have H2_:=(zU0 _ _).symm.trans H;rw [hy244];with_reducible exact H2_) | (have H2_:=(zU0 _ _).symm.trans H;with_reducible exact H2_) | with_reducible exact H | (rw [hy244];exact H) | exact H
    have Ny244:=a0B.mk hy244;clear hy244;have H':=a0B.mk H;clear H;go_enter Tryz.func51,Tryz.ntmps51
    go_wp2_with (first | ((with_reducible refine a1A (f:=28) rfl ?_);refine a2H (some 9) rfl rfl Tryz.func28 qF0 rfl #[.slice A0 l0.length c0] rfl qD0 ?_;(with_reducible refine (graph_May.calls k _ _ l0 true _ ?side1 ?side2 A2.out).mono ?_);(case side1 =>repeat (first | exact HR0.out | (with_reducible refine Kd.a1V ?_ _) | (with_reducible refine Kd.a1N ?_ _) | (with_reducible refine Kd.a2B ?_)));(case side2 =>exact HC0.out);rintro e w' ⟨rfl,⟨nd,rfl⟩⟩;refine ⟨_,rfl,?_⟩) | ((with_reducible refine a0N (N:=13) rfl ?_);refine Kd.S_make (Kd.slice 3 (Kd.int .i64)) _ 43 rfl (N:=13) rfl 39 _ _ rfl (l0.length:Int) rfl rfl Tryz.underlying39 (.slice none 0 0) 24 info43 rfl qB0 qC0 [] (ok:=fun _ =>True) (okp:=fun _ =>True) ⟨_,rfl,Kd.b0E _ _ _ _ _⟩ (fun _ hk =>hk) trivial (zB0 qA0) (zF0 (zM1 _ (zB0 qA0:(l0.length:Int).toNat≤11728124029610)) qC0) (zG0 _ _) (zJ0 _) ?_;intro v245 w6 ho7 hb hg_ hnew_;clear hg_ hnew_;(first | rw [← Ny244.out] at ho7 | (simp only [Int.reduceToNat] at ho7;rw [← Ny244.out] at ho7));have HO246:=a0B.mk (Kd.c0O ho7 (a1G qG0));replace HB:=a0B.mk (a0L qG0 hb);clear hb ho7));go_loopg [16] k (fun kq v16 w' =>∃ (bI:List (List Int)) (aA:Int),v16 = .int .i64 aA∧a0B (graph_Turn.l0 kq bI l0 (l0.length:Int) aA = some r)∧a0B (kq≤k)∧a0B (Kd.S (Kd.slice 3 (Kd.int .i64)) 43 w' w.heap.size (fun _ =>True) v245 bI)∧a0B (Below w.heap.size w w'))
    case atStart =>exact ⟨(y244),(0),qH0,H',⟨zJ0 _⟩,⟨by (with_reducible repeat (first | apply Kd.b0D | apply Kd.b0B | apply Kd.b4B));exact HO246.out⟩,⟨by repeat (first | (with_reducible first | exact HB.out | apply a0D | apply a0C | apply a0E) | exact HB.out)⟩⟩
    case round =>
     clear H';obtain ⟨bI,aA,rfl,HA,HK1,aJ,HB⟩:=hrel;cases gk with
     | zero =>exact absurd HA.out (by simp [graph_Turn.l0])
     | succ k1 =>
      have H:=HA.out;clear HA;simp only [graph_Turn.l0] at H;by_cases c8:aA < (l0.length:Int)
      ·rw [if_pos c8] at H;have c8b0:decide (aA < (l0.length:Int)) = true:=zI0 c8;clear c8;by_cases c9:0≤aA
       ·rw [if_pos c9] at H;have c9b0:decide (0≤aA) = true:=zI0 c9;clear c9;by_cases c10:aA < (l0.length:Int)
        ·rw [if_pos c10] at H;have c10b0:decide (aA < (l0.length:Int)) = true:=zI0 c10;clear c10;have H':=a0B.mk H;clear H;have p247:0≤(aA:Int):=zB0 qA0;have q247:aA < (l0.length:Int):=zB0 qA0;obtain ⟨ad247,cG,cH,e247,aU,aV,aW⟩:=at_L9 HR0.out aA p247 q247;cases e247;replace aU:=a0A HB.out aU;have bJ:=a0B.mk aW;have bZ:=a0B.mk aV;clear aW aV;replace p247:=eq_true p247;replace q247:=eq_true q247;go_wp2;go_loopg [23] k1 (fun kq v23 w' =>∃ (aH:List (List Int)) (aD:Int),v23 = .int .i64 aD∧a0B (graph_Turn.l1 kq aH aA l0 (l0.length:Int) aA (a1B l0 aA) ((a1B l0 aA).length:Int) aD = some r)∧a0B (kq≤k1)∧a0B (Kd.S (Kd.slice 3 (Kd.int .i64)) 43 w' w.heap.size (fun _ =>True) v245 aH)∧a0B (Below w.heap.size w w'))
         case atStart =>exact ⟨(bI),(0),qH0,H',⟨zJ0 _⟩,⟨by (with_reducible repeat (first | apply Kd.b0D | apply Kd.b0B | apply Kd.b4B));exact aJ.out⟩,⟨by repeat (first | (with_reducible first | exact HB.out | apply a0D | apply a0C | apply a0E) | exact HB.out)⟩⟩
         case round =>
          clear H';obtain ⟨aH,aD,rfl,HA,HK2,aJ,HB⟩:=hrel;cases gk with
          | zero =>exact absurd HA.out (by simp [graph_Turn.l1])
          | succ k2 =>
           have H:=HA.out;clear HA;simp only [graph_Turn.l1] at H;by_cases c11:aD < ((a1B l0 aA).length:Int)
           ·rw [if_pos c11] at H;have c11b0:decide (aD < ((a1B l0 aA).length:Int)) = true:=zI0 c11;clear c11;by_cases c12:0≤aD
            ·rw [if_pos c12] at H;have c12b0:decide (0≤aD) = true:=zI0 c12;clear c12;by_cases c13:aD < ((a1B l0 aA).length:Int)
             ·rw [if_pos c13] at H;have c13b0:decide (aD < ((a1B l0 aA).length:Int)) = true:=zI0 c13;clear c13;by_cases c14:0≤(rd (a1B l0 aA) aD)
              ·rw [if_pos c14] at H;have c14b0:decide (0≤(rd (a1B l0 aA) aD)) = true:=zI0 c14;clear c14;by_cases c15:(rd (a1B l0 aA) aD) < (aH.length:Int)
               ·rw [if_pos c15] at H;have c15b0:decide ((rd (a1B l0 aA) aD) < (aH.length:Int)) = true:=zI0 c15;clear c15;by_cases c16:(a1B aH (rd (a1B l0 aA) aD)).length < 17592186044416
                ·rw [if_pos c16] at H;have LMc16:=a0B.mk c16;clear c16;obtain ⟨y250,hy250⟩:∃ y_:List Int,y_ = ((a1B aH (rd (a1B l0 aA) aD)) ++ [aA]):=⟨_,rfl⟩;replace H:(graph_Turn.l1 k2 (aH.set ((rd (a1B l0 aA) aD):Int).toNat y250) aA l0 (l0.length:Int) aA (a1B l0 aA) ((a1B l0 aA).length:Int) (wrap64 (aD + 1))) = some r:=by first | (rw [hy250];with_reducible exact H) | (have H2_:=(zU0 _ _).symm.trans H;rw [hy250];with_reducible exact H2_) | (have H2_:=(zU0 _ _).symm.trans H;with_reducible exact H2_) | with_reducible exact H | (rw [hy250];exact H) | exact H
                 have Ny250:=a0B.mk hy250;clear hy250;obtain ⟨y253,hy253⟩:∃ y_:List (List Int),y_ = (aH.set ((rd (a1B l0 aA) aD):Int).toNat y250):=⟨_,rfl⟩;replace H:(graph_Turn.l1 k2 y253 aA l0 (l0.length:Int) aA (a1B l0 aA) ((a1B l0 aA).length:Int) (wrap64 (aD + 1))) = some r:=by first | (rw [hy253];with_reducible exact H) | (have H2_:=(zU0 _ _).symm.trans H;rw [hy253];with_reducible exact H2_) | (have H2_:=(zU0 _ _).symm.trans H;with_reducible exact H2_) | with_reducible exact H | (rw [hy253];exact H) | exact H
                 have Ny253:=a0B.mk hy253;clear hy253;have H':=a0B.mk H;clear H;have p248:0≤(aD:Int):=zB0 qA0;have q248:aD < ((a1B l0 aA).length:Int):=zB0 qA0;obtain ⟨ad248,e248,aX⟩:=Kd.a3B bJ.out aD p248 q248;cases e248;replace aX:=a0A HB.out aX;replace p248:=eq_true p248;replace q248:=eq_true q248;obtain ⟨Ao18,co18,eo18⟩:=Kd.S_slice aJ.out;subst eo18;have p249:0≤((rd (a1B l0 aA) aD):Int):=zB0 qA0;have q249:(rd (a1B l0 aA) aD) < (aH.length:Int):=zB0 qA0;obtain ⟨ad249,bA,bC,e249,aN,aY,aZ⟩:=at_L9 (Kd.a8T aJ.out).2.2 (rd (a1B l0 aA) aD) p249 q249;cases e249;obtain ⟨ce249,bS,bT,bD⟩:=Kd.S_get aJ.out [] (rd (a1B l0 aA) aD) p249 (by first | exact q249 | exact zB0 qA0 | (have e_:=(Kd.a8T aJ.out).1;omega));obtain ⟨cA,rfl,aQ⟩:=bT;have aK:=bD 0 _ rfl;rw [zS3,show ((Kd.slice 3 (Kd.int .i64))).sz = 1 from rfl,zX2] at aK;replace aK:=zC0 (aK.symm.trans aN);rw [aK] at aQ;have bK:=a0B.mk (show Kd.R (Kd.int .i64) 3 _ _ _ _ (a1B aH (rd (a1B l0 aA) aD)) from aQ);clear aK aQ;have bM:=a0B.mk aN;clear bD bS;have cB:=a0B.mk aZ;have cC:=a0B.mk aY;clear aZ aY;replace p249:=eq_true p249;replace q249:=eq_true q249;obtain ⟨go19,co19,eo19,bU,gl19,cl19,HG19⟩:=Kd.S_form aJ.out (by have h_:((rd (a1B l0 aA) aD):Int) < ((aH.length:Int):Int):=zB0 qA0;have h2_:0≤((rd (a1B l0 aA) aD):Int):=(zB0 qA0);omega)
                 (first | cases eo19 | (injection eo19 with ea_ en_ ec_;(first | subst ea_ | (injection ea_ with ea_;subst ea_));subst ec_;clear en_))
                 have GB19:=a0B.mk bU;have GG19:=a0B.mk HG19;clear bU gl19 HG19
                 (first | simp only [a6D] at aN | skip)
                 obtain ⟨oki19,ce19,hcl19,hM19,bQ,_,_,hH19⟩:=Kd.S_elem aJ.out [] ((rd (a1B l0 aA) aD):Int) (zB0 qA0) (by have h_:((rd (a1B l0 aA) aD):Int) < ((aH.length:Int):Int):=zB0 qA0;first | exact h_ | (have e_:=(Kd.a8T aJ.out).1;omega) | simpa using h_);obtain ⟨cI,rfl,bE⟩:=hM19;have hv19:=bQ 0 _ rfl;have hX19:=bM.out
                 (try simp only [a6D] at hX19)
                 (try simp only [zS3] at hv19)
                 (try rw [show ((Kd.slice 3 (Kd.int .i64))).sz = 1 from rfl,zX2] at hv19)
                 replace hv19:=zC0 (hv19.symm.trans hX19);subst hv19;clear hX19 bQ hcl19;have UU19:=a0B.mk (show Kd.R (Kd.int .i64) 3 _ w.heap.size oki19 (.slice bA (a1B aH (rd (a1B l0 aA) aD)).length bC) (a1B aH (rd (a1B l0 aA) aD)) from bE);have HH19:=a0B.mk hH19;have HN19:=a0B.mk (Kd.a8T aJ.out).1;clear hH19 bE;go_wp2_with (first | ((with_reducible refine a1U (b:=.append) (xs:=#[.tmp 32,.tmp 34]) rfl ?_);at_builtin;refine Kd.a3Z (Kd.int .i64) (w0:=w) w.heap.size rfl (.tmp 32) (.tmp 34) 43 3 (.int .i64 0) 8 rfl Tryz.underlying43 b1X rfl qB0 qC0 (.slice bA (a1B aH (rd (a1B l0 aA) aD)).length bC) (a1B aH (rd (a1B l0 aA) aD)) aA [.int .i64 aA] (fun k_ =>oki19 k_∨((fun _ =>True)) k_∧wr.heap.size≤k_) (fun _ =>False) rfl rfl ?aP (fun _ hk =>hk.elim) ?aF ?aO ?aB ?aS ?aL ?_;(case aP =>exact rfl);(case aB =>exact qG0);(case aF =>exact (fun k_ hk =>.inr ⟨trivial,hk⟩));(case aO =>exact (by (with_reducible repeat (first | apply Kd.a2J | apply Kd.a2I | apply Kd.a3H));exact Kd.a3C UU19.out (fun _ hk =>.inl hk)));(case aS =>exact (a1G qG0));(case aL =>have:=LMc16.out;omega);intro v251 w20 ho hb hg hat;rw [← Ny250.out] at ho;have bV:=a0B.mk (hb);have bW:=a0B.mk (Kd.H_grown (Kd.H_widen (by repeat (first | exact HH19.out | refine Kd.H_alloc ?_ _ | refine Kd.H_drewN ?_ _ | refine Kd.H_drew ?_))) hg (fun k_ e_ =>.inl (UU19.out.1 k_ e_)));have cJ:=a0B.mk (ho);clear HB;clear HH19;clear aJ;clear UU19;clear bK;have HB:=bV;have HH19:=bW;have HO252:=cJ;clear bV bW cJ;clear ho hb hg hat;have p17:0≤((rd (a1B l0 aA) aD):Int):=zB0 qA0;have q17:((rd (a1B l0 aA) aD):Int) < ((aH.length:Int):Int):=zB0 qA0;replace p17:=eq_true p17;replace q17:=eq_true q17;obtain ⟨Ao23,co23,eo23⟩:=Kd.a3D HO252.out;subst eo23;obtain ⟨_,_,hraw21,_,_,bR,_⟩:=Kd.H_raw HH19.out (zB0 qA0) (by have h_:((rd (a1B l0 aA) aD):Int) < ((aH.length:Int):Int):=zB0 qA0;first | exact h_ | (have e_:=(HN19.out);omega) | simpa using h_);obtain ⟨_,hfr21⟩:=Kd.H_at HH19.out (zB0 qA0) (by have h_:((rd (a1B l0 aA) aD):Int) < ((aH.length:Int):Int):=zB0 qA0;first | exact h_ | (have e_:=(HN19.out);omega) | simpa using h_);have bF:=bR 0 _ rfl;have bG:=hfr21 0;(try simp only [zS3] at bF bG);(try rw [show ((Kd.slice 3 (Kd.int .i64))).sz = 1 from rfl,zX2] at bF);(try rw [show ((Kd.slice 3 (Kd.int .i64))).sz = 1 from rfl,zX2] at bG);have HP21:=Kd.S_seg0 HH19.out (zB0 qA0) (by have h_:((rd (a1B l0 aA) aD):Int) < ((aH.length:Int):Int):=zB0 qA0;first | exact h_ | (have e_:=(HN19.out);omega) | simpa using h_) (seg:=[.slice Ao23 y250.length co23]) (j:=0) (show 1≤1 from by decide) (x':=y250) (Kd.M_row HO252.out) (fun _ hk =>hk);(try simp only [show ((Kd.slice 3 (Kd.int .i64))).sz = 1 from rfl,zX2,zS3] at HP21);clear bR hfr21) | ((with_reducible refine a0M (t:=43) (p:=36) rfl ?_);refine b4D (t:=43) (p:=36) (v:=?vo_w22) (w1:=(w20.setCell ⟨go19,((rd (a1B l0 aA) aD):Int).toNat,none⟩ (.slice Ao23 y250.length co23))) ?hg ?ho ?hn ?hr ?_;(case ho =>rfl);(case hg =>rfl);(case hn =>rfl);(case hr =>first | (go_simp;done) | (go_simp;rfl));intro w22 hw;have hg:w20.grownBy w22 (some go19):=(by rw [hw];exact HP21.2);have hp_:Kd.S (Kd.slice 3 (Kd.int .i64)) 43 w22 w.heap.size (fun _ =>True) (.slice (some ⟨go19,0,none⟩) aH.length co18) y253:=(by rw [hw,Ny253.out];exact HP21.1);clear HP21;have bV:=a0B.mk ((by rw [hw];exact a0O HB.out GB19.out:Below w.heap.size w w22));have bW:=a0B.mk (hp_);clear HB;clear HO252;clear HH19;have HB:=bV;have aJ:=bW;clear bV bW;clear hg hw hp_ hraw21));go_roundg k2
                 case measure =>have:=HK1.out;have:=HK2.out;omega
                 case rel =>exact ⟨(y253),(wrap64 (aD + 1)),qH0,H',⟨by have:=HK1.out;have:=HK2.out;omega⟩,⟨by (with_reducible repeat (first | apply Kd.b0D | apply Kd.b0B | apply Kd.b4B));exact aJ.out⟩,⟨by repeat (first | (with_reducible first | exact HB.out | apply a0D | apply a0C | apply a0E) | exact HB.out)⟩⟩
                ·rw [if_neg c16] at H;exact absurd H qE0
               ·rw [if_neg c15] at H;exact absurd H qE0
              ·rw [if_neg c14] at H;exact absurd H qE0
             ·rw [if_neg c13] at H;exact absurd H qE0
            ·rw [if_neg c12] at H;exact absurd H qE0
           ·rw [if_neg c11] at H;have c11b0:decide (aD < ((a1B l0 aA).length:Int)) = false:=zM0 c11;clear c11;have H':=a0B.mk H;clear H;go_wp2;go_roundg k2
            case measure =>have:=HK1.out;have:=HK2.out;omega
            case rel =>exact ⟨(aH),(wrap64 (aA + 1)),qH0,H',⟨by have:=HK1.out;have:=HK2.out;omega⟩,⟨by (with_reducible repeat (first | apply Kd.b0D | apply Kd.b0B | apply Kd.b4B));exact aJ.out⟩,⟨by repeat (first | (with_reducible first | exact HB.out | apply a0D | apply a0C | apply a0E) | exact HB.out)⟩⟩
        ·rw [if_neg c10] at H;exact absurd H qE0
       ·rw [if_neg c9] at H;exact absurd H qE0
      ·rw [if_neg c8] at H;have c8b0:decide (aA < (l0.length:Int)) = false:=zM0 c8;clear c8;obtain rfl:=zC0 H;go_wp2;go_ret;exact ⟨_,by first | rfl | (simp [a0Z,a0Y] <;> rfl) | (simp [*,a0Z,a0Y] <;> rfl),by (with_reducible repeat (first | apply Kd.b0D | apply Kd.b0B | apply Kd.b4B));exact aJ.out,by repeat (first | (with_reducible first | exact HB.out | apply a0D | apply a0C | apply a0E) | exact HB.out)⟩
   ·rw [if_neg c5] at H;exact absurd H qE0
  ·rw [if_neg c4] at H;exact absurd H qE0
 ·replace c3:=Bool.eq_false_iff.mpr c3;subst c3;rw [if_neg (show ¬ (false = true) by decide)] at H;obtain rfl:=zC0 H;go_enter Tryz.func51,Tryz.ntmps51
  go_wp2_with (first | ((with_reducible refine a1A (f:=28) rfl ?_);refine a2H (some 9) rfl rfl Tryz.func28 qF0 rfl #[.slice A0 l0.length c0] rfl qD0 ?_;(with_reducible refine (graph_May.calls k _ _ l0 false _ ?side1 ?side2 A2.out).mono ?_);(case side1 =>repeat (first | exact HR0.out | (with_reducible refine Kd.a1V ?_ _) | (with_reducible refine Kd.a1N ?_ _) | (with_reducible refine Kd.a2B ?_)));(case side2 =>exact HC0.out);rintro e w' ⟨rfl,⟨nd,rfl⟩⟩;refine ⟨_,rfl,?_⟩));go_ret;exact ⟨_,by first | rfl | (simp [a0Z,a0Y] <;> rfl) | (simp [*,a0Z,a0Y] <;> rfl),by first | exact Kd.S_nil _ _ _ _ _ | exact Kd.N_nil _ _ _ _ _ | exact Kd.V_nil _ _ _ _ _ | exact Kd.Q_nil _ _ _ _ _ | exact Kd.b0E _ _ _ _ _,by repeat (first | (with_reducible first | exact HB.out | apply a0D | apply a0C | apply a0E) | exact HB.out)⟩
def r14_Texts.l0:Nat→List ByteArray→List ByteArray→Int→Option (Bool)
 | 0,_,_,_ =>none
 | k + 1,x0,x1,x5 =>if x5 < (x0.length:Int) then (if 0≤x5 then (if x5 < (x1.length:Int) then (if (rdOf ByteArray.empty x0 x5).toList = (rdOf ByteArray.empty x1 x5).toList then (r14_Texts.l0 k x0 x1 (wrap64 (x5 + 1))) else (some false)) else (none)) else (none)) else (some true)
def r14_Texts.f (k:Nat) (l0:List ByteArray) (l1:List ByteArray):Option (Bool):=if (l0.length:Int) = (l1.length:Int) then (r14_Texts.l0 k l0 l1 0) else (some false)
theorem r14_Texts.calls (k:Nat) (A0:Option Addr) (c0:Nat) (l0:List ByteArray) (A1:Option Addr) (c1:Nat) (l1:List ByteArray) (r:Bool) (w:World) (hr0:Kd.C Kd.string w A0 l0.length l0) (hc0:l0.length≤c0) (hr1:Kd.C Kd.string w A1 l1.length l1) (hc1:l1.length≤c1) (h:r14_Texts.f k l0 l1 = some r) :
    Calls Tryz.prog 10 #[.slice A0 l0.length c0,.slice A1 l1.length c1] w fun e w' =>e = .returned (.bool r)∧a0S w w':=by
 have HR0:=a0B.mk hr0;have HC0:=a0B.mk hc0;clear hr0 hc0;have HR1:=a0B.mk hr1;have HC1:=a0B.mk hc1;clear hr1 hc1;have H:(if (l0.length:Int) = (l1.length:Int) then (r14_Texts.l0 k l0 l1 0) else (some false)) = some r:=h;clear h;by_cases c3:(l0.length:Int) = (l1.length:Int)
 ·rw [if_pos c3] at H;have c3b0:((l0.length:Int) == (l1.length:Int)) = true:=beq_iff_eq.mpr c3;have c3b1:((l0.length:Int) != (l1.length:Int)) = false:=bne_eq_false_iff_eq.mpr c3;have c3b2:(l0.length == l1.length) = true:=by first | simpa using c3 | (simp at c3 ⊢;omega)
  clear c3;have H':=a0B.mk H;clear H;go_enter Tryz.func10,Tryz.ntmps10
  go_wp2
  repeat (go_quiet (fail);try go_wp2)
  go_loopg [5] k (fun kq v5 w' =>∃ (aG:Int),v5 = .int .i64 aG∧a0B (r14_Texts.l0 kq l0 l1 aG = some r)∧a0B (kq≤k)∧a0S w w')
  case atStart =>exact ⟨(0),qH0,H',⟨zJ0 _⟩,by repeat (first | exact a0S.refl _ | apply a0S.step)⟩
  case round =>
   clear H';obtain ⟨aG,rfl,HA,HK1,⟨m1,rfl⟩⟩:=hrel;cases gk with
   | zero =>exact absurd HA.out (by simp [r14_Texts.l0])
   | succ k1 =>
    have H:=HA.out;clear HA;simp only [r14_Texts.l0] at H;by_cases c4:aG < (l0.length:Int)
    ·rw [if_pos c4] at H;have c4b0:decide (aG < (l0.length:Int)) = true:=zI0 c4;clear c4;by_cases c5:0≤aG
     ·rw [if_pos c5] at H;have c5b0:decide (0≤aG) = true:=zI0 c5;clear c5;by_cases c6:aG < (l1.length:Int)
      ·rw [if_pos c6] at H;have c6b0:decide (aG < (l1.length:Int)) = true:=zI0 c6;clear c6;by_cases c7:(rdOf ByteArray.empty l0 aG).toList = (rdOf ByteArray.empty l1 aG).toList
       ·rw [if_pos c7] at H;have c7b0:((rdOf ByteArray.empty l0 aG).toList == (rdOf ByteArray.empty l1 aG).toList) = true:=beq_iff_eq.mpr c7;have c7b1:((rdOf ByteArray.empty l0 aG).toList != (rdOf ByteArray.empty l1 aG).toList) = false:=bne_eq_false_iff_eq.mpr c7;clear c7;have H':=a0B.mk H;clear H;have p286:0≤(aG:Int):=zB0 qA0;have q286:aG < (l0.length:Int):=zB0 qA0;obtain ⟨ad286,e286,bN⟩:=Kd.a3A HR0.out aG p286 q286;cases e286;replace p286:=eq_true p286;replace q286:=eq_true q286;have p287:0≤(aG:Int):=zB0 qA0;have q287:aG < (l1.length:Int):=zB0 qA0;obtain ⟨ad287,e287,bO⟩:=Kd.a3A HR1.out aG p287 q287;cases e287;replace p287:=eq_true p287;replace q287:=eq_true q287;go_wp2
        repeat (go_quiet (fail);try go_wp2)
        go_roundg k1
        case measure =>have:=HK1.out;omega
        case rel =>exact ⟨(wrap64 (aG + 1)),qH0,H',⟨by have:=HK1.out;omega⟩,by repeat (first | exact a0S.refl _ | apply a0S.step)⟩
       ·rw [if_neg c7] at H;have c7b0:((rdOf ByteArray.empty l0 aG).toList == (rdOf ByteArray.empty l1 aG).toList) = false:=beq_eq_false_iff_ne.mpr c7;have c7b1:((rdOf ByteArray.empty l0 aG).toList != (rdOf ByteArray.empty l1 aG).toList) = true:=bne_iff_ne.mpr c7;obtain rfl:=zC0 H;have p286:0≤(aG:Int):=zB0 qA0;have q286:aG < (l0.length:Int):=zB0 qA0;obtain ⟨ad286,e286,bN⟩:=Kd.a3A HR0.out aG p286 q286;cases e286;replace p286:=eq_true p286;replace q286:=eq_true q286;have p287:0≤(aG:Int):=zB0 qA0;have q287:aG < (l1.length:Int):=zB0 qA0;obtain ⟨ad287,e287,bO⟩:=Kd.a3A HR1.out aG p287 q287;cases e287;replace p287:=eq_true p287;replace q287:=eq_true q287;go_wp2
        repeat (go_quiet (fail);try go_wp2)
        go_ret;exact qE3
      ·rw [if_neg c6] at H;exact absurd H qE0
     ·rw [if_neg c5] at H;exact absurd H qE0
    ·rw [if_neg c4] at H;have c4b0:decide (aG < (l0.length:Int)) = false:=zM0 c4;clear c4;obtain rfl:=zC0 H;go_wp2
     repeat (go_quiet (fail);try go_wp2)
     go_ret;exact qE3
 ·rw [if_neg c3] at H;have c3b0:((l0.length:Int) == (l1.length:Int)) = false:=beq_eq_false_iff_ne.mpr c3;have c3b1:((l0.length:Int) != (l1.length:Int)) = true:=bne_iff_ne.mpr c3;have c3b2:(l0.length == l1.length) = false:=by first | simpa using c3 | (simp at c3 ⊢;omega)
  obtain rfl:=zC0 H;go_enter Tryz.func10,Tryz.ntmps10
  go_wp2
  repeat (go_quiet (fail);try go_wp2)
  go_ret;exact qE3
end Go.Proofs.YthhgfncliffggaaGreat.Pr
namespace Go.Proofs.YthhgfncliffggaaGreat.Man
open Go.RowKit Go.Proofs.YthhgfncliffggaaGreat.Pr Go.Proofs.YthhgfncliffggaaGreatW.PrintWords
theorem texts14 (l:List ByteArray) (hl:l.length≤8000000000000):Ev (fun k =>r14_Texts.f k l l) true:=by
 suffices h:∀ m i:Nat,i + m = l.length→Ev (fun k =>r14_Texts.l0 k l l (i:Int)) true by
  have:=h l.length 0 qC0;simpa [r14_Texts.f] using this
 intro m
 induction m with
 | zero =>
  intro i hi;have hnl:¬ ((i:Int) < (l.length:Int)):=by rw [show i = l.length from hi];exact Int.lt_irrefl _
  refine Ev.step ?_;simp only [r14_Texts.l0,if_neg hnl];exact Ev.const true
 | succ m ih =>
  intro i hi;have hil:i < l.length:=by omega
  have c1:(0:Int)≤(i:Int):=zH0 i;have c2:(i:Int) < (l.length:Int):=zW1.2 hil;have hw:=pz14 i (zF0 (zD2 hil) hl);refine Ev.step ?_;simp only [r14_Texts.l0,if_pos c1,if_pos c2,if_true,hw];exact ih (i + 1) qC0
open Go.Proofs.YthhgfncliffggaaGreat.Tarj
def ints (N:Nat) (f:Nat→Nat):Array Value:=((List.range N).map fun x =>Value.int .i64 (f x:Nat)).toArray
def bls (N:Nat) (f:Nat→Bool):Array Value:=((List.range N).map fun x =>Value.bool (f x)).toArray
theorem a9K {α:Type} (f:Nat→α) (N n:Nat) (v:α):((List.range N).map f).set n v = (List.range N).map (Tarj.upd f n v):=by
 apply zE2;intro i;rw [List.getElem?_set];by_cases h:n = i
 ·subst h;by_cases hn:n < N
  ·simp [hn,Tarj.upd]
  ·simp [hn]
 ·rw [if_neg h,List.getElem?_map,List.getElem?_map];by_cases hi:i < N
  ·simp [hi,Tarj.upd,Ne.symm h]
  ·simp [hi]
theorem a5K (N:Nat) (f:Nat→Nat) (n v:Nat):(ints N f).setIfInBounds n (.int .i64 (v:Nat)) = ints N (Tarj.upd f n v):=by
 unfold ints;rw [zL0,a9K]
 congr 2
 funext x
 simp only [Tarj.upd]
 split <;> rfl
theorem bls_set (N:Nat) (f:Nat→Bool) (n:Nat) (v:Bool):(bls N f).setIfInBounds n (.bool v) = bls N (Tarj.upd f n v):=by
 unfold bls;rw [zL0,a9K]
 congr 2
 funext x
 simp only [Tarj.upd]
 split <;> rfl
theorem a2D {N n:Nat} (f:Nat→Nat) (h:n < N):(ints N f)[n]? = some (.int .i64 (f n:Nat)):=by simp [ints,h]
theorem bls_get {N n:Nat} (f:Nat→Bool) (h:n < N):(bls N f)[n]? = some (.bool (f n)):=by simp [bls,h]
abbrev kI:Kd Int:=Kd.int .i64
abbrev kL:Kd (List Int):=Kd.slice 3 (Kd.int .i64)
def toI (l:List Nat):List Int:=l.map Int.ofNat
structure FS (B F b1 b2 b4:Nat) (A:Option Addr) (c:Nat) (g:List (List Int)) (s:St) (vs vk:Value) (W:World):Prop where
 f:W.heap[F]? = some (.cells #[.slice A g.length c,.slice (some ⟨b1,0,none⟩) g.length g.length,.slice (some ⟨b2,0,none⟩) g.length g.length,vs,.slice (some ⟨b4,0,none⟩) g.length g.length,.int .i64 (s.next:Nat),vk] 83 (0,0))
 x:W.heap[b1]? = some (.cells (ints g.length s.index) 3 (0,0))
 l:W.heap[b2]? = some (.cells (ints g.length s.low) 3 (0,0))
 o:W.heap[b4]? = some (.cells (bls g.length s.on) 4 (0,0))
 st:kI.R 3 W B (fun k =>k≠b1∧k≠b2) vs (toI s.stack)
 kn:Kd.N kL 43 W B (fun k =>B≤k∧k≠F∧k≠b1∧k≠b2∧k≠b4∧some k≠vs.ownBlock) vk (s.knots.map toI)
 gF:Kd.F kL W (fun k =>k < B) A g.length g
 b:B≤F∧B≤b1∧B≤b2∧B≤b4
 ne:b1≠b2
section
variable {B F b1 b2 b4:Nat} {A:Option Addr} {c:Nat} {g:List (List Int)} {s:St} {vs vk:Value} {W W1:World}
theorem FS.nF1 (h:FS B F b1 b2 b4 A c g s vs vk W):F≠b1:=a6C h.f h.x qB0
theorem FS.nF2 (h:FS B F b1 b2 b4 A c g s vs vk W):F≠b2:=a6C h.f h.l qB0
theorem FS.nF4 (h:FS B F b1 b2 b4 A c g s vs vk W):F≠b4:=a6C h.f h.o qB0
theorem FS.n14 (h:FS B F b1 b2 b4 A c g s vs vk W):b1≠b4:=a6C h.x h.o qB0
theorem FS.n24 (h:FS B F b1 b2 b4 A c g s vs vk W):b2≠b4:=a6C h.l h.o qB0
theorem FS.nsF (h:FS B F b1 b2 b4 A c g s vs vk W):some F≠vs.ownBlock:=Kd.R_ne h.st h.f qB0
theorem FS.ns4 (h:FS B F b1 b2 b4 A c g s vs vk W):some b4≠vs.ownBlock:=Kd.R_ne h.st h.o qB0
theorem FS.ns1 (h:FS B F b1 b2 b4 A c g s vs vk W):some b1≠vs.ownBlock:=fun e =>(h.st.1 b1 e.symm).1 rfl
theorem FS.ns2 (h:FS B F b1 b2 b4 A c g s vs vk W):some b2≠vs.ownBlock:=fun e =>(h.st.1 b2 e.symm).2 rfl
theorem FS.below (h:FS B F b1 b2 b4 A c g s vs vk W) (hb:Below W.heap.size W W1):FS B F b1 b2 b4 A c g s vs vk W1 :=
 ⟨a0P h.f hb,a0P h.x hb,a0P h.l hb,a0P h.o hb,Kd.a5M h.st hb,Kd.a1P h.kn hb,Kd.a1F h.gF hb,h.b,h.ne⟩
theorem FS.far (h:FS B F b1 b2 b4 A c g s vs vk W) (q i:Nat) (hq:q = F∨q = b1∨q = b2∨q = b4) (u:Value) :
  kI.R 3 (W.setCell ⟨q,i,none⟩ u) B (fun k =>k≠b1∧k≠b2) vs (toI s.stack) ∧
  Kd.N kL 43 (W.setCell ⟨q,i,none⟩ u) B (fun k =>B≤k∧k≠F∧k≠b1∧k≠b2∧k≠b4∧some k≠vs.ownBlock) vk (s.knots.map toI) ∧
  Kd.F kL (W.setCell ⟨q,i,none⟩ u) (fun k =>k < B) A g.length g∧Below B W (W.setCell ⟨q,i,none⟩ u):=by
 have hb:=h.b;have hn:some q≠vs.ownBlock:=by
  rcases hq with rfl | rfl | rfl | rfl
  ·exact h.nsF
  ·exact h.ns1
  ·exact h.ns2
  ·exact h.ns4
 have hge:B≤q:=by rcases hq with rfl | rfl | rfl | rfl <;> omega
 refine ⟨Kd.a3C (Kd.b2F (p:=⟨q,i,none⟩) (Kd.a3C (Kd.a5C (ok:=fun k =>some k = vs.ownBlock) rfl h.st (fun k hk =>hk.symm)) (fun _ hk =>hk)) (fun k hk e =>hn (by rw [← hk];exact congrArg some e.symm)) u) (fun k hk =>h.st.1 k hk.symm),
  Kd.b7C (p:=⟨q,i,none⟩) h.kn (fun k hk e =>?_) u,Kd.a8G (p:=⟨q,i,none⟩) h.gF (fun k hk e =>?_) u,(zG0 B W).setCell (p:=⟨q,i,none⟩) hge u⟩
 ·obtain ⟨_,k1,k2,k3,k4,_⟩:=hk;have e':k = q:=e;subst e';rcases hq with rfl | rfl | rfl | rfl
  ·exact k1 rfl
  ·exact k2 rfl
  ·exact k3 rfl
  ·exact k4 rfl
 ·have e':k = q:=e;omega
theorem FS.setNext (h:FS B F b1 b2 b4 A c g s vs vk W) (v:Nat):FS B F b1 b2 b4 A c g { s with next:=v } vs vk (W.setCell ⟨F,5,none⟩ (.int .i64 (v:Nat))):=by
 obtain ⟨a1,a2,a3,_⟩:=h.far F 5 (.inl rfl) (.int .i64 (v:Nat));exact ⟨a2A h.f 5 _ rfl,a1M h.x (Ne.symm h.nF1) _,a1M h.l (Ne.symm h.nF2) _,a1M h.o (Ne.symm h.nF4) _,a1,a2,a3,h.b,h.ne⟩
theorem FS.setIndex (h:FS B F b1 b2 b4 A c g s vs vk W) (n v:Nat):FS B F b1 b2 b4 A c g { s with index:=Tarj.upd s.index n v } vs vk (W.setCell ⟨b1,n,none⟩ (.int .i64 (v:Nat))):=by
 obtain ⟨a1,a2,a3,_⟩:=h.far b1 n (.inr (.inl rfl)) (.int .i64 (v:Nat));exact ⟨a1M h.f h.nF1 _,a2A h.x n _ (a5K _ _ _ _),a1M h.l (Ne.symm h.ne) _,a1M h.o (Ne.symm h.n14) _,a1,a2,a3,h.b,h.ne⟩
theorem FS.setLow (h:FS B F b1 b2 b4 A c g s vs vk W) (n v:Nat):FS B F b1 b2 b4 A c g { s with low:=Tarj.upd s.low n v } vs vk (W.setCell ⟨b2,n,none⟩ (.int .i64 (v:Nat))):=by
 obtain ⟨a1,a2,a3,_⟩:=h.far b2 n (.inr (.inr (.inl rfl))) (.int .i64 (v:Nat));exact ⟨a1M h.f h.nF2 _,a1M h.x h.ne _,a2A h.l n _ (a5K _ _ _ _),a1M h.o (Ne.symm h.n24) _,a1,a2,a3,h.b,h.ne⟩
theorem FS.setOn (h:FS B F b1 b2 b4 A c g s vs vk W) (n:Nat) (v:Bool):FS B F b1 b2 b4 A c g { s with on:=Tarj.upd s.on n v } vs vk (W.setCell ⟨b4,n,none⟩ (.bool v)):=by
 obtain ⟨a1,a2,a3,_⟩:=h.far b4 n (.inr (.inr (.inr rfl))) (.bool v);exact ⟨a1M h.f h.nF4 _,a1M h.x h.n14 _,a1M h.l h.n24 _,a2A h.o n _ (bls_set _ _ _ _),a1,a2,a3,h.b,h.ne⟩
theorem FS.setStack (h:FS B F b1 b2 b4 A c g s vs vk W) {vs1:Value} {st1:List Nat} (hr:kI.R 3 W1 B (fun k =>k≠b1∧k≠b2) vs1 (toI st1)) (hg:W.grownBy W1 vs.ownBlock) (hat:vs1.ownBlock = vs.ownBlock∨∃ b,vs1.ownBlock = some b∧W.heap.size≤b) (hbb:Below B W W1) :
  FS B F b1 b2 b4 A c g { s with stack:=st1 } vs1 vk (W1.setCell ⟨F,3,none⟩ vs1)∧Below B W (W1.setCell ⟨F,3,none⟩ vs1):=by
 have hb:=h.b;have hf:=a1D h.f hg h.nsF;have n1:some F≠vs1.ownBlock:=Kd.R_ne hr hf qB0;have hk:Kd.N kL 43 W1 B (fun k =>B≤k∧k≠F∧k≠b1∧k≠b2∧k≠b4∧some k≠vs1.ownBlock) vk (s.knots.map toI) :=
  Kd.a3T (Kd.N_after (ok:=fun k =>B≤k∧k≠F∧k≠b1∧k≠b2∧k≠b4) (Kd.a3T h.kn (fun k hk =>⟨⟨hk.1,hk.2.1,hk.2.2.1,hk.2.2.2.1,hk.2.2.2.2.1⟩,hk.2.2.2.2.2⟩)) hg hat) (fun k hk =>⟨hk.1.1,hk.1.2.1,hk.1.2.2.1,hk.1.2.2.2.1,hk.1.2.2.2.2,hk.2⟩)
 have hgF:Kd.F kL W1 (fun k =>k < B) A g.length g:=Kd.a4L h.gF (fun k hk _ =>hbb.block k hk);refine ⟨⟨a2A hf 3 _ rfl,a1M (a1D h.x hg h.ns1) (Ne.symm h.nF1) _,a1M (a1D h.l hg h.ns2) (Ne.symm h.nF2) _,a1M (a1D h.o hg h.ns4) (Ne.symm h.nF4) _,?_,Kd.b7C (p:=⟨F,3,none⟩) hk (fun k hk =>hk.2.1) _,Kd.a8G (p:=⟨F,3,none⟩) hgF (fun k hk e =>by (have e':k = F:=e);omega) _,h.b,h.ne⟩,hbb.setCell (p:=⟨F,3,none⟩) hb.1 _⟩;exact Kd.a3C (Kd.b2F (p:=⟨F,3,none⟩) (Kd.a5C (ok:=fun k =>some k = vs1.ownBlock) rfl hr (fun k hk =>hk.symm)) (fun k hk e =>n1 (by rw [← hk];exact congrArg some (show F = k from e.symm))) _) (fun k hk =>hr.1 k hk.symm)
theorem FS.setKnots (h:FS B F b1 b2 b4 A c g s vs vk W) {vk1:Value} {kn1:List (List Nat)} (hk:Kd.N kL 43 W1 B (fun k =>B≤k∧k≠F∧k≠b1∧k≠b2∧k≠b4∧some k≠vs.ownBlock) vk1 (kn1.map toI)) (hg:W.grownBy W1 vk.ownBlock) (hbb:Below B W W1) :
  FS B F b1 b2 b4 A c g { s with knots:=kn1 } vs vk1 (W1.setCell ⟨F,6,none⟩ vk1)∧Below B W (W1.setCell ⟨F,6,none⟩ vk1):=by
 have hb:=h.b;have m1:∀ q,(q = F∨q = b1∨q = b2∨q = b4)→some q≠vk.ownBlock:=fun q hq e =>by
  obtain ⟨_,k1,k2,k3,k4,_⟩:=h.kn.1 q e.symm;rcases hq with rfl | rfl | rfl | rfl
  ·exact k1 rfl
  ·exact k2 rfl
  ·exact k3 rfl
  ·exact k4 rfl
 have hf:=a1D h.f hg (m1 F (.inl rfl));have hst:kI.R 3 W1 B (fun k =>k≠b1∧k≠b2) vs (toI s.stack):=Kd.a3C (Kd.c0S (Kd.a5C (ok:=fun k =>some k = vs.ownBlock) rfl h.st (fun k hk =>hk.symm)) hg (fun k hk e =>(h.kn.1 k e.symm).2.2.2.2.2 hk)) (fun k hk =>h.st.1 k hk.symm);have hgF:Kd.F kL W1 (fun k =>k < B) A g.length g:=Kd.a4L h.gF (fun k hk _ =>hbb.block k hk);refine ⟨⟨a2A hf 6 _ rfl,a1M (a1D h.x hg (m1 b1 (.inr (.inl rfl)))) (Ne.symm h.nF1) _,a1M (a1D h.l hg (m1 b2 (.inr (.inr (.inl rfl))))) (Ne.symm h.nF2) _,a1M (a1D h.o hg (m1 b4 (.inr (.inr (.inr rfl))))) (Ne.symm h.nF4) _,?_,Kd.b7C (p:=⟨F,6,none⟩) hk (fun k hk =>hk.2.1) _,Kd.a8G (p:=⟨F,6,none⟩) hgF (fun k hk e =>by (have e':k = F:=e);omega) _,h.b,h.ne⟩,hbb.setCell (p:=⟨F,6,none⟩) hb.1 _⟩;exact Kd.a3C (Kd.b2F (p:=⟨F,6,none⟩) (Kd.a5C (ok:=fun k =>some k = vs.ownBlock) rfl hst (fun k hk =>hk.symm)) (fun k hk e =>h.nsF (by rw [← hk];exact congrArg some (show F = k from e.symm))) _) (fun k hk =>h.st.1 k hk.symm)
theorem FS.cf (h:FS B F b1 b2 b4 A c g s vs vk W):(W.cell? ⟨F,0,none⟩ = some (.slice A g.length c)∧W.cell? ⟨F,1,none⟩ = some (.slice (some ⟨b1,0,none⟩) g.length g.length)∧W.cell? ⟨F,2,none⟩ = some (.slice (some ⟨b2,0,none⟩) g.length g.length)∧W.cell? ⟨F,3,none⟩ = some vs∧W.cell? ⟨F,4,none⟩ = some (.slice (some ⟨b4,0,none⟩) g.length g.length)∧W.cell? ⟨F,5,none⟩ = some (.int .i64 (s.next:Nat))∧W.cell? ⟨F,6,none⟩ = some vk) ∧
  (W.frozen? ⟨F,3,none⟩ = false∧W.frozen? ⟨F,5,none⟩ = false∧W.frozen? ⟨F,6,none⟩ = false) :=
 ⟨⟨(a0I h.f 0).trans rfl,(a0I h.f 1).trans rfl,(a0I h.f 2).trans rfl,(a0I h.f 3).trans rfl,(a0I h.f 4).trans rfl,(a0I h.f 5).trans rfl,(a0I h.f 6).trans rfl⟩,a0K h.f 3,a0K h.f 5,a0K h.f 6⟩
theorem FS.cn (h:FS B F b1 b2 b4 A c g s vs vk W) {n:Nat} (hn:n < g.length):(W.cell? ⟨b1,n,none⟩ = some (.int .i64 (s.index n:Nat))∧W.cell? ⟨b2,n,none⟩ = some (.int .i64 (s.low n:Nat))∧W.cell? ⟨b4,n,none⟩ = some (.bool (s.on n))) ∧
  (W.frozen? ⟨b1,n,none⟩ = false∧W.frozen? ⟨b2,n,none⟩ = false∧W.frozen? ⟨b4,n,none⟩ = false) :=
 ⟨⟨(a0I h.x n).trans (a2D _ hn),(a0I h.l n).trans (a2D _ hn),(a0I h.o n).trans (bls_get _ hn)⟩,a0K h.x n,a0K h.l n,a0K h.o n⟩
end
def cnt (N:Nat) (s:St):Nat:=s.next + whites N s
def tot (s:St):Nat:=s.knots.flatten.length + s.stack.length
theorem a7Y {N:Nat} {s:St} {n:Nat} (hn:n < N) (h0:s.index n = 0):whites N (enterF n s) + 1 = whites N s:=by
 unfold whites;have key:∀ l:List Nat,l.Nodup→(n ∈ l→l.countP (fun x =>decide ((enterF n s).index x = 0)) + 1 = l.countP (fun x =>decide (s.index x = 0)))∧(n ∉ l→l.countP (fun x =>decide ((enterF n s).index x = 0)) = l.countP (fun x =>decide (s.index x = 0))):=by
  intro l
  induction l with
  | nil =>intro _;exact ⟨fun h =>(by cases h),fun _ =>rfl⟩
  | cons a r ih =>
   intro hd;obtain ⟨hd1,hd2⟩:=List.nodup_cons.1 hd;obtain ⟨i1,i2⟩:=ih hd2;simp only [List.countP_cons];refine ⟨fun hm =>?_,fun hm =>?_⟩
   ·by_cases ha:a = n
    ·subst ha;rw [i2 hd1];simp [enterF,Tarj.upd,h0]
    ·have:=i1 ((zQ0.1 hm).resolve_left (fun e =>ha e.symm));simp only [enterF,Tarj.upd,if_neg ha] at this ⊢;omega
   ·have ha:a≠n:=fun e =>hm (e ▸ zN0)
    have:=i2 (fun h =>hm (zP0 _ h));simp only [enterF,Tarj.upd,if_neg ha] at this ⊢;omega
 exact (key _ List.nodup_range).1 (zX0.2 hn)
theorem a7F (l:List Nat):(sortN l).length = l.length:=List.length_mergeSort _
theorem b5T (n:Nat) (s:St):tot (knotF n s) = tot s∧(knotF n s).next = s.next∧(knotF n s).index = s.index:=by
 refine ⟨?_,rfl,rfl⟩;simp only [tot,knotF,List.flatten_append,zO0,List.flatten_cons,List.flatten_nil,zR2,a7F,zK1,zY1];have:=List.idxOf_le_length (a:=n) (l:=s.stack);omega
theorem a8Y {adj:Nat→List Nat} {N:Nat} (hN:∀ x,x < N→∀ y,y ∈ adj x→y < N):∀ (k:Nat) (n:Nat) (s:St),n < N→s.index n = 0→cnt N (visitF adj k n s) = cnt N s∧(tot s = s.next→tot (visitF adj k n s) = (visitF adj k n s).next):=by
 intro k
 induction k with
 | zero =>intro n s _ _;exact ⟨rfl,fun h =>h⟩
 | succ k ih =>
  intro n s hn h0;have fold:∀ (l:List Nat) (t:St),(∀ y,y ∈ l→y < N)→cnt N (l.foldl (stepF (visitF adj k) n) t) = cnt N t∧(tot t = t.next→tot (l.foldl (stepF (visitF adj k) n) t) = (l.foldl (stepF (visitF adj k) n) t).next):=by
   intro l
   induction l with
   | nil =>intro t _;exact ⟨rfl,fun h =>h⟩
   | cons m r ihl =>
    intro t hl;obtain ⟨a,b⟩:=ihl (stepF (visitF adj k) n t m) (fun y hy =>hl y (zP0 _ hy));have hs:cnt N (stepF (visitF adj k) n t m) = cnt N t∧(tot t = t.next→tot (stepF (visitF adj k) n t m) = (stepF (visitF adj k) n t m).next):=by
     unfold stepF
     split
     ·next hm =>
      obtain ⟨c1,c3⟩:=ih m t (hl m zN0) hm;exact ⟨c1,c3⟩
     ·split <;> exact ⟨rfl,fun h =>h⟩
    exact ⟨a.trans hs.1,fun h =>b (hs.2 h)⟩
  obtain ⟨a,b⟩:=fold (adj n) (enterF n s) (fun y hy =>hN n hn y hy);have he:cnt N (enterF n s) = cnt N s:=by
   have:=a7Y hn h0;unfold cnt;show s.next + 1 + _ = _;omega
  have ht:tot s = s.next→tot (enterF n s) = (enterF n s).next:=fun h =>by
   simp only [tot,enterF,zO0,zR0,zI1] at h ⊢;omega
  obtain ⟨t,htt⟩:∃ t,t = (adj n).foldl (stepF (visitF adj k) n) (enterF n s):=⟨_,rfl⟩;have hv:visitF adj (k + 1) n s = leaveF n t:=by rw [htt];rfl
  rw [← htt] at a b;have hl1:cnt N (leaveF n t) = cnt N t:=by
   unfold leaveF;split
   ·obtain ⟨_,q2,q3⟩:=b5T n t;unfold cnt whites;rw [q2,q3]
   ·rfl
  have hl2:tot t = t.next→tot (leaveF n t) = (leaveF n t).next:=fun h =>by
   unfold leaveF;split
   ·obtain ⟨q1,q2,_⟩:=b5T n t;rw [q1,q2,h]
   ·exact h
  rw [hv];exact ⟨hl1.trans (a.trans he),fun h =>hl2 (b (ht h))⟩
open Go.Shelf Go.Proofs.YthhgfncliffggaaGreatW.PrintMore
theorem b6Y (l:List Int) (A:Option Addr) (c:Nat) (w:World) (hC:kI.C w A l.length l) (hl:l.length≤1000000000) :
  Calls Tryz.prog 103 #[.slice A l.length c] w fun e w' =>∃ v',e = .returned v'∧w'.ownsRow w.heap.size 3 1 v' l.length (l.map (Value.int .i64))∧Below w.heap.size w w':=by
 cases A with
 | none =>
  have hy:l = []:=by
   rcases zR1 l.length with h0 | h0
   ·exact List.length_eq_zero_iff.1 h0
   ·obtain ⟨ad,e,_⟩:=Kd.a3B hC 0 qC0 qC0;cases e
  subst hy;refine (Tryz.slices_Clone_int_nil 0 c w).mono ?_;rintro e w' ⟨rfl,rfl⟩;exact ⟨_,rfl,World.ownsRow_nil _ _ _ _,zG0 _ _⟩
 | some ad =>
  rcases zR1 l.length with h0 | h0
  ·have hy:l = []:=List.length_eq_zero_iff.1 h0;subst hy;refine (Tryz.slices_Clone_int_zero ad c w).mono ?_;rintro e w' ⟨v',rfl,h1,_,hb⟩;exact ⟨v',rfl,h1,hb⟩
  ·have hall:∀ j,j < l.length→w.cell? (ad.add j) = some (.int .i64 (l.getD j 0)):=by
    intro j hj;obtain ⟨ad',e,hc⟩:=Kd.a3B hC (j:Int) (zH0 j) (zW1.2 hj);cases e;rw [zK0] at hc;rw [hc];unfold rd;rw [zK0]
   have hsp:ad.spot = none:=World.cell?_spot (hall 0 h0);obtain ⟨b,off,sp⟩:=ad;simp only at hsp;subst hsp;refine (Tryz.slices_Clone_int b off l.length c l w (zJ0 _) qC0 (fun j hj =>by rw [← a3P];exact hall j hj)).mono ?_;rintro e w' ⟨v',rfl,h1,_,hb⟩;rw [zN1] at h1;exact ⟨v',rfl,h1,hb⟩
theorem a5S (l:List Nat) (j:Nat) (h:j < l.length):(toI l).getD j 0 = (l[j]:Int):=by
 simp [toI,zE0,h]
theorem a1E (l:List Nat):(toI l).length = l.length:=zU1 _
theorem b9Q (l:List Nat) (n:Nat) (h:n ∈ l):Go.Lib.idxOf (toI l) (n:Int) = (l.idxOf n:Nat):=by
 have hlt:=List.idxOf_lt_length_of_mem h
 have:=Go.Lib.idxOf_hit (toI l) (toI l).length (l.idxOf n) (n:Int) (by rw [a1E];exact hlt) (zJ0 _) (by rw [a5S _ _ hlt,List.getElem_idxOf]) (fun j hj e =>by
  rw [a5S _ _ qC0] at e;have:=List.not_of_lt_findIdx (p:=(· == n)) (xs:=l) (i:=j) hj;have e':l[j]'qC0 = n:=by exact_mod_cast e
  simp [e'] at this)
 rwa [zN1] at this
theorem b6U (l:List Nat) (n:Nat) (hn:n ∈ l) (A:Option Addr) (c:Nat) (w:World) (hC:kI.C w A (toI l).length (toI l)) (hl:l.length≤1000000000) :
  Calls Tryz.prog 102 #[.slice A (toI l).length c,.int .i64 (n:Nat)] w fun e w' =>e = .returned (.int .i64 (l.idxOf n:Nat))∧w' = w:=by
 have h0:0 < (toI l).length:=by rw [a1E];exact List.length_pos_of_mem hn
 obtain ⟨ad,e,_⟩:=Kd.a3B hC 0 qC0 qC0;subst e;have hall:∀ j,j < (toI l).length→w.cell? (ad.add j) = some (.int .i64 ((toI l).getD j 0)):=by
  intro j hj;obtain ⟨ad',e,hc⟩:=Kd.a3B hC (j:Int) (zH0 j) (zW1.2 hj);cases e;rw [zK0] at hc;rw [hc];unfold rd;rw [zK0]
 have hsp:ad.spot = none:=World.cell?_spot (hall 0 h0);obtain ⟨b,off,sp⟩:=ad;simp only at hsp;subst hsp;refine (Tryz.slices_Index_int b off (toI l).length c (toI l) n w (zJ0 _) qU1 (fun j hj =>by rw [← a3P];exact hall j hj)).mono ?_;rintro e w' ⟨rfl,rfl⟩;rw [zN1,b9Q l n hn];exact ⟨rfl,rfl⟩
theorem b1J (l:List Nat):srt (toI l) = toI (sortN l):=by
 unfold srt toI sortN;rw [List.map_mergeSort];intro a _ b _;simp
theorem b1X:(Tryz.prog.info? 3).map (fun i =>(i.zero,i.size,i.bytes)) = some (some (.int .i64 0),1,8):=by kernel_rfl
theorem infoL:(Tryz.prog.info? 43).map (fun i =>(i.zero,i.size,i.bytes)) = some (some (.slice none 0 0),1,24):=by kernel_rfl
structure FSN (N B F b1 b2 b4:Nat) (A:Option Addr) (c:Nat) (g:List (List Int)) (s:St) (vs vk:Value) (W:World):Prop where
 h:FS B F b1 b2 b4 A c g s vs vk W
 kn:Kd.N kL 43 W B (fun k =>(B≤k∧k≠F∧k≠b1∧k≠b2∧k≠b4∧some k≠vs.ownBlock)∧k < N) vk (s.knots.map toI)
 lt:F < N∧b1 < N∧b2 < N∧b4 < N
 sl:∀ k,vs.ownBlock = some k→k < N
 bn:B≤N
section
variable {N B F b1 b2 b4:Nat} {A:Option Addr} {c:Nat} {g:List (List Int)} {s:St} {vs vk:Value} {W W1:World}
theorem FS.lay (h:FS B F b1 b2 b4 A c g s vs vk W) (hb:Below W.heap.size W W1) (hB:B≤W.heap.size):FSN W.heap.size B F b1 b2 b4 A c g s vs vk W1 :=
 ⟨h.below hb,Kd.N_old h.kn hb,⟨a0X h.f,a0X h.x,a0X h.l,a0X h.o⟩,fun k hk =>by
  obtain ⟨cells,hc⟩:=a1S (Kd.a2C h.st) k hk
  exact a0X hc,hB⟩
theorem FSN.setOn (h:FSN N B F b1 b2 b4 A c g s vs vk W) (n:Nat) (v:Bool):FSN N B F b1 b2 b4 A c g { s with on:=Tarj.upd s.on n v } vs vk (W.setCell ⟨b4,n,none⟩ (.bool v)) :=
 ⟨h.h.setOn n v,Kd.b7C (p:=⟨b4,n,none⟩) h.kn (fun k hk e =>hk.1.2.2.2.2.1 e) _,h.lt,h.sl,h.bn⟩
theorem FSN.cut {b3 cap m:Nat} (h:FSN N B F b1 b2 b4 A c g s (.slice (some ⟨b3,0,none⟩) (toI s.stack).length cap) vk W) (hm:m≤s.stack.length) :
  FSN N B F b1 b2 b4 A c g { s with stack:=s.stack.take m } (.slice (some ⟨b3,0,none⟩) m cap) vk (W.setCell ⟨F,3,none⟩ (.slice (some ⟨b3,0,none⟩) m cap)):=by
 have ho:=a8L (Kd.a2C h.h.st) (show m≤(toI s.stack).length by rw [a1E];exact hm);have hr:kI.R 3 W B (fun k =>k≠b1∧k≠b2) (.slice (some ⟨b3,0,none⟩) m cap) (toI (s.stack.take m)) :=
  Kd.a2W (by
   have hl:(toI (s.stack.take m)).length = m:=by rw [a1E,zK1];omega
   rw [hl];have he:encs (Value.int .i64) (toI (s.stack.take m)) = (encs (Value.int .i64) (toI s.stack)).take (m * 1):=by simp [encs,toI,List.map_take]
   rw [he];exact ho) (fun k hk =>h.h.st.1 k (by simpa [Value.ownBlock] using hk))
 obtain ⟨h1,_⟩:=h.h.setStack hr ⟨rfl,rfl,rfl,zJ0 _,fun _ _ _ =>rfl⟩ (.inl rfl) (zG0 _ _);exact ⟨h1,Kd.b7C (p:=⟨F,3,none⟩) (Kd.a3T h.kn (fun k hk =>⟨⟨hk.1.1,hk.1.2.1,hk.1.2.2.1,hk.1.2.2.2.1,hk.1.2.2.2.2.1,by simpa [Value.ownBlock] using hk.1.2.2.2.2.2⟩,hk.2⟩)) (fun k hk e =>hk.1.2.1 e) _,h.lt,fun k hk =>h.sl k (by simpa [Value.ownBlock] using hk),h.bn⟩
theorem FSN.step (h:FSN N B F b1 b2 b4 A c g s vs vk W) (hk:∀ k,k < N→W1.heap[k]? = W.heap[k]?):FSN N B F b1 b2 b4 A c g s vs vk W1 :=
 ⟨⟨(hk F h.lt.1).trans h.h.f,(hk b1 h.lt.2.1).trans h.h.x,(hk b2 h.lt.2.2.1).trans h.h.l,(hk b4 h.lt.2.2.2).trans h.h.o,
  Kd.a3C (Kd.a8D (Kd.a5C (ok:=fun k =>some k = vs.ownBlock) rfl h.h.st (fun k hk =>hk.symm)) (fun k ho _ =>hk k (h.sl k ho.symm))) (fun k hk =>h.h.st.1 k hk.symm),
  Kd.a3T (Kd.b0F h.kn (fun k ho _ =>hk k ho.2)) (fun _ hk =>hk.1),Kd.a4L h.h.gF (fun k hq _ =>hk k (zP1 hq h.bn)),h.h.b,h.h.ne⟩,
  Kd.b0F h.kn (fun k ho _ =>hk k ho.2),h.lt,h.sl,h.bn⟩
end
def offs (f:Nat→Bool) (l:List Nat) (j:Nat):Nat→Bool:=fun x =>if x ∈ l.take j then false else f x
theorem b8U (f:Nat→Bool) (l:List Nat):offs f l 0 = f:=by funext x;simp [offs]
theorem offs_all (f:Nat→Bool) (l:List Nat):offs f l l.length = fun x =>if x ∈ l then false else f x:=by funext x;simp [offs]
theorem b8V (f:Nat→Bool) (l:List Nat) (j:Nat) (h:j < l.length):offs f l (j + 1) = Tarj.upd (offs f l j) l[j] false:=by
 funext x
 simp only [offs,Tarj.upd,zB1 h,zT0,zA1];by_cases hx:x = l[j]
 ·simp [hx]
 ·simp [hx]
attribute [local go_sem] Oper.semAt_some
theorem pzK (n:Nat) (h:n≤1000):wrap64 ((n:Int) + 1) = ((n + 1:Nat):Int):=by simp only [wrap64];omega
structure KL (N B F b1 b2 b4:Nat) (A:Option Addr) (c:Nat) (g:List (List Int)) (s:St) (l:List Nat) (vs vk v5:Value) (W0:World) (j:Nat) (W:World):Prop where
 fs:FSN N B F b1 b2 b4 A c g { s with on:=offs s.on l j } vs vk W
 own:W.ownsRow N 3 1 v5 l.length ((toI l).map (Value.int .i64))
 be:Below B W0 W
 n:N≤W.heap.size
theorem own_FK {W:World} {N g5 c5 n:Nat} {xs:List Int} (h:W.ownsRow N 3 1 (.slice (some ⟨g5,0,none⟩) n c5) n (xs.map (Value.int .i64))) (hn:xs.length = n) (hc:n≤c5) :
  Kd.FK kL W (fun k =>k = g5) xs [.slice (some ⟨g5,0,none⟩) n c5]:=by
 subst hn;exact Kd.b5C hc (Kd.N_F (Kd.R_N (base:=N) (e:=3) (ok:=fun k =>k = g5) (Kd.a2W h (fun k hk =>by simp only [Value.ownBlock,Option.some.injEq] at hk;exact hk.symm))))
theorem okp_g5 {N B F b1 b2 b4:Nat} {A:Option Addr} {c:Nat} {g:List (List Int)} {s:St} {vs vk:Value} {W:World} {g5 c5 n:Nat} {xs:List Value} (h:FSN N B F b1 b2 b4 A c g s vs vk W) (ho:W.ownsRow N 3 1 (.slice (some ⟨g5,0,none⟩) n c5) n xs) :
  ∀ k,k = g5→(B≤k∧k≠F∧k≠b1∧k≠b2∧k≠b4∧some k≠vs.ownBlock)∧some k≠vk.ownBlock:=by
 rintro k rfl;have h0:N≤k:=a1O ho k rfl;obtain ⟨l1,l2,l3,l4⟩:=h.lt;have hb:=h.bn;refine ⟨⟨by omega,by omega,by omega,by omega,by omega,fun e =>?_⟩,fun e =>?_⟩
 ·have:=h.sl k e.symm;omega
 ·have:=(h.kn.1 k e.symm).2;omega
theorem b5V {N B F b1 b2 b4:Nat} {A:Option Addr} {c:Nat} {g:List (List Int)} {s:St} {vs vk:Value} {W:World} (h:FSN N B F b1 b2 b4 A c g s vs vk W) :
  ∀ k,W.heap.size≤k→B≤k∧k≠F∧k≠b1∧k≠b2∧k≠b4∧some k≠vs.ownBlock:=by
 intro k hk;have hF:=a0X h.h.f;have h1:=a0X h.h.x;have h2:=a0X h.h.l;have h4:=a0X h.h.o;have hb:=h.h.b;refine ⟨by omega,by omega,by omega,by omega,by omega,fun e =>?_⟩;obtain ⟨cells,hc⟩:=a1S (Kd.a2C h.h.st) k e.symm;have:=a0X hc;omega
theorem knot_any (g:List (List Int)) (A:Option Addr) (c B F b1 b2 b4:Nat) (s:St) (n:Nat) (vs vk:Value) (W:World)
  (hfs:FS B F b1 b2 b4 A c g s vs vk W) (hn:n ∈ s.stack) (hlt:∀ x,x ∈ s.stack→x < g.length) (hs:s.stack.length≤1000) (hk:s.knots.length≤1000) (hB:B≤W.heap.size) :
  Calls Tryz.prog 75 #[.pointer (some ⟨F,0,none⟩),.int .i64 (n:Nat)] W fun e W' =>e = .returned (.tuple #[])∧(∃ vs' vk',FS B F b1 b2 b4 A c g (knotF n s) vs' vk' W')∧Below B W W':=by
 have hpos:0 < (toI s.stack).length:=by rw [a1E];exact List.length_pos_of_mem hn
 obtain ⟨b3,cap,rfl,hcap⟩:∃ b3 cap,vs = .slice (some ⟨b3,0,none⟩) (toI s.stack).length cap∧(toI s.stack).length≤cap:=by
  rcases (Kd.a2C hfs.st).2 with ⟨_,h0⟩ | ⟨g',cap',cur,hv,_,_,hnc,_⟩
  ·omega
  ·exact ⟨g',cap',hv,hnc⟩
 obtain ⟨a,ha⟩:∃ a,a = s.stack.idxOf n:=⟨_,rfl⟩;have halt:a < s.stack.length:=ha ▸ List.idxOf_lt_length_of_mem hn;obtain ⟨l,hl⟩:∃ l,l = s.stack.drop a:=⟨_,rfl⟩;have hll:l.length = s.stack.length - a:=by rw [hl,zY1]
 have hCs:kI.C W (some ⟨b3,0,none⟩) (toI s.stack).length (toI s.stack):=by
  obtain ⟨A',c',e,_,h⟩:=Kd.a2R hfs.st;injection e with e1 _ _
  rw [e1];exact h
 obtain ⟨i3,hi3,hi3s⟩:=zC1.1 b1X;obtain ⟨A1,hcut,hcr,hcl⟩:=b1R (P:=Tryz.prog) (k:=.i64) 43 3 Tryz.underlying43 hi3 qZ1 (some ⟨b3,0,none⟩) cap (toI s.stack) (a:Int) (zH0 a) qU1 hcap;obtain ⟨htk,_,_⟩:=a6O (P:=Tryz.prog) (k:=.i64) 43 3 Tryz.underlying43 hi3 qZ1 (some ⟨b3,0,none⟩) cap (toI s.stack) (a:Int) (zH0 a) qU1 hcap;have hdr:(toI s.stack).drop ((a:Int)).toNat = toI l:=by rw [zK0,hl];simp [toI,List.map_drop]
 have htl:((toI s.stack).take ((a:Int)).toNat).length = a:=by rw [zK0,zK1,a1E];omega
 rw [hdr] at hcut hcr hcl;rw [htl] at htk;rw [zK0] at hcut hcl;have hCl:kI.C W A1 (toI l).length (toI l):=Kd.a5D (d:=(0:Int)) (hcr W (Kd.a6K (d:=(0:Int)) hCs));have hidx:=b6U s.stack n hn (some ⟨b3,0,none⟩) cap W hCs qC0;rw [← ha] at hidx;have hclone:=b6Y (toI l) A1 (cap - a) W hCl qU1;have HIDX:=zA0 hidx;have HCLONE:=zA0 hclone;have FS0:=zA0 hfs;have HCS:=zA0 hCs;have HHA:=zA0 ha;have HHL:=zA0 hl;have HLT:=zA0 (show ∀ x,x ∈ l→x < g.length from fun x hx =>hlt x (List.mem_of_mem_drop (hl ▸ hx)));have HB:=zA0 hB;have HHK:=zA0 hk;have HAL:=zA0 halt;have hlp:0 < (toI l).length:=by rw [a1E];omega
 have hl1:l.length≤1000:=by omega
 obtain ⟨n3,hn3⟩:∃ m,m = (toI s.stack).length:=⟨_,rfl⟩;have ck:=hfs.cf;rw [← hn3] at hcut htk ck HIDX hcap;rw [a1E] at hcut hlp HCLONE hcl;clear hidx hclone hfs hCs hCl hcr hlt hB hk hn ha hl hi3 hi3s hdr htl hpos halt hll;have HN3:=zA0 hn3;clear hn3;go_enter Tryz.func75,Tryz.ntmps75
 go_upto_region 1 with (first
  | (go_at_call 102;with_reducible refine HIDX.out.mono ?_;rintro x w1 ⟨rfl,hw1⟩;obtain rfl:W = w1:=hw1.symm))
 go_upto_region 2 with (first
  | (go_at_call 103;with_reducible refine HCLONE.out.mono ?_;rintro x w2 ⟨v5,rfl,hown,hb5⟩;have HOWN:=zA0 hown;have HB5:=zA0 hb5;have FS1:=zA0 (FS0.out.lay hb5 HB.out);clear hown hb5 ck))
 have ck:=FS1.out.h.cf;rw [← HN3.out] at ck;go_upto_region 3 with (fail)
 have fs2:FSN W.heap.size B F b1 b2 b4 A c g { s with stack:=s.stack.take a } (.slice (some ⟨b3,0,none⟩) a cap) vk (w2.setCell ⟨F,3,none⟩ (.slice (some ⟨b3,0,none⟩) a cap)):=FS1.out.cut (zD2 HAL.out)
 have ho2:(w2.setCell ⟨F,3,none⟩ (.slice (some ⟨b3,0,none⟩) a cap)).ownsRow W.heap.size 3 1 v5 l.length ((toI l).map (Value.int .i64)):=a3N HOWN.out (fun k hk =>Below.heap_setCell _ _ _ _ (fun e =>by
  have h1:W.heap.size≤k:=a1O HOWN.out k hk;have h2:=FS1.out.lt.1;have h3:k = F:=e
  omega))
 have hb2:Below B W (w2.setCell ⟨F,3,none⟩ (.slice (some ⟨b3,0,none⟩) a cap)):=(HB5.out.mono HB.out).setCell (p:=⟨F,3,none⟩) FS1.out.h.b.1 _;have hn2:W.heap.size≤(w2.setCell ⟨F,3,none⟩ (.slice (some ⟨b3,0,none⟩) a cap)).heap.size:=hb2.size;clear ck HOWN;generalize w2.setCell ⟨F,3,none⟩ (.slice (some ⟨b3,0,none⟩) a cap) = W3 at fs2 ho2 hb2 hn2 ⊢;obtain ⟨g5,c5,rfl,hc5⟩:∃ g5 c5,v5 = .slice (some ⟨g5,0,none⟩) l.length c5∧l.length≤c5:=by
  rcases ho2.2 with ⟨_,h0⟩ | ⟨g',cap',cur,hv,_,_,hnc,_⟩
  ·omega
  ·exact ⟨g',cap',hv,hnc⟩
 have HV0:=zA0 (show KL W.heap.size B F b1 b2 b4 A c g { s with stack:=s.stack.take a } l (.slice (some ⟨b3,0,none⟩) a cap) vk (.slice (some ⟨g5,0,none⟩) l.length c5) W 0 W3 from ⟨by rw [b8U];exact fs2,ho2,hb2,hn2⟩);clear fs2 ho2 hb2 hn2 FS1 HCLONE HIDX HCS hcut htk;go_wp2;go_loopg [32,7] l.length (fun kq v32 v7 w' =>∃ (j:Nat),j + kq = l.length∧v32 = .int .i64 (j:Nat)∧Hid (KL W.heap.size B F b1 b2 b4 A c g { s with stack:=s.stack.take a } l (.slice (some ⟨b3,0,none⟩) a cap) vk (.slice (some ⟨g5,0,none⟩) l.length c5) W j w'))
 case atStart =>exact ⟨0,by omega,rfl,HV0⟩
 case round =>
  obtain ⟨j,hj,rfl,HV⟩:=hrel;have ck:=HV.out.fs.h.cf;by_cases hlt:j < l.length
  ·obtain ⟨mm,emm,hmn⟩:∃ mm:Nat,mm = l[j]∧mm < g.length:=⟨_,rfl,HLT.out _ (zD1 hlt)⟩;have hm:wr.cell? ⟨g5,j,none⟩ = some (.int .i64 (mm:Nat)):=by
    obtain ⟨A',c',e,hC⟩:=b3B (enc:=Value.int .i64) (d:=(0:Int)) HV.out.own;injection e with e1 _ _
    subst e1;obtain ⟨ad,e2,h2⟩:=Kd.a3B (Kd.a5D (d:=(0:Int)) hC) (j:Int) (zH0 j) (zW1.2 hlt);cases e2;rw [zK0,a3P,zZ1] at h2;rw [h2];unfold rd;rw [zK0,a5S _ _ hlt,emm]
   have cm:=HV.out.fs.h.cn hmn;have hmm0:(0:Int)≤(mm:Int):=zH0 mm;have hw:=pzK j qC0;have HMM:=zA0 emm;obtain ⟨k1,rfl⟩:∃ k1,gk = k1 + 1:=⟨gk - 1,by omega⟩;clear emm;go_wp2;have hv1:KL W.heap.size B F b1 b2 b4 A c g { s with stack:=s.stack.take a } l (.slice (some ⟨b3,0,none⟩) a cap) vk (.slice (some ⟨g5,0,none⟩) l.length c5) W (j + 1) (wr.setCell ⟨b4,mm,none⟩ (.bool false)):=by
    refine ⟨?_,a3N HV.out.own (fun k hk =>Below.heap_setCell _ _ _ _ (fun e =>by
      have h1:W.heap.size≤k:=a1O HV.out.own k hk;have h2:=HV.out.fs.lt.2.2.2;have h3:k = b4:=e
      omega)),HV.out.be.setCell (p:=⟨b4,mm,none⟩) HV.out.fs.h.b.2.2.2 _,(HV.out.be.setCell (p:=⟨b4,mm,none⟩) HV.out.fs.h.b.2.2.2 _).size⟩
    rw [b8V _ _ _ hlt,← HMM.out];exact HV.out.fs.setOn mm false
   have HV1:=zA0 hv1;clear hv1 ck cm hm;go_roundg k1
   case measure =>exact zS0 _
   case rel =>exact ⟨j + 1,by rw [zY0,zJ1 1];exact hj,by first | rw [hw] | simp [hw],HV1⟩
  ·have hje:j = l.length:=by omega
   subst hje;obtain ⟨s3,hs3⟩:∃ s3:St,s3 = { s with stack:=s.stack.take a,on:=offs s.on l l.length }:=⟨_,rfl⟩;have fs3:FSN W.heap.size B F b1 b2 b4 A c g s3 (.slice (some ⟨b3,0,none⟩) a cap) vk wr:=by rw [hs3];exact HV.out.fs
   have FS3:=zA0 fs3;have HS3:=zA0 hs3;have hsort:=b1L (toI l) (.slice (some ⟨g5,0,none⟩) l.length c5) W.heap.size wr (by rw [a1E];exact HV.out.own) qU1;rw [b1J,a1E] at hsort;have HSORT:=zA0 hsort;have hkn:(s3.knots.map toI).length≤1000:=by rw [hs3,zU1];exact HHK.out
   have HKN:=zA0 hkn;clear hkn hsort fs3 hs3 ck
   go_wp2_with (first
    | (go_at_call 47;(with_reducible refine HSORT.out.mono ?_;rintro x w5 ⟨rfl,hown,hg5⟩;have fs4:FSN W.heap.size B F b1 b2 b4 A c g s3 (.slice (some ⟨b3,0,none⟩) a cap) vk w5:=(FS3.out.step (fun k hk =>hg5.block k (zP1 hk HV.out.n) (fun e =>absurd (a1O hown k (show Value.ownBlock _ = some k from e.symm)) (zG1.2 hk))));have HOWN:=zA0 hown;have FS4:=zA0 fs4;have BE4:=zA0 (HV.out.be.grown hg5 (zF0 HB.out HV.out.n) (fun k hk =>zF0 HB.out (a1O hown k hk)));have ck:=fs4.h.cf;have HB5W:=zA0 (zF0 HB.out BE4.out.size);have HLK:=zA0 (show ((s3.knots.map toI).length + 1) * 24≤140737488355328 by have:=HKN.out;omega);have HOKP:=zA0 (okp_g5 fs4 hown);have HFRESH:=zA0 (b5V fs4);have HFK:=zA0 (own_FK hown (by rw [a1E];exact (a7F l)) hc5);clear fs4 hown hg5))
    | ((with_reducible refine a1U (b:=.append) (xs:=#[.tmp 49,.tmp 51]) rfl ?_);at_builtin;(refine Kd.b2H kL B rfl (.tmp 49) (.tmp 51) 39 43 (.slice none 0 0) 24 rfl Tryz.underlying39 infoL rfl qB0 qC0 vk (s3.knots.map toI) (toI (sortN l)) [.slice (some ⟨g5,0,none⟩) l.length c5] (fun k =>B≤k∧k≠F∧k≠b1∧k≠b2∧k≠b4∧some k≠(Value.slice (some ⟨b3,0,none⟩) a cap).ownBlock) (fun k =>k = g5) rfl rfl HFK.out HOKP.out HFRESH.out FS4.out.h.kn (zG0 B w5) HB5W.out HLK.out ?_;intro v52 w40 hn52 hb hg hat;obtain ⟨A9,c9,e9⟩:=Kd.a3U hn52;obtain ⟨nn,hnn⟩:∃ nn,nn = (s3.knots.map toI ++ [toI (sortN l)]).length:=⟨_,rfl⟩;rw [← hnn] at e9;subst e9;clear hnn;have HN52:=zA0 hn52;have HG:=zA0 hg;have bP:=zA0 hb;have hf40:=a1D FS4.out.h.f hg (Kd.N_ne FS4.out.h.kn FS4.out.h.f qB0);have hfz:=a0K hf40 6;have hfc:=a0I hf40 6;clear hn52 hb hg hat hf40 ck)))
   have hn52:=HN52.out;rw [show s3.knots.map toI ++ [toI (sortN l)] = (s3.knots ++ [sortN l]).map toI by simp] at hn52;obtain ⟨fs9,be9⟩:=FS4.out.h.setKnots hn52 HG.out bP.out;refine bodyPost_end (results_none rfl _ _ _) rfl ?_;refine ⟨rfl,⟨.slice (some ⟨b3,0,none⟩) a cap,.slice A9 nn c9,?_⟩,BE4.out.trans be9⟩;have e:knotF n s = { s3 with knots:=s3.knots ++ [sortN l] }:=by
    rw [HS3.out];unfold knotF;rw [offs_all,HHL.out,HHA.out]
   rw [e];exact fs9
attribute [local go_sem] Oper.semAt_some a5J a5I a6Y a6X
theorem imin' {a b m:Nat} (h:m = min a b):(if b < a then (b:Int) else (a:Int)) = (m:Int):=by
 split <;> omega
theorem pzS (n:Nat) (h:n≤1000):wrap64 ((n:Int) + 1) = ((n + 1:Nat):Int):=by simp only [wrap64];omega
theorem b5G {adj:Nat→List Nat} {N:Nat} {s:St} {G:List Nat} (h:tot s = s.next) (hc:cnt N s≤N):s.stack.length≤N:=by
 unfold tot at h;unfold cnt at hc;omega
theorem b9Y:∀ (L:List (List Nat)),(∀ l,l ∈ L→l≠[])→L.length≤L.flatten.length
 | [],_ =>zJ0 _
 | a :: r,h =>by
  have h1:=b9Y r (fun l hl =>h l (zP0 _ hl));have h2:=List.length_pos_iff.2 (h a zN0);simp only [List.flatten_cons,zO0,zR0];omega
theorem b5S {adj:Nat→List Nat} {N:Nat} {s:St} {G:List Nat} (hi:Inv adj N s G) (h:tot s = s.next) (hc:cnt N s≤N):s.knots.length≤N:=by
 have:=b9Y s.knots (fun l hl =>(hi.kcl l hl).1);unfold tot at h;unfold cnt at hc;omega
theorem rowA {W:World} {ok:Nat→Prop} {A:Option Addr} {n:Nat} {g:List (List Int)} (h:Kd.F kL W ok A n g) (i:Nat) (hi:i < n) :
  ∃ ad A0 c0,A = some ad∧W.cell? (ad.add i) = some (.slice A0 (g.getD i []).length c0)∧(g.getD i []).length≤c0∧Kd.F kI W ok A0 (g.getD i []).length (g.getD i []):=by
 obtain ⟨ad',c,e,hcl,hK,hcc,_⟩:=Kd.F_get h [] (i:Int) qC0 qC0;rw [zK0] at hK hcc;obtain ⟨A0,c0,rfl,hle,_⟩:=Kd.a6G hK;refine ⟨ad',A0,c0,e,by have hq:=hcc 0 _ rfl;simpa [Kd.slice] using hq,hle,fun W' hW =>?_⟩;obtain ⟨A1,c1,e1,_,hC⟩:=hK W' hW;injection e1 with e2 _
 injection e2 with e3 _ _
 rw [e3];exact hC
structure VL (B F b1 b2 b4:Nat) (A:Option Addr) (c:Nat) (g:List (List Int)) (k:Nat) (n:Nat) (s:St) (G:List Nat) (W0:World) (j:Nat) (t:St) (e:List Nat) (vs vk:Value) (W:World):Prop where
 is:t = ((adjF g n).take j).foldl (stepF (visitF (adjF g) k) n) (enterF n s)
 li:LInv (adjF g) g.length n s t G ((adjF g n).take j) e
 fs:FS B F b1 b2 b4 A c g t vs vk W
 be:Below B W0 W
 ct:cnt g.length t≤g.length
 tt:tot t = t.next
 bz:B≤W.heap.size
section
variable {B F b1 b2 b4:Nat} {A:Option Addr} {c:Nat} {g:List (List Int)} {k n:Nat} {s:St} {G:List Nat} {W0 W:World} {j:Nat} {t:St} {e:List Nat} {vs vk:Value}
theorem VL.pre (h:VL B F b1 b2 b4 A c g k n s G W0 j t e vs vk W) (hs:Inv (adjF g) g.length s G) (hn:n < g.length) (hw:whites g.length s≤k + 1) {m:Nat} (hm:m ∈ adjF g n):(∀ z,z ∈ n :: G→Tarj.Rch (adjF g) z m)∧whites g.length t≤k:=by
 refine ⟨fun z hz =>?_,?_⟩
 ·rcases zQ0.1 hz with rfl | hz
  ·exact .one hm
  ·refine Tarj.Rch.trans (h.li.inv.frG z (zP0 _ hz) n (by rw [h.li.ext];simp) ?_) (.one hm);rw [h.li.idn,(h.li.keep z (hs.svis z (h.li.gs z hz))).1];exact Nat.le_succ_of_le (hs.ile z)
 ·have:=b2O (t:=t) hn (fun x hx =>by rw [(h.li.keep x hx).1];exact hx) h.li.nw (by rw [h.li.idn];exact Nat.succ_ne_zero _);omega
theorem VL.next (h:VL B F b1 b2 b4 A c g k n s G W0 j t e vs vk W) (hgo:GOk g) (hs:Inv (adjF g) g.length s G) (hn:n < g.length) (hw:whites g.length s≤k + 1) {m:Nat} (hm:(adjF g n)[j]? = some m) {W1:World} {vs1 vk1:Value}
  (hfs:FS B F b1 b2 b4 A c g (stepF (visitF (adjF g) k) n t m) vs1 vk1 W1) (hb:Below B W W1):∃ e1,VL B F b1 b2 b4 A c g k n s G W0 (j + 1) (stepF (visitF (adjF g) k) n t m) e1 vs1 vk1 W1:=by
 obtain ⟨hj,hje⟩:=List.getElem?_eq_some_iff.1 hm;have hmem:m ∈ adjF g n:=hje ▸ zD1 hj;have htk:(adjF g n).take (j + 1) = (adjF g n).take j ++ [m]:=by rw [zB1 hj,hje]
 obtain ⟨p1,p2⟩:=h.pre hs hn hw hmem;obtain ⟨e1,he1⟩:=b7N (vis:=visitF (adjF g) k) h.li hmem (fun h0 =>b1H hgo.adj k t (n :: G) m h.li.inv h0 (hgo.adj n hn m hmem) p1 p2);have hct:cnt g.length (stepF (visitF (adjF g) k) n t m) = cnt g.length t∧(tot t = t.next→tot (stepF (visitF (adjF g) k) n t m) = (stepF (visitF (adjF g) k) n t m).next):=by
  unfold stepF
  split
  ·next h0 =>exact a8Y hgo.adj k m t (hgo.adj n hn m hmem) h0
  ·split <;> exact ⟨rfl,fun h =>h⟩
 exact ⟨e1,by rw [htk,List.foldl_append,← h.is];rfl,by rw [htk];exact he1,hfs,h.be.trans hb,by rw [hct.1];exact h.ct,hct.2 h.tt,zF0 h.bz hb.size⟩
end
theorem b7I (g:List (List Int)) (hgo:GOk g) (A:Option Addr) (c B F b1 b2 b4:Nat):∀ (k:Nat) (s:St) (G:List Nat) (n:Nat) (vs vk:Value) (W:World),
  FS B F b1 b2 b4 A c g s vs vk W→Inv (adjF g) g.length s G→cnt g.length s≤g.length→tot s = s.next→s.index n = 0→n < g.length→(∀ z,z ∈ G→Tarj.Rch (adjF g) z n)→whites g.length s≤k→B≤W.heap.size →
  Calls Tryz.prog 49 #[.pointer (some ⟨F,0,none⟩),.int .i64 (n:Nat)] W fun e W' =>e = .returned (.tuple #[])∧(∃ vs' vk',FS B F b1 b2 b4 A c g (visitF (adjF g) k n s) vs' vk' W')∧Below B W W':=by
 intro k
 induction k with
 | zero =>
  intro s G n vs vk W hfs hinv hc ht h0 hn hG hw hB;exfalso;have:whites g.length s = 0:=Nat.le_zero.1 hw;unfold whites at this;rw [List.countP_eq_zero] at this;exact this n (zX0.2 hn) (by simpa using h0)
 | succ k ih =>
  intro s G n vs vk W hfs hinv hc ht h0 hn hG hw hB;have hn0:(0:Int)≤(n:Int):=zH0 n;have hsn:s.next≤1000:=by have:=hgo.len;unfold cnt at hc;omega
  have hnx:wrap64 ((s.next:Int) + 1) = ((s.next + 1:Nat):Int):=by simp only [wrap64];omega
  have LST:=zA0 (show ((toI s.stack).length + 1) * 8≤140737488355328 by have:=b5G (adj:=adjF g) (G:=G) ht hc;have:=hgo.len;simp only [toI,zU1];omega);have IH:=zA0 ih;have GO:=zA0 hgo;have FS0:=zA0 hfs;have INV:=zA0 hinv;have HC:=zA0 hc;have HT:=zA0 ht;have H0:=zA0 h0;have HGR:=zA0 hG;have HW:=zA0 hw;have HBW:=zA0 hB;have ck:=hfs.cf;clear ih hgo hfs hinv hc ht h0 hG hw hB;go_enter Tryz.func49,Tryz.ntmps49
  go_upto_region 1 with (fail)
  have h1:FS B F b1 b2 b4 A c g { s with next:=s.next + 1 } vs vk (W.setCell ⟨F,5,none⟩ (.int .i64 ((s.next:Int) + 1))):=FS0.out.setNext (s.next + 1);have hb1:=(FS0.out.far F 5 (.inl rfl) (.int .i64 ((s.next:Int) + 1))).2.2.2;clear ck;generalize W.setCell ⟨F,5,none⟩ (.int .i64 ((s.next:Int) + 1)) = W1 at h1 hb1 ⊢;have HB1:=zA0 hb1;clear hb1;refine (wpIn_wide (n:=5)).1 ?_;refine wpIn_region_any mixedO ?_;refine a5Q _ (fun ix_ =>match ix_ with | 0 =>.pointer (some ⟨F,0,none⟩) | 1 =>.pointer (some ⟨F,0,none⟩) | 2 =>.pointer (some ⟨F,1,none⟩) | 3 =>.slice (some ⟨b1,0,none⟩) g.length g.length | 4 =>.int .i64 (n:Nat) | 5 =>.pointer (some ⟨F,0,none⟩) | 6 =>.pointer (some ⟨F,0,none⟩) | 7 =>.pointer (some ⟨F,2,none⟩) | 8 =>.slice (some ⟨b2,0,none⟩) g.length g.length | 9 =>.int .i64 (n:Nat) | 10 =>.pointer (some ⟨F,0,none⟩) | 11 =>.pointer (some ⟨F,0,none⟩) | 12 =>.pointer (some ⟨F,5,none⟩) | 13 =>.int .i64 ((s.next + 1:Nat):Int) | 14 =>.pointer (some ⟨F,0,none⟩) | 15 =>.pointer (some ⟨F,0,none⟩) | 16 =>.pointer (some ⟨F,5,none⟩) | 17 =>.int .i64 ((s.next + 1:Nat):Int) | 18 =>.pointer (some ⟨b1,n,none⟩) | 19 =>undef | 20 =>.pointer (some ⟨b2,n,none⟩) | 21 =>undef | _ =>undef) (fun done Z =>FS B F b1 b2 b4 A c g ({ s with next:=s.next + 1,index:=if done 19 = true then Tarj.upd s.index n (s.next + 1) else s.index,low:=if done 21 = true then Tarj.upd s.low n (s.next + 1) else s.low }) vs vk Z∧Below B W1 Z) rfl qF0 _ ?hzr1 ?str1 ?enr1
  case hzr1 =>exact ⟨h1.below (a1I (zG0 _ _)),a1I (zG0 _ _)⟩
  case str1 =>
   intro m op done a Z ho hdn hdep hag hS K2 hK2;have hm:m < 22:=by
    by_cases h:m < 22
    ·exact h
    ·rw [Array.getElem?_eq_none qV0] at ho;cases ho
   obtain ⟨⟨zf0,zf1,zf2,zf3,zf4,zf5,zf6⟩,zr3,zr5,zr6⟩:=hS.1.cf;obtain ⟨⟨zn1,zn2,zn4⟩,zg1,zg2,zg4⟩:=hS.1.cn hn;obtain rfl | rfl | rfl | rfl | rfl | rfl | rfl | rfl | rfl | rfl | rfl | rfl | rfl | rfl | rfl | rfl | rfl | rfl | rfl | rfl | rfl | rfl:m = 0∨m = 1∨m = 2∨m = 3∨m = 4∨m = 5∨m = 6∨m = 7∨m = 8∨m = 9∨m = 10∨m = 11∨m = 12∨m = 13∨m = 14∨m = 15∨m = 16∨m = 17∨m = 18∨m = 19∨m = 20∨m = 21:=by omega
   ·cases ho;have e0:a.eval (.tmp 0) = .pointer (some ⟨F,0,none⟩):=hag.keep 0 rfl;refine a0F (i:=0) rfl rfl (fun c h =>by cases h) rfl ?_ (hK2 Z hS);have ec:∀ v,a.eval (.const v) = v:=fun _ =>rfl
    generalize a.eval = ev at *;simp [execOp,go_sem,ec,e0]
   ·cases ho;have e13:=hag.val_ (j:=0) (t:=13) rfl (hdep ⟨0,.data⟩ qE0 rfl);refine a0F (i:=1) rfl rfl (fun c h =>by cases h) rfl ?_ (hK2 Z hS);have ec:∀ v,a.eval (.const v) = v:=fun _ =>rfl
    generalize a.eval = ev at *;simp [execOp,go_sem,ec,e13]
   ·cases ho;have e14:=hag.val_ (j:=1) (t:=14) rfl (hdep ⟨1,.data⟩ qE0 rfl);refine a0F (i:=2) rfl rfl (fun c h =>by cases h) rfl ?_ (hK2 Z hS);have ec:∀ v,a.eval (.const v) = v:=fun _ =>rfl
    generalize a.eval = ev at *;simp [execOp,go_sem,ec,e14]
   ·cases ho;have e15:=hag.val_ (j:=2) (t:=15) rfl (hdep ⟨2,.data⟩ qE0 rfl);refine a0F (i:=3) rfl rfl (fun c h =>by cases h) rfl ?_ (hK2 Z hS);have ec:∀ v,a.eval (.const v) = v:=fun _ =>rfl
    generalize a.eval = ev at *;simp [execOp,go_sem,ec,e15,zf1]
   ·cases ho;have e1:a.eval (.tmp 1) = .int .i64 (n:Nat):=hag.keep 1 rfl;refine a0F (i:=4) rfl rfl (fun c h =>by cases h) rfl ?_ (hK2 Z hS);have ec:∀ v,a.eval (.const v) = v:=fun _ =>rfl
    generalize a.eval = ev at *;simp [execOp,go_sem,ec,e1]
   ·cases ho;have e0:a.eval (.tmp 0) = .pointer (some ⟨F,0,none⟩):=hag.keep 0 rfl;refine a0F (i:=5) rfl rfl (fun c h =>by cases h) rfl ?_ (hK2 Z hS);have ec:∀ v,a.eval (.const v) = v:=fun _ =>rfl
    generalize a.eval = ev at *;simp [execOp,go_sem,ec,e0]
   ·cases ho;have e18:=hag.val_ (j:=5) (t:=18) rfl (hdep ⟨5,.data⟩ qE0 rfl);refine a0F (i:=6) rfl rfl (fun c h =>by cases h) rfl ?_ (hK2 Z hS);have ec:∀ v,a.eval (.const v) = v:=fun _ =>rfl
    generalize a.eval = ev at *;simp [execOp,go_sem,ec,e18]
   ·cases ho;have e19:=hag.val_ (j:=6) (t:=19) rfl (hdep ⟨6,.data⟩ qE0 rfl);refine a0F (i:=7) rfl rfl (fun c h =>by cases h) rfl ?_ (hK2 Z hS);have ec:∀ v,a.eval (.const v) = v:=fun _ =>rfl
    generalize a.eval = ev at *;simp [execOp,go_sem,ec,e19]
   ·cases ho;have e20:=hag.val_ (j:=7) (t:=20) rfl (hdep ⟨7,.data⟩ qE0 rfl);refine a0F (i:=8) rfl rfl (fun c h =>by cases h) rfl ?_ (hK2 Z hS);have ec:∀ v,a.eval (.const v) = v:=fun _ =>rfl
    generalize a.eval = ev at *;simp [execOp,go_sem,ec,e20,zf2]
   ·cases ho;have e1:a.eval (.tmp 1) = .int .i64 (n:Nat):=hag.keep 1 rfl;refine a0F (i:=9) rfl rfl (fun c h =>by cases h) rfl ?_ (hK2 Z hS);have ec:∀ v,a.eval (.const v) = v:=fun _ =>rfl
    generalize a.eval = ev at *;simp [execOp,go_sem,ec,e1]
   ·cases ho;have e0:a.eval (.tmp 0) = .pointer (some ⟨F,0,none⟩):=hag.keep 0 rfl;refine a0F (i:=10) rfl rfl (fun c h =>by cases h) rfl ?_ (hK2 Z hS);have ec:∀ v,a.eval (.const v) = v:=fun _ =>rfl
    generalize a.eval = ev at *;simp [execOp,go_sem,ec,e0]
   ·cases ho;have e23:=hag.val_ (j:=10) (t:=23) rfl (hdep ⟨10,.data⟩ qE0 rfl);refine a0F (i:=11) rfl rfl (fun c h =>by cases h) rfl ?_ (hK2 Z hS);have ec:∀ v,a.eval (.const v) = v:=fun _ =>rfl
    generalize a.eval = ev at *;simp [execOp,go_sem,ec,e23]
   ·cases ho;have e24:=hag.val_ (j:=11) (t:=24) rfl (hdep ⟨11,.data⟩ qE0 rfl);refine a0F (i:=12) rfl rfl (fun c h =>by cases h) rfl ?_ (hK2 Z hS);have ec:∀ v,a.eval (.const v) = v:=fun _ =>rfl
    generalize a.eval = ev at *;simp [execOp,go_sem,ec,e24]
   ·cases ho;have e25:=hag.val_ (j:=12) (t:=25) rfl (hdep ⟨12,.data⟩ qE0 rfl);refine a0F (i:=13) rfl rfl (fun c h =>by cases h) rfl ?_ (hK2 Z hS);have ec:∀ v,a.eval (.const v) = v:=fun _ =>rfl
    generalize a.eval = ev at *;simp [execOp,go_sem,ec,e25,zf5]
   ·cases ho;have e0:a.eval (.tmp 0) = .pointer (some ⟨F,0,none⟩):=hag.keep 0 rfl;refine a0F (i:=14) rfl rfl (fun c h =>by cases h) rfl ?_ (hK2 Z hS);have ec:∀ v,a.eval (.const v) = v:=fun _ =>rfl
    generalize a.eval = ev at *;simp [execOp,go_sem,ec,e0]
   ·cases ho;have e27:=hag.val_ (j:=14) (t:=27) rfl (hdep ⟨14,.data⟩ qE0 rfl);refine a0F (i:=15) rfl rfl (fun c h =>by cases h) rfl ?_ (hK2 Z hS);have ec:∀ v,a.eval (.const v) = v:=fun _ =>rfl
    generalize a.eval = ev at *;simp [execOp,go_sem,ec,e27]
   ·cases ho;have e28:=hag.val_ (j:=15) (t:=28) rfl (hdep ⟨15,.data⟩ qE0 rfl);refine a0F (i:=16) rfl rfl (fun c h =>by cases h) rfl ?_ (hK2 Z hS);have ec:∀ v,a.eval (.const v) = v:=fun _ =>rfl
    generalize a.eval = ev at *;simp [execOp,go_sem,ec,e28]
   ·cases ho;have e29:=hag.val_ (j:=16) (t:=29) rfl (hdep ⟨16,.data⟩ qE0 rfl);refine a0F (i:=17) rfl rfl (fun c h =>by cases h) rfl ?_ (hK2 Z hS);have ec:∀ v,a.eval (.const v) = v:=fun _ =>rfl
    generalize a.eval = ev at *;simp [execOp,go_sem,ec,e29,zf5]
   ·cases ho;have e16:=hag.val_ (j:=3) (t:=16) rfl (hdep ⟨3,.data⟩ qE0 rfl);have e17:=hag.val_ (j:=4) (t:=17) rfl (hdep ⟨4,.data⟩ qE0 rfl);refine a0F (i:=18) rfl rfl (fun c h =>by cases h) ?_ ?_ (hK2 Z hS)
    ·generalize a.eval = ev at *;simp [Oper.about,resolve,Target.leads,Sem.run_pure,go_sem,e16,e17,hn,hn0]
    ·have ec:∀ v,a.eval (.const v) = v:=fun _ =>rfl
     generalize a.eval = ev at *;simp [execOp,go_sem,ec,e16,e17,hn,hn0]
   ·cases ho;have e31:=hag.val_ (j:=18) (t:=31) rfl (hdep ⟨18,.data⟩ qE0 rfl);have e26:=hag.val_ (j:=13) (t:=26) rfl (hdep ⟨13,.data⟩ qE0 rfl);refine a1Z (i:=19) rfl rfl (fun c h =>by cases h) rfl (w':=Z.setCell ⟨b1,n,none⟩ (.int .i64 ((s.next + 1:Nat):Int))) ?_ (hK2 _ (⟨by simpa [Man.upd,hdn] using hS.1.setIndex n (s.next + 1),hS.2.trans (hS.1.far b1 n (.inr (.inl rfl)) _).2.2.2⟩));have ec:∀ v,a.eval (.const v) = v:=fun _ =>rfl
    generalize a.eval = ev at *;simp [execOp,go_sem,ec,e31,e26,zn1,zg1]
   ·cases ho;have e21:=hag.val_ (j:=8) (t:=21) rfl (hdep ⟨8,.data⟩ qE0 rfl);have e22:=hag.val_ (j:=9) (t:=22) rfl (hdep ⟨9,.data⟩ qE0 rfl);refine a0F (i:=20) rfl rfl (fun c h =>by cases h) ?_ ?_ (hK2 Z hS)
    ·generalize a.eval = ev at *;simp [Oper.about,resolve,Target.leads,Sem.run_pure,go_sem,e21,e22,hn,hn0]
    ·have ec:∀ v,a.eval (.const v) = v:=fun _ =>rfl
     generalize a.eval = ev at *;simp [execOp,go_sem,ec,e21,e22,hn,hn0]
   ·cases ho;have e32:=hag.val_ (j:=20) (t:=32) rfl (hdep ⟨20,.data⟩ qE0 rfl);have e30:=hag.val_ (j:=17) (t:=30) rfl (hdep ⟨17,.data⟩ qE0 rfl);refine a1Z (i:=21) rfl rfl (fun c h =>by cases h) rfl (w':=Z.setCell ⟨b2,n,none⟩ (.int .i64 ((s.next + 1:Nat):Int))) ?_ (hK2 _ (⟨by simpa [Man.upd,hdn] using hS.1.setLow n (s.next + 1),hS.2.trans (hS.1.far b2 n (.inr (.inr (.inl rfl))) _).2.2.2⟩));have ec:∀ v,a.eval (.const v) = v:=fun _ =>rfl
    generalize a.eval = ev at *;simp [execOp,go_sem,ec,e32,e30,zn2,zg2]
  case enr1 =>
   intro Z1 done hdn hS;simp only [putTmps,dstOf,zQ1,zR0,zI1,Nat.reduceAdd,zS1,zF1,zL1,zU0,zL0,zV0,zW0];obtain ⟨fs1,be1⟩:=hS;simp only [hdn 19 qB0,hdn 21 qB0,if_true] at fs1;have FS1:=zA0 fs1;have BE1:=zA0 (HB1.out.trans be1);have HBZ:=zA0 (show B≤Z1.heap.size from zF0 HBW.out BE1.out.size);have ST1:=zA0 fs1.st;have FR1:=zA0 (show ∀ q,Z1.heap.size≤q→q≠b1∧q≠b2 from fun q hq =>⟨fun x =>absurd (a0X fs1.x) (zD3.2 (x ▸ hq)),fun x =>absurd (a0X fs1.l) (zD3.2 (x ▸ hq))⟩);have ck:=fs1.cf;clear fs1 be1 hdn h1
   go_upto_region 3 with (first
    | ((with_reducible refine a1U (b:=.append) (xs:=#[.tmp 37,.tmp 39]) rfl ?_);at_builtin;refine Kd.a3Z kI B rfl (.tmp 37) (.tmp 39) 43 3 (.int .i64 0) 8 rfl Tryz.underlying43 b1X rfl qB0 qC0 vs (toI s.stack) (n:Int) [.int .i64 (n:Nat)] (fun k =>k≠b1∧k≠b2) (fun _ =>False) rfl rfl ?mk (fun _ h =>h.elim) FR1.out ST1.out (zG0 B Z1) HBZ.out LST.out ?_;(case mk =>rfl);intro v40 w40 ho hb hg hat;obtain ⟨A9,c9,e9,_,_⟩:=Kd.a2R ho;obtain ⟨nn,hnn⟩:∃ nn,nn = (toI s.stack ++ [(n:Int)]).length:=⟨_,rfl⟩;rw [← hnn] at e9;subst e9;clear hnn;have HO:=zA0 ho;have HG:=zA0 hg;have HAT:=zA0 hat;have bP:=zA0 hb;have hf40:=a1D FS1.out.f hg FS1.out.nsF;have hfz:=a0K hf40 3;have hfc:=a0I hf40 3;clear ho hb hg hat hf40 ck))
   have ho2:kI.R 3 w40 B (fun q =>q≠b1∧q≠b2) (.slice A9 nn c9) (toI (s.stack ++ [n])):=by have:=HO.out;simpa [toI] using this
   obtain ⟨fs2,be2⟩:=FS1.out.setStack ho2 HG.out HAT.out bP.out;clear hfz hfc ho2;generalize w40.setCell ⟨F,3,none⟩ (.slice A9 nn c9) = W3 at fs2 be2 ⊢;have FS2:=zA0 fs2;have BE2:=zA0 (BE1.out.trans be2);have ck:=fs2.cf;have cn:=fs2.cn hn;clear fs2 be2 HO HG HAT bP ST1 FR1 FS1 LST;go_upto_region 4 with (fail)
   have fs3:FS B F b1 b2 b4 A c g (enterF n s) (.slice A9 nn c9) vk (W3.setCell ⟨b4,n,none⟩ (.bool true)):=FS2.out.setOn n true;have be3:=(FS2.out.far b4 n (.inr (.inr (.inr rfl))) (.bool true)).2.2.2;clear ck cn;generalize W3.setCell ⟨b4,n,none⟩ (.bool true) = W4 at fs3 be3 ⊢;obtain ⟨ad,A0,c0,eA,hrow,hle,hF0⟩:=rowA fs3.gF n hn;subst eA;obtain ⟨row,hrw⟩:∃ r,r = g.getD n []:=⟨_,rfl⟩;rw [← hrw] at hrow hle hF0;have FS3:=zA0 fs3;have BE3:=zA0 (BE2.out.trans be3);have FR:=zA0 hF0;have RW:=zA0 hrw;have hrl:row.length≤1000:=by rw [hrw];exact GO.out.row n
   have ck:=fs3.cf
   have HV0:=zA0 (show VL B F b1 b2 b4 (some ad) c g k n s G W 0 (enterF n s) [] (.slice A9 nn c9) vk W4 from ⟨rfl,by simpa using b5Z INV.out H0.out hn HGR.out,FS3.out,BE3.out,by
    have:=a7Y hn H0.out;have h2:=HC.out;unfold cnt at h2 ⊢;show s.next + 1 + _≤_;omega,by
    have:=HT.out;simp only [tot,enterF,zO0,zR0,zI1] at this ⊢
    omega,zF0 HBW.out BE3.out.size⟩)
   clear hF0 hrw fs3 be3;go_wp2;clear ck hrow;go_loopg [57,5] row.length (fun kq v57 v5 w' =>∃ (j:Nat) (t:St) (e:List Nat) (vs' vk':Value),j + kq = row.length∧v57 = .int .i64 (j:Nat)∧Hid (VL B F b1 b2 b4 (some ad) c g k n s G W j t e vs' vk' w'))
   case atStart =>exact ⟨0,_,_,_,_,by omega,rfl,HV0⟩
   case round =>
    obtain ⟨j,t,e,vs2,vk2,hj,rfl,HV⟩:=hrel;have FW:=zA0 (Kd.a4L (W1:=wr) FR.out (fun q hq _ =>(HV.out.be.block q hq).trans (BE3.out.block q hq).symm));have ck:=HV.out.fs.cf;have cn:=HV.out.fs.cn hn;by_cases hlt:j < row.length
    ·obtain ⟨ad0,eA0,hm⟩:=Kd.a3B (Kd.a4M FW.out) (j:Int) (zH0 j) (zW1.2 hlt);subst eA0;rw [zK0] at hm;obtain ⟨mm,emm,hmn,hmj⟩:∃ mm:Nat,rd row (j:Int) = (mm:Int)∧mm < g.length∧(adjF g n)[j]? = some mm:=by
      have RW':=RW.out;have hlt':j < (g.getD n []).length:=by rw [← RW'];exact hlt
      obtain ⟨m0,m1⟩:=GO.out.ent n hn _ (zD1 hlt');refine ⟨((g.getD n [])[j]).toNat,?_,by omega,by unfold adjF;rw [List.getElem?_map,zD0 hlt'];rfl⟩;unfold rd;rw [RW',zK0,zE0 (l:=g.getD n []),zD0 hlt',zL2];omega
     rw [emm] at hm;clear emm;have HMJ:=zA0 hmj;have hmm0:(0:Int)≤(mm:Int):=zH0 mm;have cm:=HV.out.fs.cn hmn;have hw:=pzS j (zF0 (zD2 hlt) hrl);obtain ⟨k1,rfl⟩:∃ k1,gk = k1 + 1:=⟨gk - 1,by omega⟩;have hmem:mm ∈ adjF g n:=by obtain ⟨a,b⟩:=List.getElem?_eq_some_iff.1 hmj;exact b ▸ zD1 a
     clear hmj;by_cases hi0:t.index mm = 0
     ·have hib:((t.index mm:Int) == 0) = true:=by rw [hi0];rfl
      obtain ⟨p1,p2⟩:=HV.out.pre INV.out hn HW.out hmem;have hcall:=IH.out t (n :: G) mm vs2 vk2 wr HV.out.fs HV.out.li.inv HV.out.ct HV.out.tt hi0 hmn p1 p2 HV.out.bz;obtain ⟨t2,ht2⟩:∃ t2,t2 = visitF (adjF g) k mm t:=⟨_,rfl⟩;rw [← ht2] at hcall;have HCALL:=zA0 hcall;have HI0:=zA0 hi0;have HT2:=zA0 ht2;clear hcall p1 p2 ht2 hi0 hmem
      go_upto_region 9 with (first
       | (go_at_call 49;with_reducible refine HCALL.out.mono ?_;rintro x w2 ⟨rfl,⟨vs3,vk3,hfs3⟩,hbe3⟩;clear ck cn cm;have FS4:=zA0 hfs3;have BE4:=zA0 hbe3;have ck:=hfs3.cf;have cn:=hfs3.cn hn;have cm:=hfs3.cn hmn;clear hfs3 hbe3))
      obtain ⟨mv,hmv⟩:∃ mv,mv = min (t2.low n) (t2.low mm):=⟨_,rfl⟩;have hmin:=imin' hmv;have HMV:=zA0 hmv;clear hmv
      go_still_tail 21,mixedO
      change wpList _ _ _ _ _ (World.drew w2);have fs5:=FS4.out.below (a1I (zG0 w2.heap.size w2));have be5:=BE4.out.trans (a1I (zG0 B w2));clear ck cn cm;generalize World.drew w2 = w5 at fs5 be5 ⊢;have ck:=fs5.cf;have cn:=fs5.cn hn;have FS5:=zA0 fs5;have BE5:=zA0 be5;clear fs5 be5;go_wp2;have fs6:FS B F b1 b2 b4 (some ad) c g (stepF (visitF (adjF g) k) n t mm) vs3 vk3 (w5.setCell ⟨b2,n,none⟩ (.int .i64 (mv:Nat))):=by
       unfold stepF;rw [if_pos HI0.out,← HT2.out,← HMV.out];exact FS5.out.setLow n _
      obtain ⟨e1,hv1⟩:=HV.out.next GO.out INV.out hn HW.out HMJ.out fs6 (BE5.out.trans (FS5.out.far b2 n (.inr (.inr (.inl rfl))) _).2.2.2);have HV1:=zA0 hv1;clear hv1 fs6 hmin ck cn;go_roundg k1
      case measure =>exact zS0 _
      case rel =>exact ⟨j + 1,_,e1,_,_,by rw [zY0,zJ1 1];exact hj,by first | rw [hw] | simp [hw],HV1⟩
     ·have hib:((t.index mm:Int) == 0) = false:=by simpa using hi0
      have HI0:=zA0 hi0;clear hi0 hmem;by_cases hon:t.on mm = true
      ·have HON:=zA0 hon;rw [hon] at cm;clear hon;go_upto_region 11 with (fail)
       obtain ⟨mv,hmv⟩:∃ mv,mv = min (t.low n) (t.index mm):=⟨_,rfl⟩;have hmin:=imin' hmv;have HMV:=zA0 hmv;clear hmv
       go_still_tail 21,mixedO
       change wpList _ _ _ _ _ (World.drew wr);have fs5:=HV.out.fs.below (a1I (zG0 wr.heap.size wr));have be5:=a1I (zG0 B wr);clear ck cn cm hm;generalize World.drew wr = w5 at fs5 be5 ⊢;have ck:=fs5.cf;have cn:=fs5.cn hn;have FS5:=zA0 fs5;have BE5:=zA0 be5;clear fs5 be5;go_wp2;have fs6:FS B F b1 b2 b4 (some ad) c g (stepF (visitF (adjF g) k) n t mm) vs2 vk2 (w5.setCell ⟨b2,n,none⟩ (.int .i64 (mv:Nat))):=by
        unfold stepF;rw [if_neg HI0.out,if_pos HON.out,← HMV.out];exact FS5.out.setLow n _
       obtain ⟨e1,hv1⟩:=HV.out.next GO.out INV.out hn HW.out HMJ.out fs6 (BE5.out.trans (FS5.out.far b2 n (.inr (.inr (.inl rfl))) _).2.2.2);have HV1:=zA0 hv1;clear hv1 fs6 hmin ck cn;go_roundg k1
       case measure =>exact zS0 _
       case rel =>exact ⟨j + 1,_,e1,_,_,by rw [zY0,zJ1 1];exact hj,by first | rw [hw] | simp [hw],HV1⟩
      ·have HON:=zA0 hon;have honf:t.on mm = false:=by simpa using hon
       rw [honf] at cm;clear hon honf;go_wp2;have fs6:FS B F b1 b2 b4 (some ad) c g (stepF (visitF (adjF g) k) n t mm) vs2 vk2 wr:=by
        unfold stepF;rw [if_neg HI0.out,if_neg HON.out];exact HV.out.fs
       obtain ⟨e1,hv1⟩:=HV.out.next GO.out INV.out hn HW.out HMJ.out fs6 (zG0 B wr);have HV1:=zA0 hv1;clear hv1 fs6 ck cn cm hm;go_roundg k1
       case measure =>exact zS0 _
       case rel =>exact ⟨j + 1,_,e1,_,_,by rw [zY0,zJ1 1];exact hj,by first | rw [hw] | simp [hw],HV1⟩
    ·have hje:j = row.length:=by omega
     have hlen:(adjF g n).length = row.length:=by rw [RW.out];simp [adjF]
     have hli:LInv (adjF g) g.length n s t G (adjF g n) e:=by have:=HV.out.li;rwa [hje,← hlen,zN1] at this
     have hst:n ∈ t.stack:=by rw [hli.ext];simp
     have hvs:visitF (adjF g) (k + 1) n s = leaveF n t:=by
      show leaveF n ((adjF g n).foldl (stepF (visitF (adjF g) k) n) (enterF n s)) = _;rw [HV.out.is,hje,← hlen,zN1]
     have HVS:=zA0 hvs;have HST:=zA0 hst;clear hli hvs hst hlen hje;by_cases hl:t.low n = t.index n
     ·have hlb:((t.low n:Int) == (t.index n:Int)) = true:=by rw [hl];simp
      have HLF:=zA0 (show leaveF n t = knotF n t by unfold leaveF;rw [if_pos hl]);clear hl;go_upto_region 13 with (fail)
      go_quiet (fail)
      have fs5:=HV.out.fs.below (a0C (zG0 wr.heap.size wr) nq);have be5:=a0C (zG0 B wr) nq;have FS5:=zA0 fs5;have BE5:=zA0 be5;clear ck cn fs5 be5;have hkc:=knot_any g (some ad) c B F b1 b2 b4 t n vs2 vk2 (wr.drewN nq) FS5.out HST.out (fun x hx =>HV.out.li.inv.vlt x (HV.out.li.inv.svis x hx)) (by have:=b5G (adj:=adjF g) (G:=G) HV.out.tt HV.out.ct;have:=GO.out.len;omega) (by have:=b5S HV.out.li.inv HV.out.tt HV.out.ct;have:=GO.out.len;omega) (zF0 HV.out.bz BE5.out.size);rw [← HLF.out,← HVS.out] at hkc;have HKC:=zA0 hkc;clear hkc
      go_wp2_with (first
       | (go_at_call 75;with_reducible refine HKC.out.mono ?_;rintro x w6 ⟨rfl,hfin,hbe6⟩;have HFIN:=zA0 hfin;have BE6:=zA0 hbe6;clear hfin hbe6))
      refine bodyPost_end (results_none rfl _ _ _) rfl ?_;exact ⟨rfl,HFIN.out,(HV.out.be.trans BE5.out).trans BE6.out⟩
     ·have hlb:((t.low n:Int) == (t.index n:Int)) = false:=by simpa using (fun h =>hl qC0)
      have HLF:=zA0 (show leaveF n t = t by unfold leaveF;rw [if_neg hl]);clear hl;go_upto_region 13 with (fail)
      go_quiet (fail)
      have fs5:=HV.out.fs.below (a0C (zG0 wr.heap.size wr) nq);have be5:=a0C (zG0 B wr) nq;have FS5:=zA0 fs5;have BE5:=zA0 be5;clear ck cn fs5 be5;go_wp2;refine bodyPost_end (results_none rfl _ _ _) rfl ?_;exact ⟨rfl,⟨vs2,vk2,by rw [HVS.out,HLF.out];exact FS5.out⟩,HV.out.be.trans BE5.out⟩
def vals (N:Nat) (f:Nat→Value):Array Value:=((List.range N).map f).toArray
theorem b5E (N:Nat) (f:Nat→Value) (n:Nat) (v:Value):(vals N f).setIfInBounds n v = vals N (Tarj.upd f n v):=by
 unfold vals;rw [zL0,a9K]
theorem a6I {N n:Nat} (f:Nat→Value) (h:n < N):(vals N f)[n]? = some (f n):=by simp [vals,h]
structure FD (B bo M:Nat) (v:Nat→Value) (r:Nat→List Nat) (W:World):Prop where
 o:W.heap[bo]? = some (.cells (vals M v) 43 (0,0))
 r:∀ i,i < M→kI.R 3 W B (fun k =>k≠bo) (v i) (toI (r i))
 d:∀ i j,i < M→j < M→i≠j→∀ k,(v i).ownBlock = some k→(v j).ownBlock≠some k
 b:B≤bo
section
variable {B bo M:Nat} {v:Nat→Value} {r:Nat→List Nat} {W W1:World}
theorem FD.below (h:FD B bo M v r W) (hb:Below W.heap.size W W1):FD B bo M v r W1 :=
 ⟨a0P h.o hb,fun i hi =>Kd.a5M (h.r i hi) hb,h.d,h.b⟩
theorem FD.lt (h:FD B bo M v r W) {i:Nat} (hi:i < M):∀ k,(v i).ownBlock = some k→B≤k∧k < W.heap.size:=fun k hk =>by
 have ho:=Kd.a2C (h.r i hi);obtain ⟨cells,hc⟩:=a1S ho k hk;exact ⟨a1O ho k hk,a0X hc⟩
theorem FD.ne (h:FD B bo M v r W) {i:Nat} (hi:i < M):some bo≠(v i).ownBlock:=fun e =>(h.r i hi).1 bo e.symm rfl
theorem FD.put (h:FD B bo M v r W) {i:Nat} (hi:i < M) {v1:Value} {xs:List Nat} (hr:kI.R 3 W1 B (fun k =>k≠bo) v1 (toI xs)) (hg:W.grownBy W1 (v i).ownBlock) (hat:v1.ownBlock = (v i).ownBlock∨∃ b,v1.ownBlock = some b∧W.heap.size≤b) :
  FD B bo M (Tarj.upd v i v1) (Tarj.upd r i xs) (W1.setCell ⟨bo,i,none⟩ v1):=by
 have ho:=a1D h.o hg (h.ne hi);refine ⟨a2A ho i _ (b5E _ _ _ _),fun j hj =>?_,fun a b ha hb hne k hk =>?_,h.b⟩
 ·by_cases e:j = i
  ·subst e;simp only [Tarj.upd,if_true];exact Kd.b2F (p:=⟨bo,j,none⟩) hr (fun k hk =>hk) _
  ·simp only [Tarj.upd,if_neg e];refine Kd.b2F (p:=⟨bo,i,none⟩) ?_ (fun k hk =>hk) _;refine Kd.a3C (Kd.c0S (Kd.a5C (ok:=fun k =>some k = (v j).ownBlock) rfl (h.r j hj) (fun k hk =>hk.symm)) hg (fun k hk e2 =>h.d j i hj hi e k hk.symm e2.symm)) (fun k hk =>(h.r j hj).1 k hk.symm)
 ·simp only [Tarj.upd] at hk ⊢
  split at hk
  ·next ea =>
   subst ea;rw [if_neg (fun e =>hne e.symm)];rcases hat with hat | ⟨q,hq,hle⟩
   ·rw [hat] at hk;exact h.d a b ha hb hne k hk
   ·rw [hq] at hk;intro e;have:=(h.lt hb k e).2;injection hk with hk
    omega
  ·next ea =>
   by_cases eb:b = i
   ·subst eb;rw [if_pos rfl];rcases hat with hat | ⟨q,hq,hle⟩
    ·rw [hat];exact h.d a b ha hb hne k hk
    ·rw [hq];intro e;have:=(h.lt ha k hk).2;injection e with e
     omega
   ·rw [if_neg eb];exact h.d a b ha hb hne k hk
theorem FD.b2Y (h:FD B bo M v r W) {i:Nat} (hi:i < M) (v1:Value) (hg:W.grownBy W1 (v i).ownBlock) (hbb:Below B W W1):Below B W (W1.setCell ⟨bo,i,none⟩ v1):=hbb.setCell (p:=⟨bo,i,none⟩) h.b _
theorem FD.reads (h:FD B bo M v r W) (hM:M≤1000):kL.C W (some ⟨bo,0,none⟩) M ((List.range M).map fun i =>toI (r i)):=by
 refine ⟨by simp,by omega,fun hp =>⟨⟨bo,0,none⟩,rfl,fun j x hx =>?_⟩⟩;obtain ⟨hj,rfl⟩:=List.getElem?_eq_some_iff.1 hx;have hj':j < M:=by simpa using hj
 obtain ⟨A,c,e,hl,hC⟩:=Kd.a2R (h.r j hj');simp only [List.getElem_map,List.getElem_range];refine ⟨[v j],rfl,⟨A,c,by rw [e],hl,hC⟩,fun i u hu =>?_⟩
 match i,hu with
 | 0,hu =>
  simp only [zF1,Option.some.injEq] at hu;subst hu;rw [a3P];have:0 + (j * kL.sz + 0) = j:=by show 0 + (j * 1 + 0) = j;omega
  rw [this];exact (a0I h.o j).trans (a6I _ hj')
theorem FD.cell (h:FD B bo M v r W) {i:Nat} (hi:i < M):W.cell? ⟨bo,i,none⟩ = some (v i)∧W.frozen? ⟨bo,i,none⟩ = false:=⟨(a0I h.o i).trans (a6I _ hi),a0K h.o i⟩
theorem FD.made (hB:B≤W.heap.size):FD B W.heap.size M (fun _ =>.slice none 0 0) (fun _ =>[]) (W.alloc (.cells (vals M (fun _ =>.slice none 0 0)) 43)) :=
 ⟨World.alloc_heap_new W _,fun i _ =>Kd.b0E _ _ _ _ _,fun i j _ _ _ k hk =>by simp [Value.ownBlock] at hk,hB⟩
end
structure RS (B R bl K:Nat) (lw:Nat→Nat) (v:Value) (l:List Nat) (W:World):Prop where
 r:W.heap[R]? = some (.cells #[v,.slice (some ⟨bl,0,none⟩) K K] 88 (0,0))
 lo:W.heap[bl]? = some (.cells (ints K lw) 3 (0,0))
 st:kI.R 3 W B (fun _ =>True) v (toI l)
 mem:∀ x,x ∈ l→x < K
 b:B≤R
 bl:bl < B
 len:l.length≤1000
structure Ht (B R:Nat) (W:World) (v:Value) (W':World) (v':Value):Prop where
 be:Below B W W'
 bk:∀ k,k < W.heap.size→k≠R→some k≠v.ownBlock→W'.heap[k]? = W.heap[k]?
 at_:v'.ownBlock = v.ownBlock∨∃ b,v'.ownBlock = some b∧W.heap.size≤b
section
variable {B R bl K:Nat} {lw:Nat→Nat} {v v1 v2:Value} {l:List Nat} {W W1 W2:World}
theorem Ht.refl (B R:Nat) (W:World) (v:Value):Ht B R W v W v:=⟨zG0 _ _,fun _ _ _ _ =>rfl,.inl rfl⟩
theorem Ht.trans (h:Ht B R W v W1 v1) (k:Ht B R W1 v1 W2 v2):Ht B R W v W2 v2:=by
 refine ⟨h.be.trans k.be,fun i hi hR hv =>(k.bk i (zP1 hi h.be.size) hR (fun e =>?_)).trans (h.bk i hi hR hv),?_⟩
 ·rcases h.at_ with a | ⟨b,a,hb⟩
  ·rw [a] at e;exact hv e
  ·rw [a] at e;injection e with e;omega
 ·rcases k.at_ with a | ⟨b,a,hb⟩
  ·rw [a];exact h.at_
  ·exact .inr ⟨b,a,zF0 h.be.size hb⟩
theorem Ht.drew (h:Ht B R W v W1 v1) (n:Nat):Ht B R W v (W1.drewN n) v1:=h.trans ⟨a0C (zG0 _ _) n,fun _ _ _ _ =>rfl,.inl rfl⟩
theorem RS.below (h:RS B R bl K lw v l W) (hb:Below W.heap.size W W1):RS B R bl K lw v l W1 :=
 ⟨a0P h.r hb,a0P h.lo hb,Kd.a5M h.st hb,h.mem,h.b,h.bl,h.len⟩
theorem RS.drew (h:RS B R bl K lw v l W) (n:Nat):RS B R bl K lw v l (W.drewN n):=h.below (a0C (zG0 _ _) n)
theorem RS.nR (h:RS B R bl K lw v l W):some R≠v.ownBlock:=Kd.R_ne h.st h.r qB0
theorem RS.nl (h:RS B R bl K lw v l W):some bl≠v.ownBlock:=fun e =>by
 have:=a1O (Kd.a2C h.st) bl e.symm;have:=h.bl;omega
theorem RS.cf (h:RS B R bl K lw v l W):W.cell? ⟨R,0,none⟩ = some v∧W.cell? ⟨R,1,none⟩ = some (.slice (some ⟨bl,0,none⟩) K K)∧W.frozen? ⟨R,0,none⟩ = false :=
 ⟨(a0I h.r 0).trans rfl,(a0I h.r 1).trans rfl,a0K h.r 0⟩
theorem RS.lwc (h:RS B R bl K lw v l W) {x:Nat} (hx:x < K):W.cell? ⟨bl,x,none⟩ = some (.int .i64 (lw x:Nat)):=(a0I h.lo x).trans (a2D _ hx)
theorem RS.form (h:RS B R bl K lw v l W) (hp:0 < l.length):∃ g cap,v = .slice (some ⟨g,0,none⟩) l.length cap∧l.length≤cap∧(∀ i (hi:i < l.length),W.cell? ⟨g,i,none⟩ = some (.int .i64 (l[i]:Nat))∧W.frozen? ⟨g,i,none⟩ = false):=by
 have ho:=Kd.a2C h.st;rcases ho.2 with ⟨rfl,h0⟩ | ⟨g,cap,cur,rfl,hb,hh,hn,hc,ht⟩
 ·rw [a1E] at h0;omega
 ·rw [a1E] at hn;refine ⟨g,cap,by rw [a1E],hn,fun i hi =>⟨?_,a0K hh i⟩⟩;obtain ⟨A,c,e,_,hC⟩:=Kd.a2R h.st;injection e with e1 _ _
  subst e1;obtain ⟨ad,e2,hm⟩:=Kd.a3B hC (i:Int) (zH0 i) (by rw [a1E];exact zW1.2 hi);cases e2;rw [zK0,a3P,zZ1] at hm;rw [hm];unfold rd;rw [zK0,a5S _ _ hi]
theorem RS.turn (h:RS B R bl K lw v l W) {l1:List Nat} (hr:kI.R 3 W1 B (fun _ =>True) v1 (toI l1)) (hg:W.grownBy W1 v.ownBlock) (hat:v1.ownBlock = v.ownBlock∨∃ b,v1.ownBlock = some b∧W.heap.size≤b) (hbb:Below B W W1) (hm:∀ x,x ∈ l1→x < K) (hl:l1.length≤1000) :
  RS B R bl K lw v1 l1 (W1.setCell ⟨R,0,none⟩ v1)∧Ht B R W v (W1.setCell ⟨R,0,none⟩ v1) v1:=by
 have hb:=h.b;have hlt:=h.bl;have hf:=a1D h.r hg h.nR;have n1:some R≠v1.ownBlock:=Kd.R_ne hr hf qB0;refine ⟨⟨a2A hf 0 _ rfl,a1M (a1D h.lo hg h.nl) (show bl≠R by omega) _,?_,hm,h.b,h.bl,hl⟩,hbb.setCell (p:=⟨R,0,none⟩) hb _,fun k hk hR hv =>?_,hat⟩
 ·exact Kd.a3C (Kd.b2F (p:=⟨R,0,none⟩) (Kd.a5C (ok:=fun k =>some k = v1.ownBlock) rfl hr (fun k hk =>hk.symm)) (fun k hk e =>n1 (by rw [← hk];exact congrArg some (show R = k from e.symm))) _) (fun _ _ =>trivial)
 ·rw [Below.heap_setCell _ _ _ _ hR];exact hg.block k hk hv
end
theorem asInt (x:Int) (w:World):(Instr.typeAssert (.iface 3 (.int .i64 x)) 20 3 false).run Tryz.prog w = .ok (.int .i64 x) w:=by kernel_rfl
def ixP (R x:Nat) (v:Value) (i:Nat):Value:=match i with | 0 =>.pointer (some ⟨R,0,none⟩) | 1 =>.pointer (some ⟨R,0,none⟩) | 2 =>.pointer (some ⟨R,0,none⟩) | 3 =>.pointer (some ⟨R,0,none⟩) | 4 =>v | 5 =>.iface 3 (.int .i64 (x:Nat)) | 6 =>.int .i64 (x:Nat) | 9 =>.pointer (some ⟨R,0,none⟩) | 10 =>.pointer (some ⟨R,0,none⟩) | _ =>undef
def cstP (i:Nat):Bool:=i != 7 && i != 8 && i != 11
structure SP (B R bl K:Nat) (lw:Nat→Nat) (x:Nat) (l:List Nat) (v:Value) (W:World) (done:Nat→Bool) (val:Nat→Value) (Z:World):Prop where
 rs:RS B R bl K lw v l W
 hx:x < K
 hl:l.length + 1≤1000
 vv:∀ i,done i = true→cstP i = true→val i = ixP R x v i
 n4:done 4 = false→done 8 = false
 n7:done 7 = false→done 8 = false
 n8:done 8 = false→done 11 = false
 p8:done 8 = false→Below W.heap.size W Z
 b7:done 7 = true→done 8 = false→∃ Z0,Z = Z0.alloc (.cells #[.int .i64 (x:Nat)] 3)∧val 7 = .slice (some ⟨Z0.heap.size,0,none⟩) 1 1∧Below W.heap.size W Z0
 s8:done 8 = true→done 11 = false→∃ v1,val 8 = v1∧kI.R 3 Z B (fun _ =>True) v1 (toI (l ++ [x]))∧W.grownBy Z v.ownBlock∧(v1.ownBlock = v.ownBlock∨∃ b,v1.ownBlock = some b∧W.heap.size≤b)∧Below B W Z
 s11:done 11 = true→∃ v1,RS B R bl K lw v1 (l ++ [x]) Z∧Ht B R W v Z v1
section
variable {B R bl K:Nat} {lw:Nat→Nat} {x:Nat} {l:List Nat} {v:Value} {W Z:World} {done:Nat→Bool} {val:Nat→Value}
theorem SP.start (h:RS B R bl K lw v l W) (hx:x < K) (hl:l.length + 1≤1000):SP B R bl K lw x l v W (fun _ =>false) (fun _ =>undef) { W with drawn:=W.drawn + 1 } :=
 ⟨h,hx,hl,by simp,fun _ =>rfl,fun _ =>rfl,fun _ =>rfl,fun _ =>(zG0 W.heap.size W).drew,by simp,by simp,by simp⟩
theorem SP.v0 (h:SP B R bl K lw x l v W done val Z) (hd:done 0 = true):val 0 = .pointer (some ⟨R,0,none⟩):=h.vv 0 hd qB0
theorem SP.v1 (h:SP B R bl K lw x l v W done val Z) (hd:done 1 = true):val 1 = .pointer (some ⟨R,0,none⟩):=h.vv 1 hd qB0
theorem SP.v2 (h:SP B R bl K lw x l v W done val Z) (hd:done 2 = true):val 2 = .pointer (some ⟨R,0,none⟩):=h.vv 2 hd qB0
theorem SP.v3 (h:SP B R bl K lw x l v W done val Z) (hd:done 3 = true):val 3 = .pointer (some ⟨R,0,none⟩):=h.vv 3 hd qB0
theorem SP.v4 (h:SP B R bl K lw x l v W done val Z) (hd:done 4 = true):val 4 = v:=h.vv 4 hd qB0
theorem SP.v5 (h:SP B R bl K lw x l v W done val Z) (hd:done 5 = true):val 5 = .iface 3 (.int .i64 (x:Nat)):=h.vv 5 hd qB0
theorem SP.v6 (h:SP B R bl K lw x l v W done val Z) (hd:done 6 = true):val 6 = .int .i64 (x:Nat):=h.vv 6 hd qB0
theorem SP.v9 (h:SP B R bl K lw x l v W done val Z) (hd:done 9 = true):val 9 = .pointer (some ⟨R,0,none⟩):=h.vv 9 hd qB0
theorem SP.v10 (h:SP B R bl K lw x l v W done val Z) (hd:done 10 = true):val 10 = .pointer (some ⟨R,0,none⟩):=h.vv 10 hd qB0
theorem SP.do_ (h:SP B R bl K lw x l v W done val Z) (i:Nat) (hc:cstP i = true) {y:Value} (hy:y = ixP R x v i):SP B R bl K lw x l v W (upd done i) (setv val i y) Z:=by
 have e7:i≠7:=by rintro rfl;cases hc
 have e8:i≠8:=by rintro rfl;cases hc
 have e11:i≠11:=by rintro rfl;cases hc
 refine ⟨h.rs,h.hx,h.hl,fun j hj hcj =>?_,?_,?_,?_,?_,?_,?_,?_⟩
 ·simp only [upd,setv] at hj ⊢;by_cases e:j = i
  ·rw [if_pos e,e];exact hy
  ·rw [if_neg e] at hj ⊢;exact h.vv j hj hcj
 all_goals simp only [upd,setv,if_neg (Ne.symm e7),if_neg (Ne.symm e8),if_neg (Ne.symm e11)]
 ·by_cases e:4 = i
  ·rw [if_pos e];exact fun q =>by cases q
  ·rw [if_neg e];exact h.n4
 ·exact h.n7
 ·exact h.n8
 ·exact h.p8
 ·exact h.b7
 ·exact h.s8
 ·exact h.s11
theorem SP.rd (h:SP B R bl K lw x l v W done val Z) (h4:done 4 = false):Z.cell? ⟨R,0,none⟩ = some v:=(h.rs.below (h.p8 (h.n4 h4))).cf.1
theorem SP.do7 (h:SP B R bl K lw x l v W done val Z) (hd:done 7 = false):SP B R bl K lw x l v W (upd done 7) (setv val 7 (.slice (some ⟨Z.heap.size,0,none⟩) 1 1)) (Z.alloc (.cells #[.int .i64 (x:Nat)] 3)):=by
 have h8:=h.n7 hd;have h11:=h.n8 h8;refine ⟨h.rs,h.hx,h.hl,fun j hj hcj =>?_,?_,?_,?_,?_,?_,?_,?_⟩
 ·have e:j≠7:=by rintro rfl;cases hcj
  simp only [upd,setv,if_neg e] at hj ⊢;exact h.vv j hj hcj
 all_goals simp only [upd,setv,if_true,if_neg (show (4:Nat)≠7 by decide),if_neg (show (8:Nat)≠7 by decide),if_neg (show (11:Nat)≠7 by decide)]
 ·exact h.n4
 ·exact fun q =>by cases q
 ·exact h.n8
 ·exact fun q =>a0D (h.p8 q) _
 ·exact fun _ q =>⟨Z,rfl,rfl,h.p8 q⟩
 ·intro q;rw [h8] at q;cases q
 ·intro q;rw [h11] at q;cases q
theorem SP.do8 {Z0 w1:World} {v1:Value} (h:SP B R bl K lw x l v W done val Z) (h4:done 4 = true) (h7:done 7 = true) (hd:done 8 = false) (hb0:Below W.heap.size W Z0)
  (hr:kI.R 3 w1 B (fun _ =>True) v1 (toI l ++ [((x:Nat):Int)])) (hb:Below B W w1) (hg:Z0.grownBy w1 v.ownBlock) (hat:v1.ownBlock = v.ownBlock∨∃ b,v1.ownBlock = some b∧Z0.heap.size≤b) :
  SP B R bl K lw x l v W (upd done 8) (setv val 8 v1) w1:=by
 have h11:=h.n8 hd;have hgW:W.grownBy w1 v.ownBlock:=⟨hb.os,hb.tape,hb.output,hb.size,fun k hk hne =>(hg.block k (zP1 hk hb0.size) hne).trans (hb0.block k hk)⟩;refine ⟨h.rs,h.hx,h.hl,fun j hj hcj =>?_,?_,?_,?_,?_,?_,?_,?_⟩
 ·have e:j≠8:=by rintro rfl;cases hcj
  simp only [upd,setv,if_neg e] at hj ⊢;exact h.vv j hj hcj
 all_goals simp only [upd,setv,if_true,if_neg (show (4:Nat)≠8 by decide),if_neg (show (7:Nat)≠8 by decide),if_neg (show (11:Nat)≠8 by decide)]
 ·intro q;rw [h4] at q;cases q
 ·intro q;rw [h7] at q;cases q
 ·exact fun q =>by cases q
 ·exact fun q =>by cases q
 ·exact fun _ q =>by cases q
 ·exact fun _ _ =>⟨v1,rfl,by simpa [toI] using hr,hgW,hat.imp_right (fun ⟨b,e,hle⟩ =>⟨b,e,zF0 hb0.size hle⟩),hb⟩
 ·intro q;rw [h11] at q;cases q
theorem SP.at8 (h:SP B R bl K lw x l v W done val Z) (h8:done 8 = true) (h11:done 11 = false) :
  ∃ A9 n9 c9,val 8 = .slice A9 n9 c9∧Z.cell? ⟨R,0,none⟩ = some v∧Z.frozen? ⟨R,0,none⟩ = false:=by
 obtain ⟨v1,e,hr,hg,_,_⟩:=h.s8 h8 h11;obtain ⟨A,c,e2,_,_⟩:=Kd.a2R hr;have ho:=a1D h.rs.r hg h.rs.nR;exact ⟨A,_,c,e.trans e2,(a0I ho 0).trans rfl,a0K ho _⟩
theorem SP.do11 (h:SP B R bl K lw x l v W done val Z) (h8:done 8 = true) (hd:done 11 = false) {y v1:Value} (hv:val 8 = v1) :
  SP B R bl K lw x l v W (upd done 11) (setv val 11 y) (Z.setCell ⟨R,0,none⟩ v1):=by
 obtain ⟨v2,e,hr,hg,hat,hb⟩:=h.s8 h8 hd;obtain rfl:v1 = v2:=hv.symm.trans e
 obtain ⟨t1,t2⟩:=h.rs.turn hr hg hat hb (fun y hy =>by
  rcases zT0.1 hy with hy | hy
  ·exact h.rs.mem y hy
  ·rw [zA1.1 hy];exact h.hx) (by rw [zO0];exact h.hl)
 refine ⟨h.rs,h.hx,h.hl,fun j hj hcj =>?_,?_,?_,?_,?_,?_,?_,?_⟩
 ·have e:j≠11:=by rintro rfl;cases hcj
  simp only [upd,setv,if_neg e] at hj ⊢;exact h.vv j hj hcj
 all_goals simp only [upd,setv,if_true,if_neg (show (4:Nat)≠11 by decide),if_neg (show (7:Nat)≠11 by decide),if_neg (show (8:Nat)≠11 by decide)]
 ·exact h.n4
 ·exact h.n7
 ·intro q;rw [h8] at q;cases q
 ·intro q;rw [h8] at q;cases q
 ·intro _ q;rw [h8] at q;cases q
 ·exact fun _ q =>by cases q
 ·exact fun _ =>⟨v1,t1,t2⟩
end
theorem b4Q {B R bl K:Nat} {lw:Nat→Nat} {v:Value} {l:List Nat} {W:World} (h:RS B R bl K lw v l W) :
  Calls Tryz.prog 53 #[.pointer (some ⟨R,0,none⟩)] W fun e W' =>e = .returned (.int .i64 (l.length:Nat))∧W' = W:=by
 have ck:=h.cf;obtain ⟨A,c,rfl,_,_⟩:=Kd.a2R h.st;rw [a1E] at ck;go_enter Tryz.func53,Tryz.ntmps53
 go_wp2;go_ret;exact ⟨rfl,rfl⟩
theorem a3X {B R bl K:Nat} {lw:Nat→Nat} {v:Value} {l:List Nat} {W:World} (h:RS B R bl K lw v l W) (i j:Nat) (hi:i < l.length) (hj:j < l.length) :
  Calls Tryz.prog 139 #[.pointer (some ⟨R,0,none⟩),.int .i64 (i:Nat),.int .i64 (j:Nat)] W fun e W' =>e = .returned (.bool (decide (lw l[i] < lw l[j])))∧∃ n,W' = W.drewN n:=by
 have ck:=h.cf;obtain ⟨gv,cap,rfl,hcap,hall⟩:=h.form qC0;obtain ⟨a,ha⟩:∃ a,a = l[i]:=⟨_,rfl⟩;obtain ⟨b,hb⟩:∃ b,b = l[j]:=⟨_,rfl⟩;have zi:=(hall i hi).1;have zj:=(hall j hj).1;rw [← ha] at zi ⊢;rw [← hb] at zj ⊢;have hak:a < K:=h.mem a (ha ▸ zD1 hi);have hbk:b < K:=h.mem b (hb ▸ zD1 hj);have ya:=h.lwc hak;have yb:=h.lwc hbk;have ha0:(0:Int)≤(a:Int):=zH0 a;have hb0:(0:Int)≤(b:Int):=zH0 b;have hi0:(0:Int)≤(i:Int):=zH0 i;have hj0:(0:Int)≤(j:Int):=zH0 j;have hres:decide ((lw a:Int) < (lw b:Int)) = decide (lw a < lw b):=by simp
 clear ha hb hall;go_enter Tryz.func139,Tryz.ntmps139
 go_upto_region 1 with (fail)
 go_quiet (fail)
 go_wp2;go_ret;exact ⟨by first | rfl | simp [hres],nq,rfl⟩
theorem push_any {B R bl K:Nat} {lw:Nat→Nat} {v:Value} {l:List Nat} {W:World} (h:RS B R bl K lw v l W) (x:Nat) (hx:x < K) (hl:l.length + 1≤1000) (hB:B≤W.heap.size) :
  Calls Tryz.prog 141 #[.pointer (some ⟨R,0,none⟩),.iface 3 (.int .i64 (x:Nat))] W fun e W' =>e = .returned (.tuple #[])∧∃ v',RS B R bl K lw v' (l ++ [x]) W'∧Ht B R W v W' v':=by
 have ck:=h.cf;have RS0:=zA0 h;have ST:=zA0 h.st;have HB:=zA0 hB;have HX:=zA0 hx;have LST:=zA0 (show ((toI l).length + 1) * 8≤140737488355328 by rw [a1E];omega);obtain ⟨A,c,e,_,_⟩:=Kd.a2R h.st;rw [a1E] at e;have HE:=zA0 e;have HLL:=zA0 hl;rw [e] at ck;clear h hB hx e hl;go_enter Tryz.func141,Tryz.ntmps141
 refine (wpIn_wide (n:=5)).1 ?_;refine wpIn_region_any mixedO ?_;refine a1X _ (fun _ =>undef) (fun done val Z =>SP B R bl K lw x l v W done val Z) rfl qF0 _ ?hz9 ?st9 ?en9
 case hz9 =>exact SP.start RS0.out HX.out HLL.out
 case st9 =>
  intro i o done val a Z ho hdn hdep hag hS K2 hK2;have hm:i < 12:=by
   by_cases h:i < 12
   ·exact h
   ·rw [Array.getElem?_eq_none qV0] at ho;cases ho
  obtain rfl | rfl | rfl | rfl | rfl | rfl | rfl | rfl | rfl | rfl | rfl | rfl:i = 0∨i = 1∨i = 2∨i = 3∨i = 4∨i = 5∨i = 6∨i = 7∨i = 8∨i = 9∨i = 10∨i = 11:=by omega
  ·cases ho;have e0:a.eval (.tmp 0) = .pointer (some ⟨R,0,none⟩):=hag.keep 0 rfl;refine a0R (i:=0) (r:=.pointer (some ⟨R,0,none⟩)) (w':=Z) rfl rfl (fun c h =>by cases h) rfl ?_ (hK2 _ _ (hS.do_ 0 rfl rfl));have ec:∀ v,a.eval (.const v) = v:=fun _ =>rfl
   generalize a.eval = ev at *;simp [execOp,go_sem,ec,e0]
  ·cases ho;have e0:a.eval (.tmp 0) = .pointer (some ⟨R,0,none⟩):=hag.keep 0 rfl;refine a0R (i:=1) (r:=.pointer (some ⟨R,0,none⟩)) (w':=Z) rfl rfl (fun c h =>by cases h) rfl ?_ (hK2 _ _ (hS.do_ 1 rfl rfl));have ec:∀ v,a.eval (.const v) = v:=fun _ =>rfl
   generalize a.eval = ev at *;simp [execOp,go_sem,ec,e0]
  ·cases ho;have e5:=(hag.val_ (j:=1) (t:=5) rfl (hdep ⟨1,.data⟩ qE0 rfl)).trans (hS.v1 (hdep ⟨1,.data⟩ qE0 rfl));refine a0R (i:=2) (r:=.pointer (some ⟨R,0,none⟩)) (w':=Z) rfl rfl (fun c h =>by cases h) rfl ?_ (hK2 _ _ (hS.do_ 2 rfl rfl));have ec:∀ v,a.eval (.const v) = v:=fun _ =>rfl
   generalize a.eval = ev at *;simp [execOp,go_sem,ec,e5]
  ·cases ho;have e6:=(hag.val_ (j:=2) (t:=6) rfl (hdep ⟨2,.data⟩ qE0 rfl)).trans (hS.v2 (hdep ⟨2,.data⟩ qE0 rfl));refine a0R (i:=3) (r:=.pointer (some ⟨R,0,none⟩)) (w':=Z) rfl rfl (fun c h =>by cases h) rfl ?_ (hK2 _ _ (hS.do_ 3 rfl rfl));have ec:∀ v,a.eval (.const v) = v:=fun _ =>rfl
   generalize a.eval = ev at *;simp [execOp,go_sem,ec,e6]
  ·cases ho;have e7:=(hag.val_ (j:=3) (t:=7) rfl (hdep ⟨3,.data⟩ qE0 rfl)).trans (hS.v3 (hdep ⟨3,.data⟩ qE0 rfl));have hz:=hS.rd hdn;refine a0R (i:=4) (r:=v) (w':=Z) rfl rfl (fun c h =>by cases h) rfl ?_ (hK2 _ _ (hS.do_ 4 rfl rfl));have ec:∀ v,a.eval (.const v) = v:=fun _ =>rfl
   generalize a.eval = ev at *;simp [execOp,go_sem,ec,e7,hz]
  ·cases ho;have e1:a.eval (.tmp 1) = .iface 3 (.int .i64 (x:Nat)):=hag.keep 1 rfl;refine a0R (i:=5) (r:=.iface 3 (.int .i64 (x:Nat))) (w':=Z) rfl rfl (fun c h =>by cases h) rfl ?_ (hK2 _ _ (hS.do_ 5 rfl rfl));have ec:∀ v,a.eval (.const v) = v:=fun _ =>rfl
   generalize a.eval = ev at *;simp [execOp,go_sem,ec,e1]
  ·cases ho;have e9:=(hag.val_ (j:=5) (t:=9) rfl (hdep ⟨5,.data⟩ qE0 rfl)).trans (hS.v5 (hdep ⟨5,.data⟩ qE0 rfl));refine a0R (i:=6) (r:=.int .i64 (x:Nat)) (w':=Z) rfl rfl (fun c h =>by cases h) rfl ?_ (hK2 _ _ (hS.do_ 6 rfl rfl));have ec:∀ v,a.eval (.const v) = v:=fun _ =>rfl
   generalize a.eval = ev at *;simp [execOp,go_sem,ec,e9,asInt]
  ·cases ho;have e10:=(hag.val_ (j:=6) (t:=10) rfl (hdep ⟨6,.data⟩ qE0 rfl)).trans (hS.v6 (hdep ⟨6,.data⟩ qE0 rfl));refine a0R (i:=7) (r:=.slice (some ⟨Z.heap.size,0,none⟩) 1 1) (w':=Z.alloc (.cells #[.int .i64 (x:Nat)] 3)) rfl rfl (fun c h =>by cases h) rfl ?_ (hK2 _ _ (hS.do7 hdn));generalize a.eval = ev at *;simp [execOp,go_sem,e10]
  ·cases ho;have e8:=(hag.val_ (j:=4) (t:=8) rfl (hdep ⟨4,.data⟩ qE0 rfl)).trans (hS.v4 (hdep ⟨4,.data⟩ qE0 rfl));have e11:=hag.val_ (j:=7) (t:=11) rfl (hdep ⟨7,.data⟩ qE0 rfl);have h7:=hdep ⟨7,.data⟩ qE0 rfl;have h4:=hdep ⟨4,.data⟩ qE0 rfl;obtain ⟨Z0,rfl,e7,hb0⟩:=hS.b7 h7 hdn;rw [e7] at e11;refine a3S (i:=8) (s:=.tmp 8) (x:=.tmp 11) (t:=43) (t':=43) rfl rfl rfl ?_;refine Kd.a5N kI B (w0:=W) rfl (.tmp 8) (.tmp 11) 43 3 (.int .i64 0) 8 rfl Tryz.underlying43 b1X rfl qB0 qB0 v (toI l) ((x:Nat):Int) [.int .i64 ((x:Nat):Int)] (fun _ =>True) (fun _ =>False) e8 e11 rfl (fun _ hk =>hk.elim) (fun _ _ =>trivial) (Kd.a5M ST.out hb0) (hb0.mono HB.out) (zF0 HB.out hb0.size) LST.out ?_;exact fun v1 w1 hr hb hg hat =>hK2 v1 w1 (hS.do8 h4 h7 hdn hb0 hr hb hg hat)
  ·cases ho;have e4:=(hag.val_ (j:=0) (t:=4) rfl (hdep ⟨0,.data⟩ qE0 rfl)).trans (hS.v0 (hdep ⟨0,.data⟩ qE0 rfl));refine a0R (i:=9) (r:=.pointer (some ⟨R,0,none⟩)) (w':=Z) rfl rfl (fun c h =>by cases h) rfl ?_ (hK2 _ _ (hS.do_ 9 rfl rfl));have ec:∀ v,a.eval (.const v) = v:=fun _ =>rfl
   generalize a.eval = ev at *;simp [execOp,go_sem,ec,e4]
  ·cases ho;have e13:=(hag.val_ (j:=9) (t:=13) rfl (hdep ⟨9,.data⟩ qE0 rfl)).trans (hS.v9 (hdep ⟨9,.data⟩ qE0 rfl));refine a0R (i:=10) (r:=.pointer (some ⟨R,0,none⟩)) (w':=Z) rfl rfl (fun c h =>by cases h) rfl ?_ (hK2 _ _ (hS.do_ 10 rfl rfl));have ec:∀ v,a.eval (.const v) = v:=fun _ =>rfl
   generalize a.eval = ev at *;simp [execOp,go_sem,ec,e13]
  ·cases ho;have e14:=(hag.val_ (j:=10) (t:=14) rfl (hdep ⟨10,.data⟩ qE0 rfl)).trans (hS.v10 (hdep ⟨10,.data⟩ qE0 rfl));have e12:=hag.val_ (j:=8) (t:=12) rfl (hdep ⟨8,.data⟩ qE0 rfl);have h8:=hdep ⟨8,.data⟩ qE0 rfl;obtain ⟨A9,n9,c9,e9,hz,hzf⟩:=hS.at8 h8 hdn;rw [e9] at e12;refine a1Z (i:=11) rfl rfl (fun c h =>by cases h) rfl (w':=Z.setCell ⟨R,0,none⟩ (.slice A9 n9 c9)) ?_ (hK2 _ _ (hS.do11 h8 hdn e9));have ec:∀ v,a.eval (.const v) = v:=fun _ =>rfl
   generalize a.eval = ev at *;simp [execOp,go_sem,ec,e14,e12,hz,hzf]
 case en9 =>
  intro Z done val hdn hS;simp only [putTmps,dstOf,zQ1,zR0,zI1,Nat.reduceAdd,zS1,zF1,zL1,zU0,zL0,zV0,zW0];obtain ⟨v9,hfd9,hbe9⟩:=hS.s11 (hdn 11 qB0);go_wp2;refine bodyPost_end (results_none rfl _ _ _) rfl ?_;exact ⟨rfl,v9,hfd9,hbe9⟩
theorem pop_any {B R bl K:Nat} {lw:Nat→Nat} {v:Value} {l:List Nat} {W:World} (h:RS B R bl K lw v l W) (hp:0 < l.length) (hB:B≤W.heap.size) :
  Calls Tryz.prog 140 #[.pointer (some ⟨R,0,none⟩)] W fun e W' =>e = .returned (.iface 3 (.int .i64 (l[l.length - 1]:Nat)))∧∃ v',RS B R bl K lw v' (l.take (l.length - 1)) W'∧Ht B R W v W' v':=by
 have ck:=h.cf;obtain ⟨gv,cap,rfl,hcap,hall⟩:=h.form hp;obtain ⟨k,hk⟩:∃ k,l.length = k + 1:=⟨l.length - 1,by omega⟩;obtain ⟨i3,hi3,hi3s⟩:=zC1.1 b1X;obtain ⟨htk,_,_⟩:=a6O (P:=Tryz.prog) (k:=.i64) 43 3 Tryz.underlying43 hi3 qZ1 (some ⟨gv,0,none⟩) cap (toI l) (k:Int) (zH0 k) qU1 (by rw [a1E];exact hcap);rw [a1E,zK0,zK1,a1E,Nat.min_eq_left qC0] at htk;have ht:kI.R 3 W B (fun _ =>True) (.slice (some ⟨gv,0,none⟩) k cap) (toI (l.take k)):=by
  have ho0:=Kd.a2C h.st;rw [a1E] at ho0;have ho:=a8L ho0 (show k≤l.length by omega);refine Kd.a2W ?_ (fun _ _ =>trivial);have hl:(toI (l.take k)).length = k:=by rw [a1E,zK1];omega
  rw [hl];have he:encs (Value.int .i64) (toI (l.take k)) = (encs (Value.int .i64) (toI l)).take (k * 1):=by simp [encs,toI,List.map_take]
  rw [he];exact ho
 obtain ⟨b,hb⟩:∃ b,b = l[k]:=⟨_,rfl⟩;have zj:=(hall k qC0).1;rw [← hb] at zj;have hlast:l[l.length - 1] = b:=by simp only [hk,Nat.add_sub_cancel,hb]
 rw [hlast];have hle:l.length - 1 = k:=by omega
 rw [hle];rw [hk] at ck htk hcap;have hw:wrap64 (((k + 1:Nat):Int) - 1) = (k:Int):=by have:=h.len;simp only [wrap64];omega
 have hw4:wrap64 (k:Int) = (k:Int):=by have:=h.len;simp only [wrap64];omega
 have hw3:IntKind.i64.wrap (k:Int) = (k:Int):=by rw [Go.Proofs.YthhgfncliffggaaGreatW.PrintLast.a4P];exact hw4
 have hnk:¬ ((k:Int) + 1≤(k:Int)):=by omega
 have hk0:(0:Int)≤(k:Int):=zH0 k;have hk1:k < k + 1:=zS0 k;have RS0:=zA0 h;have HT:=zA0 ht;have HK:=zA0 hk;have HB:=zA0 hB;clear h ht hk hb hlast hle hall hp hB hi3 hi3s;go_enter Tryz.func140,Tryz.ntmps140
 go_upto_region 1 with (fail)
 refine (wpIn_wide (n:=5)).1 ?_;refine wpIn_region_any mixedO ?_;refine a5Q _ (fun ix_ =>match ix_ with | 0 =>.pointer (some ⟨R,0,none⟩) | 1 =>.pointer (some ⟨R,0,none⟩) | 2 =>.pointer (some ⟨R,0,none⟩) | 3 =>.slice (some ⟨gv,0,none⟩) (k + 1) cap | 4 =>.pointer (some ⟨R,0,none⟩) | 5 =>.pointer (some ⟨R,0,none⟩) | 6 =>.pointer (some ⟨R,0,none⟩) | 7 =>.slice (some ⟨gv,0,none⟩) (k + 1) cap | 8 =>.int .i64 ((k + 1:Nat):Int) | 9 =>.int .i64 (k:Nat) | 10 =>.pointer (some ⟨gv,k,none⟩) | 11 =>.int .i64 (b:Nat) | 12 =>.int .i64 (b:Nat) | _ =>undef) (fun done Z =>Below W.heap.size W Z) rfl qF0 _ ?hzq1 ?stq1 ?enq1
 case hzq1 =>exact (zG0 W.heap.size W).drew
 case stq1 =>
  intro m op done a Z ho hdn hdep hag hS K2 hK2;have hm:m < 13:=by
   by_cases h:m < 13
   ·exact h
   ·rw [Array.getElem?_eq_none qV0] at ho;cases ho
  have zz:=(RS0.out.below hS).cf.1;rw [HK.out] at zz;have zk:=a0A hS zj;have hw2:=hw;obtain rfl | rfl | rfl | rfl | rfl | rfl | rfl | rfl | rfl | rfl | rfl | rfl | rfl:m = 0∨m = 1∨m = 2∨m = 3∨m = 4∨m = 5∨m = 6∨m = 7∨m = 8∨m = 9∨m = 10∨m = 11∨m = 12:=by omega
  ·cases ho;have e0:a.eval (.tmp 0) = .pointer (some ⟨R,0,none⟩):=hag.keep 0 rfl;refine a0F (i:=0) rfl rfl (fun c h =>by cases h) rfl ?_ (hK2 Z hS);have ec:∀ v,a.eval (.const v) = v:=fun _ =>rfl
   generalize a.eval = ev at *;simp [execOp,go_sem,ec,e0]
  ·cases ho;have e4:=hag.val_ (j:=0) (t:=4) rfl (hdep ⟨0,.data⟩ qE0 rfl);refine a0F (i:=1) rfl rfl (fun c h =>by cases h) rfl ?_ (hK2 Z hS);have ec:∀ v,a.eval (.const v) = v:=fun _ =>rfl
   generalize a.eval = ev at *;simp [execOp,go_sem,ec,e4]
  ·cases ho;have e5:=hag.val_ (j:=1) (t:=5) rfl (hdep ⟨1,.data⟩ qE0 rfl);refine a0F (i:=2) rfl rfl (fun c h =>by cases h) rfl ?_ (hK2 Z hS);have ec:∀ v,a.eval (.const v) = v:=fun _ =>rfl
   generalize a.eval = ev at *;simp [execOp,go_sem,ec,e5]
  ·cases ho;have e6:=hag.val_ (j:=2) (t:=6) rfl (hdep ⟨2,.data⟩ qE0 rfl);refine a0F (i:=3) rfl rfl (fun c h =>by cases h) rfl ?_ (hK2 Z hS);have ec:∀ v,a.eval (.const v) = v:=fun _ =>rfl
   generalize a.eval = ev at *;simp [execOp,go_sem,ec,e6,zz]
  ·cases ho;have e0:a.eval (.tmp 0) = .pointer (some ⟨R,0,none⟩):=hag.keep 0 rfl;refine a0F (i:=4) rfl rfl (fun c h =>by cases h) rfl ?_ (hK2 Z hS);have ec:∀ v,a.eval (.const v) = v:=fun _ =>rfl
   generalize a.eval = ev at *;simp [execOp,go_sem,ec,e0]
  ·cases ho;have e8:=hag.val_ (j:=4) (t:=8) rfl (hdep ⟨4,.data⟩ qE0 rfl);refine a0F (i:=5) rfl rfl (fun c h =>by cases h) rfl ?_ (hK2 Z hS);have ec:∀ v,a.eval (.const v) = v:=fun _ =>rfl
   generalize a.eval = ev at *;simp [execOp,go_sem,ec,e8]
  ·cases ho;have e9:=hag.val_ (j:=5) (t:=9) rfl (hdep ⟨5,.data⟩ qE0 rfl);refine a0F (i:=6) rfl rfl (fun c h =>by cases h) rfl ?_ (hK2 Z hS);have ec:∀ v,a.eval (.const v) = v:=fun _ =>rfl
   generalize a.eval = ev at *;simp [execOp,go_sem,ec,e9]
  ·cases ho;have e10:=hag.val_ (j:=6) (t:=10) rfl (hdep ⟨6,.data⟩ qE0 rfl);refine a0F (i:=7) rfl rfl (fun c h =>by cases h) rfl ?_ (hK2 Z hS);have ec:∀ v,a.eval (.const v) = v:=fun _ =>rfl
   generalize a.eval = ev at *;simp [execOp,go_sem,ec,e10,zz]
  ·cases ho;have e11:=hag.val_ (j:=7) (t:=11) rfl (hdep ⟨7,.data⟩ qE0 rfl);refine a0F (i:=8) rfl rfl (fun c h =>by cases h) ?_ ?_ (hK2 Z hS)
   ·generalize a.eval = ev at *;simp [Oper.about,resolve,Target.leads,Sem.run_pure,go_sem,e11]
   ·have ec:∀ v,a.eval (.const v) = v:=fun _ =>rfl
    generalize a.eval = ev at *;simp [execOp,go_sem,ec,e11]
  ·cases ho;have e12:=hag.val_ (j:=8) (t:=12) rfl (hdep ⟨8,.data⟩ qE0 rfl);refine a0F (i:=9) rfl rfl (fun c h =>by cases h) rfl ?_ (hK2 Z hS);have ec:∀ v,a.eval (.const v) = v:=fun _ =>rfl
   generalize a.eval = ev at *;simp [execOp,go_sem,ec,e12,hw,hw3]
  ·cases ho;have e7:=hag.val_ (j:=3) (t:=7) rfl (hdep ⟨3,.data⟩ qE0 rfl);have e13:=hag.val_ (j:=9) (t:=13) rfl (hdep ⟨9,.data⟩ qE0 rfl);refine a0F (i:=10) rfl rfl (fun c h =>by cases h) ?_ ?_ (hK2 Z hS)
   ·generalize a.eval = ev at *;simp [Oper.about,resolve,Target.leads,Sem.run_pure,go_sem,e7,e13,hk1,hk0,hnk]
   ·have ec:∀ v,a.eval (.const v) = v:=fun _ =>rfl
    generalize a.eval = ev at *;simp [execOp,go_sem,ec,e7,e13,hk1,hk0,hnk]
  ·cases ho;have e14:=hag.val_ (j:=10) (t:=14) rfl (hdep ⟨10,.data⟩ qE0 rfl);refine a0F (i:=11) rfl rfl (fun c h =>by cases h) rfl ?_ (hK2 Z hS);have ec:∀ v,a.eval (.const v) = v:=fun _ =>rfl
   generalize a.eval = ev at *;simp [execOp,go_sem,ec,e14,zk]
  ·cases ho;have e15:=hag.val_ (j:=11) (t:=15) rfl (hdep ⟨11,.data⟩ qE0 rfl);refine a0F (i:=12) rfl rfl (fun c h =>by cases h) rfl ?_ (hK2 Z hS);have ec:∀ v,a.eval (.const v) = v:=fun _ =>rfl
   generalize a.eval = ev at *;simp [execOp,go_sem,ec,e15]
 case enq1 =>
  intro Z1 done hdn hS;simp only [putTmps,dstOf,zQ1,zR0,zI1,Nat.reduceAdd,zS1,zF1,zL1,zU0,zL0,zV0,zW0];have RS1:=zA0 (RS0.out.below hS);have HB1:=zA0 hS;have ck:=RS1.out.cf;rw [HK.out] at ck;clear hS hdn;go_upto_region 2 with (fail)
  go_still_tail 14,mixedO
  change wpList _ _ _ _ _ (World.drew Z1);have hb2:=HB1.out.trans (a1I (zG0 W.heap.size Z1));have rs2:=RS0.out.below hb2;have ht2:=Kd.a5M HT.out hb2;clear ck htk;generalize World.drew Z1 = Z2 at hb2 rs2 ht2 ⊢;have ck:=rs2.cf;rw [HK.out] at ck;have HB2:=zA0 hb2;have RS2:=zA0 rs2;have HT2:=zA0 ht2;clear hb2 rs2 ht2;have c3:Tryz.prog.concrete 3 = true:=by kernel_rfl
  go_wp2;go_ret;obtain ⟨t1,t2⟩:=RS2.out.turn HT2.out ⟨rfl,rfl,rfl,zJ0 _,fun _ _ _ =>rfl⟩ (.inl qX1) (zG0 B Z2) (fun x hx =>RS0.out.mem x (zY3 hx)) (by rw [zK1];have:=RS0.out.len;omega);refine ⟨rfl,_,t1,Ht.trans ⟨HB2.out.mono HB.out,fun q hq _ _ =>HB2.out.block q hq,.inl rfl⟩ t2⟩
def swapL (l:List Nat) (i j:Nat):List Nat:=(l.set i (l.getD j 0)).set j (l.getD i 0)
theorem a9A (l:List Nat) (i j:Nat):(swapL l i j).length = l.length:=by simp [swapL]
theorem RS.put {B R bl K:Nat} {lw:Nat→Nat} {l:List Nat} {W:World} {gv cap:Nat} (h:RS B R bl K lw (.slice (some ⟨gv,0,none⟩) l.length cap) l W) (i x:Nat) (hx:x < K) :
  RS B R bl K lw (.slice (some ⟨gv,0,none⟩) l.length cap) (l.set i x) (W.setCell ⟨gv,i,none⟩ (.int .i64 (x:Nat)))∧Ht B R W (.slice (some ⟨gv,0,none⟩) l.length cap) (W.setCell ⟨gv,i,none⟩ (.int .i64 (x:Nat))) (.slice (some ⟨gv,0,none⟩) l.length cap):=by
 have nR:R≠gv:=fun e =>h.nR (by rw [e];rfl)
 have nl:bl≠gv:=fun e =>h.nl (by rw [e];rfl)
 have ho:=Kd.a2C h.st;have hge:B≤gv:=a1O ho gv rfl;rw [a1E] at ho;have h2:(W.setCell ⟨gv,i,none⟩ (.int .i64 (x:Nat))).ownsRow B 3 1 (.slice (some ⟨gv,0,none⟩) l.length cap) (toI (l.set i x)).length (encs (Value.int .i64) (toI (l.set i x))):=by
  have h3:=a1E l;have h4:=b6Q (enc:=Value.int .i64) (xs:=toI l) (g:=gv) (cap:=cap) (e:=3) (base:=B) (W:=W) (by rw [h3];exact ho) (i:Int) ((x:Nat):Int);rw [zK0,h3] at h4;have h5:(toI l).set i ((x:Nat):Int) = toI (l.set i x):=by simp [toI,List.map_set]
  rw [h5] at h4;exact h4
 refine ⟨⟨a1M h.r nR _,a1M h.lo nl _,Kd.a2W h2 (fun _ _ =>trivial),fun y hy =>?_,h.b,h.bl,by rw [zV1];exact h.len⟩,(zG0 B W).setCell (p:=⟨gv,i,none⟩) hge _,fun k hk _ hv =>Below.heap_setCell _ _ _ _ (fun e =>hv (by rw [show k = gv from e];rfl)),.inl rfl⟩;rcases List.mem_or_eq_of_mem_set hy with hy | rfl
 ·exact h.mem y hy
 ·exact hx
structure SW (B R bl K:Nat) (lw:Nat→Nat) (gv cap:Nat) (l:List Nat) (i j a b:Nat) (W:World) (d16 d23 d25 d27:Bool) (Z:World):Prop where
 rs:RS B R bl K lw (.slice (some ⟨gv,0,none⟩) l.length cap) (if d27 = true then (l.set i b).set j a else if d25 = true then l.set i b else l) Z
 ht:Ht B R W (.slice (some ⟨gv,0,none⟩) l.length cap) Z (.slice (some ⟨gv,0,none⟩) l.length cap)
 ha:l[i]? = some a
 hb:l[j]? = some b
 n16:d16 = false→d25 = false
 n23:d23 = false→d25 = false
 n25:d25 = false→d27 = false
section
variable {B R bl K:Nat} {lw:Nat→Nat} {gv cap:Nat} {l:List Nat} {i j a b:Nat} {W Z:World} {d16 d23 d25 d27:Bool}
theorem SW.start (h:RS B R bl K lw (.slice (some ⟨gv,0,none⟩) l.length cap) l W) (ha:l[i]? = some a) (hb:l[j]? = some b):SW B R bl K lw gv cap l i j a b W false false false false W.drew :=
 ⟨by simpa using h.below (a1I (zG0 W.heap.size W)),⟨a1I (zG0 B W),fun _ _ _ _ =>rfl,.inl rfl⟩,ha,hb,fun _ =>rfl,fun _ =>rfl,fun _ =>rfl⟩
theorem SW.cl (h:SW B R bl K lw gv cap l i j a b W d16 d23 d25 d27 Z):(if d27 = true then (l.set i b).set j a else if d25 = true then l.set i b else l).length = l.length:=by
 split
 ·simp
 ·split <;> simp
theorem SW.cell (h:SW B R bl K lw gv cap l i j a b W d16 d23 d25 d27 Z) {x:Nat} (hx:x < l.length):(∃ u,Z.cell? ⟨gv,x,none⟩ = some u)∧Z.frozen? ⟨gv,x,none⟩ = false:=by
 have hl:=h.cl;obtain ⟨g,c,e,_,hall⟩:=h.rs.form qC0;injection e with e1 _ _
 injection e1 with e1
 injection e1 with e1 _ _
 subst e1;have:=hall x qC0;exact ⟨⟨_,this.1⟩,this.2⟩
theorem SW.k16 (h:SW B R bl K lw gv cap l i j a b W d16 d23 d25 d27 Z):SW B R bl K lw gv cap l i j a b W true d23 d25 d27 Z:=⟨h.rs,h.ht,h.ha,h.hb,(fun e =>by cases e),h.n23,h.n25⟩
theorem SW.k23 (h:SW B R bl K lw gv cap l i j a b W d16 d23 d25 d27 Z):SW B R bl K lw gv cap l i j a b W d16 true d25 d27 Z:=⟨h.rs,h.ht,h.ha,h.hb,h.n16,(fun e =>by cases e),h.n25⟩
theorem SW.rd (h:SW B R bl K lw gv cap l i j a b W d16 d23 d25 d27 Z) (h5:d25 = false) {x y:Nat} (hx:l[x]? = some y):Z.cell? ⟨gv,x,none⟩ = some (.int .i64 (y:Nat)):=by
 have hr:=h.rs;rw [h.n25 h5,h5] at hr;simp only [Bool.false_eq_true,if_false] at hr;obtain ⟨h1,h2⟩:=List.getElem?_eq_some_iff.1 hx;obtain ⟨g,c,e,_,hall⟩:=hr.form qC0;injection e with e1 _ _
 injection e1 with e1
 injection e1 with e1 _ _
 subst e1;have:=(hall x h1).1;rwa [h2] at this
theorem SW.rdj (h:SW B R bl K lw gv cap l i j a b W d16 d23 d25 d27 Z) (h5:d16 = false) (hj:j < l.length):Z.cell? ⟨gv,j,none⟩ = some (.int .i64 (b:Nat)):=h.rd (h.n16 h5) h.hb
theorem SW.rdi (h:SW B R bl K lw gv cap l i j a b W d16 d23 d25 d27 Z) (h5:d23 = false) (hi:i < l.length):Z.cell? ⟨gv,i,none⟩ = some (.int .i64 (a:Nat)):=h.rd (h.n23 h5) h.ha
theorem SW.do25 (h:SW B R bl K lw gv cap l i j a b W d16 d23 d25 d27 Z) (h16:d16 = true) (h23:d23 = true) (h5:d25 = false) (hb:b < K):SW B R bl K lw gv cap l i j a b W d16 d23 true d27 (Z.setCell ⟨gv,i,none⟩ (.int .i64 (b:Nat))):=by
 have hr:=h.rs;have h7:=h.n25 h5;rw [h7,h5] at hr;simp only [Bool.false_eq_true,if_false] at hr;obtain ⟨t1,t2⟩:=hr.put i b hb;exact ⟨by rw [h7];simpa using t1,h.ht.trans t2,h.ha,h.hb,fun e =>(by rw [h16] at e;cases e),fun e =>(by rw [h23] at e;cases e),fun e =>by cases e⟩
theorem SW.do27 (h:SW B R bl K lw gv cap l i j a b W d16 d23 d25 d27 Z) (h25:d25 = true) (h7:d27 = false) (ha:a < K) (hi:i < l.length) (hj:j < l.length):SW B R bl K lw gv cap l i j a b W d16 d23 d25 true (Z.setCell ⟨gv,j,none⟩ (.int .i64 (a:Nat))):=by
 have hr:=h.rs;rw [h7,h25] at hr;simp only [Bool.false_eq_true,if_false,if_true] at hr;have hl:(l.set i b).length = l.length:=zV1;obtain ⟨t1,t2⟩:=RS.put (l:=l.set i b) (by rw [hl];exact hr) j a ha;rw [hl] at t1 t2;exact ⟨by simpa using t1,h.ht.trans t2,h.ha,h.hb,h.n16,h.n23,fun e =>by rw [h25] at e;cases e⟩
end
theorem a7E {B R bl K:Nat} {lw:Nat→Nat} {v:Value} {l:List Nat} {W:World} (h:RS B R bl K lw v l W) (i j:Nat) (hi:i < l.length) (hj:j < l.length) :
  Calls Tryz.prog 142 #[.pointer (some ⟨R,0,none⟩),.int .i64 (i:Nat),.int .i64 (j:Nat)] W fun e W' =>e = .returned (.tuple #[])∧RS B R bl K lw v (swapL l i j) W'∧Ht B R W v W' v:=by
 obtain ⟨gv,cap,rfl,hcap,_⟩:=h.form qC0;obtain ⟨pa,ha⟩:∃ a,l[i]? = some a:=⟨_,zD0 hi⟩;obtain ⟨pb,hb⟩:∃ b,l[j]? = some b:=⟨_,zD0 hj⟩;have hi0:(0:Int)≤(i:Int):=zH0 i;have hj0:(0:Int)≤(j:Int):=zH0 j;have HAK:=zA0 (h.mem pa (List.mem_of_getElem? ha));have HBK:=zA0 (h.mem pb (List.mem_of_getElem? hb));have HA:=zA0 ha;have HBB:=zA0 hb;have RS0:=zA0 h;clear ha hb h;go_enter Tryz.func142,Tryz.ntmps142
 refine (wpIn_wide (n:=5)).1 ?_;refine wpIn_region_any mixedO ?_;refine a5Q _ (fun ix_ =>match ix_ with | 0 =>.pointer (some ⟨R,0,none⟩) | 1 =>.pointer (some ⟨R,0,none⟩) | 2 =>.pointer (some ⟨R,0,none⟩) | 3 =>.slice (some ⟨gv,0,none⟩) l.length cap | 4 =>.int .i64 (i:Nat) | 5 =>.pointer (some ⟨R,0,none⟩) | 6 =>.pointer (some ⟨R,0,none⟩) | 7 =>.pointer (some ⟨R,0,none⟩) | 8 =>.slice (some ⟨gv,0,none⟩) l.length cap | 9 =>.int .i64 (j:Nat) | 10 =>.pointer (some ⟨R,0,none⟩) | 11 =>.pointer (some ⟨R,0,none⟩) | 12 =>.pointer (some ⟨R,0,none⟩) | 13 =>.slice (some ⟨gv,0,none⟩) l.length cap | 14 =>.int .i64 (j:Nat) | 15 =>.pointer (some ⟨gv,j,none⟩) | 16 =>.int .i64 (pb:Nat) | 17 =>.pointer (some ⟨R,0,none⟩) | 18 =>.pointer (some ⟨R,0,none⟩) | 19 =>.pointer (some ⟨R,0,none⟩) | 20 =>.slice (some ⟨gv,0,none⟩) l.length cap | 21 =>.int .i64 (i:Nat) | 22 =>.pointer (some ⟨gv,i,none⟩) | 23 =>.int .i64 (pa:Nat) | 24 =>.pointer (some ⟨gv,i,none⟩) | 25 =>undef | 26 =>.pointer (some ⟨gv,j,none⟩) | 27 =>undef | _ =>undef) (fun done Z =>SW B R bl K lw gv cap l i j pa pb W (done 16) (done 23) (done 25) (done 27) Z) rfl qF0 _ ?hzsw ?stsw ?ensw
 case hzsw =>exact SW.start RS0.out HA.out HBB.out
 case stsw =>
  intro m op done a Z ho hdn hdep hag hS K2 hK2;have hm:m < 28:=by
   by_cases h:m < 28
   ·exact h
   ·rw [Array.getElem?_eq_none qV0] at ho;cases ho
  have zz:=hS.rs.cf;obtain ⟨⟨ui,zci⟩,zfi⟩:=hS.cell hi;obtain ⟨⟨uj,zcj⟩,zfj⟩:=hS.cell hj;obtain rfl | rfl | rfl | rfl | rfl | rfl | rfl | rfl | rfl | rfl | rfl | rfl | rfl | rfl | rfl | rfl | rfl | rfl | rfl | rfl | rfl | rfl | rfl | rfl | rfl | rfl | rfl | rfl:m = 0∨m = 1∨m = 2∨m = 3∨m = 4∨m = 5∨m = 6∨m = 7∨m = 8∨m = 9∨m = 10∨m = 11∨m = 12∨m = 13∨m = 14∨m = 15∨m = 16∨m = 17∨m = 18∨m = 19∨m = 20∨m = 21∨m = 22∨m = 23∨m = 24∨m = 25∨m = 26∨m = 27:=by omega
  ·cases ho;have e0:a.eval (.tmp 0) = .pointer (some ⟨R,0,none⟩):=hag.keep 0 rfl;refine a0F (i:=0) rfl rfl (fun c h =>by cases h) rfl ?_ (hK2 Z hS);have ec:∀ v,a.eval (.const v) = v:=fun _ =>rfl
   generalize a.eval = ev at *;simp [execOp,go_sem,ec,e0]
  ·cases ho;have e6:=hag.val_ (j:=0) (t:=6) rfl (hdep ⟨0,.data⟩ qE0 rfl);refine a0F (i:=1) rfl rfl (fun c h =>by cases h) rfl ?_ (hK2 Z hS);have ec:∀ v,a.eval (.const v) = v:=fun _ =>rfl
   generalize a.eval = ev at *;simp [execOp,go_sem,ec,e6]
  ·cases ho;have e7:=hag.val_ (j:=1) (t:=7) rfl (hdep ⟨1,.data⟩ qE0 rfl);refine a0F (i:=2) rfl rfl (fun c h =>by cases h) rfl ?_ (hK2 Z hS);have ec:∀ v,a.eval (.const v) = v:=fun _ =>rfl
   generalize a.eval = ev at *;simp [execOp,go_sem,ec,e7]
  ·cases ho;have e8:=hag.val_ (j:=2) (t:=8) rfl (hdep ⟨2,.data⟩ qE0 rfl);refine a0F (i:=3) rfl rfl (fun c h =>by cases h) rfl ?_ (hK2 Z hS);have ec:∀ v,a.eval (.const v) = v:=fun _ =>rfl
   generalize a.eval = ev at *;simp [execOp,go_sem,ec,e8,zz.1]
  ·cases ho;have e1:a.eval (.tmp 1) = .int .i64 (i:Nat):=hag.keep 1 rfl;refine a0F (i:=4) rfl rfl (fun c h =>by cases h) rfl ?_ (hK2 Z hS);have ec:∀ v,a.eval (.const v) = v:=fun _ =>rfl
   generalize a.eval = ev at *;simp [execOp,go_sem,ec,e1]
  ·cases ho;have e0:a.eval (.tmp 0) = .pointer (some ⟨R,0,none⟩):=hag.keep 0 rfl;refine a0F (i:=5) rfl rfl (fun c h =>by cases h) rfl ?_ (hK2 Z hS);have ec:∀ v,a.eval (.const v) = v:=fun _ =>rfl
   generalize a.eval = ev at *;simp [execOp,go_sem,ec,e0]
  ·cases ho;have e11:=hag.val_ (j:=5) (t:=11) rfl (hdep ⟨5,.data⟩ qE0 rfl);refine a0F (i:=6) rfl rfl (fun c h =>by cases h) rfl ?_ (hK2 Z hS);have ec:∀ v,a.eval (.const v) = v:=fun _ =>rfl
   generalize a.eval = ev at *;simp [execOp,go_sem,ec,e11]
  ·cases ho;have e12:=hag.val_ (j:=6) (t:=12) rfl (hdep ⟨6,.data⟩ qE0 rfl);refine a0F (i:=7) rfl rfl (fun c h =>by cases h) rfl ?_ (hK2 Z hS);have ec:∀ v,a.eval (.const v) = v:=fun _ =>rfl
   generalize a.eval = ev at *;simp [execOp,go_sem,ec,e12]
  ·cases ho;have e13:=hag.val_ (j:=7) (t:=13) rfl (hdep ⟨7,.data⟩ qE0 rfl);refine a0F (i:=8) rfl rfl (fun c h =>by cases h) rfl ?_ (hK2 Z hS);have ec:∀ v,a.eval (.const v) = v:=fun _ =>rfl
   generalize a.eval = ev at *;simp [execOp,go_sem,ec,e13,zz.1]
  ·cases ho;have e2:a.eval (.tmp 2) = .int .i64 (j:Nat):=hag.keep 2 rfl;refine a0F (i:=9) rfl rfl (fun c h =>by cases h) rfl ?_ (hK2 Z hS);have ec:∀ v,a.eval (.const v) = v:=fun _ =>rfl
   generalize a.eval = ev at *;simp [execOp,go_sem,ec,e2]
  ·cases ho;have e0:a.eval (.tmp 0) = .pointer (some ⟨R,0,none⟩):=hag.keep 0 rfl;refine a0F (i:=10) rfl rfl (fun c h =>by cases h) rfl ?_ (hK2 Z hS);have ec:∀ v,a.eval (.const v) = v:=fun _ =>rfl
   generalize a.eval = ev at *;simp [execOp,go_sem,ec,e0]
  ·cases ho;have e16:=hag.val_ (j:=10) (t:=16) rfl (hdep ⟨10,.data⟩ qE0 rfl);refine a0F (i:=11) rfl rfl (fun c h =>by cases h) rfl ?_ (hK2 Z hS);have ec:∀ v,a.eval (.const v) = v:=fun _ =>rfl
   generalize a.eval = ev at *;simp [execOp,go_sem,ec,e16]
  ·cases ho;have e17:=hag.val_ (j:=11) (t:=17) rfl (hdep ⟨11,.data⟩ qE0 rfl);refine a0F (i:=12) rfl rfl (fun c h =>by cases h) rfl ?_ (hK2 Z hS);have ec:∀ v,a.eval (.const v) = v:=fun _ =>rfl
   generalize a.eval = ev at *;simp [execOp,go_sem,ec,e17]
  ·cases ho;have e18:=hag.val_ (j:=12) (t:=18) rfl (hdep ⟨12,.data⟩ qE0 rfl);refine a0F (i:=13) rfl rfl (fun c h =>by cases h) rfl ?_ (hK2 Z hS);have ec:∀ v,a.eval (.const v) = v:=fun _ =>rfl
   generalize a.eval = ev at *;simp [execOp,go_sem,ec,e18,zz.1]
  ·cases ho;have e2:a.eval (.tmp 2) = .int .i64 (j:Nat):=hag.keep 2 rfl;refine a0F (i:=14) rfl rfl (fun c h =>by cases h) rfl ?_ (hK2 Z hS);have ec:∀ v,a.eval (.const v) = v:=fun _ =>rfl
   generalize a.eval = ev at *;simp [execOp,go_sem,ec,e2]
  ·cases ho;have e19:=hag.val_ (j:=13) (t:=19) rfl (hdep ⟨13,.data⟩ qE0 rfl);have e20:=hag.val_ (j:=14) (t:=20) rfl (hdep ⟨14,.data⟩ qE0 rfl);refine a0F (i:=15) rfl rfl (fun c h =>by cases h) ?_ ?_ (hK2 Z hS)
   ·generalize a.eval = ev at *;simp [Oper.about,resolve,Target.leads,Sem.run_pure,go_sem,e19,e20,hj,hj0]
   ·have ec:∀ v,a.eval (.const v) = v:=fun _ =>rfl
    generalize a.eval = ev at *;simp [execOp,go_sem,ec,e19,e20,hj,hj0]
  ·cases ho;have e21:=hag.val_ (j:=15) (t:=21) rfl (hdep ⟨15,.data⟩ qE0 rfl);refine a0F (i:=16) rfl rfl (fun c h =>by cases h) rfl ?_ (hK2 Z hS.k16);have ec:∀ v,a.eval (.const v) = v:=fun _ =>rfl
   generalize a.eval = ev at *;simp [execOp,go_sem,ec,e21,(hS.rdj hdn hj)]
  ·cases ho;have e0:a.eval (.tmp 0) = .pointer (some ⟨R,0,none⟩):=hag.keep 0 rfl;refine a0F (i:=17) rfl rfl (fun c h =>by cases h) rfl ?_ (hK2 Z hS);have ec:∀ v,a.eval (.const v) = v:=fun _ =>rfl
   generalize a.eval = ev at *;simp [execOp,go_sem,ec,e0]
  ·cases ho;have e23:=hag.val_ (j:=17) (t:=23) rfl (hdep ⟨17,.data⟩ qE0 rfl);refine a0F (i:=18) rfl rfl (fun c h =>by cases h) rfl ?_ (hK2 Z hS);have ec:∀ v,a.eval (.const v) = v:=fun _ =>rfl
   generalize a.eval = ev at *;simp [execOp,go_sem,ec,e23]
  ·cases ho;have e24:=hag.val_ (j:=18) (t:=24) rfl (hdep ⟨18,.data⟩ qE0 rfl);refine a0F (i:=19) rfl rfl (fun c h =>by cases h) rfl ?_ (hK2 Z hS);have ec:∀ v,a.eval (.const v) = v:=fun _ =>rfl
   generalize a.eval = ev at *;simp [execOp,go_sem,ec,e24]
  ·cases ho;have e25:=hag.val_ (j:=19) (t:=25) rfl (hdep ⟨19,.data⟩ qE0 rfl);refine a0F (i:=20) rfl rfl (fun c h =>by cases h) rfl ?_ (hK2 Z hS);have ec:∀ v,a.eval (.const v) = v:=fun _ =>rfl
   generalize a.eval = ev at *;simp [execOp,go_sem,ec,e25,zz.1]
  ·cases ho;have e1:a.eval (.tmp 1) = .int .i64 (i:Nat):=hag.keep 1 rfl;refine a0F (i:=21) rfl rfl (fun c h =>by cases h) rfl ?_ (hK2 Z hS);have ec:∀ v,a.eval (.const v) = v:=fun _ =>rfl
   generalize a.eval = ev at *;simp [execOp,go_sem,ec,e1]
  ·cases ho;have e26:=hag.val_ (j:=20) (t:=26) rfl (hdep ⟨20,.data⟩ qE0 rfl);have e27:=hag.val_ (j:=21) (t:=27) rfl (hdep ⟨21,.data⟩ qE0 rfl);refine a0F (i:=22) rfl rfl (fun c h =>by cases h) ?_ ?_ (hK2 Z hS)
   ·generalize a.eval = ev at *;simp [Oper.about,resolve,Target.leads,Sem.run_pure,go_sem,e26,e27,hi,hi0]
   ·have ec:∀ v,a.eval (.const v) = v:=fun _ =>rfl
    generalize a.eval = ev at *;simp [execOp,go_sem,ec,e26,e27,hi,hi0]
  ·cases ho;have e28:=hag.val_ (j:=22) (t:=28) rfl (hdep ⟨22,.data⟩ qE0 rfl);refine a0F (i:=23) rfl rfl (fun c h =>by cases h) rfl ?_ (hK2 Z hS.k23);have ec:∀ v,a.eval (.const v) = v:=fun _ =>rfl
   generalize a.eval = ev at *;simp [execOp,go_sem,ec,e28,(hS.rdi hdn hi)]
  ·cases ho;have e9:=hag.val_ (j:=3) (t:=9) rfl (hdep ⟨3,.data⟩ qE0 rfl);have e10:=hag.val_ (j:=4) (t:=10) rfl (hdep ⟨4,.data⟩ qE0 rfl);refine a0F (i:=24) rfl rfl (fun c h =>by cases h) ?_ ?_ (hK2 Z hS)
   ·generalize a.eval = ev at *;simp [Oper.about,resolve,Target.leads,Sem.run_pure,go_sem,e9,e10,hi,hi0]
   ·have ec:∀ v,a.eval (.const v) = v:=fun _ =>rfl
    generalize a.eval = ev at *;simp [execOp,go_sem,ec,e9,e10,hi,hi0]
  ·cases ho;have e30:=hag.val_ (j:=24) (t:=30) rfl (hdep ⟨24,.data⟩ qE0 rfl);have e22:=hag.val_ (j:=16) (t:=22) rfl (hdep ⟨16,.data⟩ qE0 rfl);refine a1Z (i:=25) rfl rfl (fun c h =>by cases h) rfl (w':=Z.setCell ⟨gv,i,none⟩ (.int .i64 (pb:Nat))) ?_ (hK2 _ (hS.do25 (hdep ⟨16,.data⟩ qE0 rfl) (hdep ⟨23,.phase⟩ qE0 rfl) hdn HBK.out));have ec:∀ v,a.eval (.const v) = v:=fun _ =>rfl
   generalize a.eval = ev at *;simp [execOp,go_sem,ec,e30,e22,zci,zfi]
  ·cases ho;have e14:=hag.val_ (j:=8) (t:=14) rfl (hdep ⟨8,.data⟩ qE0 rfl);have e15:=hag.val_ (j:=9) (t:=15) rfl (hdep ⟨9,.data⟩ qE0 rfl);refine a0F (i:=26) rfl rfl (fun c h =>by cases h) ?_ ?_ (hK2 Z hS)
   ·generalize a.eval = ev at *;simp [Oper.about,resolve,Target.leads,Sem.run_pure,go_sem,e14,e15,hj,hj0]
   ·have ec:∀ v,a.eval (.const v) = v:=fun _ =>rfl
    generalize a.eval = ev at *;simp [execOp,go_sem,ec,e14,e15,hj,hj0]
  ·cases ho;have e31:=hag.val_ (j:=26) (t:=31) rfl (hdep ⟨26,.data⟩ qE0 rfl);have e29:=hag.val_ (j:=23) (t:=29) rfl (hdep ⟨23,.data⟩ qE0 rfl);refine a1Z (i:=27) rfl rfl (fun c h =>by cases h) rfl (w':=Z.setCell ⟨gv,j,none⟩ (.int .i64 (pa:Nat))) ?_ (hK2 _ (hS.do27 (hdep ⟨25,.chain⟩ qE0 rfl) hdn HAK.out hi hj));have ec:∀ v,a.eval (.const v) = v:=fun _ =>rfl
   generalize a.eval = ev at *;simp [execOp,go_sem,ec,e31,e29,zcj,zfj]
 case ensw =>
  intro Z1 done hdn hS;simp only [putTmps,dstOf,zQ1,zR0,zI1,Nat.reduceAdd,zS1,zF1,zL1,zU0,zL0,zV0,zW0];have hr:=hS.rs;have ht:=hS.ht;rw [hdn 27 qB0] at hr;simp only [if_true] at hr;have HR9:=zA0 hr;have HT9:=zA0 ht;clear hr ht hS hdn;go_wp2;refine bodyPost_end (results_none rfl _ _ _) rfl ?_;refine ⟨rfl,?_,HT9.out⟩;have e:swapL l i j = (l.set i pb).set j pa:=by
   unfold swapL;rw [zE0,zE0,HA.out,HBB.out];rfl
  rw [e];exact HR9.out
def par (i:Nat):Nat:=(i - 1) / 2
def Hp (k:Nat→Nat) (n:Nat):Prop:=∀ i,0 < i→i < n→k (par i)≤k i
def UpI (k:Nat→Nat) (n j:Nat):Prop:=(∀ i,0 < i→i < n→i≠j→k (par i)≤k i)∧∀ i,0 < i→i < n→0 < j→par i = j→k (par j)≤k i
def DnI (k:Nat→Nat) (n i:Nat):Prop:=(∀ m,0 < m→m < n→par m≠i→k (par m)≤k m)∧∀ m,0 < m→m < n→0 < i→par m = i→k (par i)≤k m
def swk (k:Nat→Nat) (a b:Nat):Nat→Nat:=fun i =>if i = a then k b else if i = b then k a else k i
theorem a3R {i:Nat} (h:0 < i):par i < i:=by unfold par;omega
theorem UpI.zero {k:Nat→Nat} {n:Nat} (h:UpI k n 0):Hp k n:=fun i h0 hi =>h.1 i h0 hi qC0
theorem UpI.stop {k:Nat→Nat} {n j:Nat} (h:UpI k n j) (hk:¬ k j < k (par j)):Hp k n:=fun i h0 hi =>by
 by_cases e:i = j
 ·subst e;omega
 ·exact h.1 i h0 hi e
theorem UpI.step {k:Nat→Nat} {n j:Nat} (h:UpI k n j) (hj:0 < j) (hn:j < n) (hk:k j < k (par j)):UpI (swk k (par j) j) n (par j):=by
 have hp:=a3R hj;refine ⟨fun i h0 hi hne =>?_,fun i h0 hi hp0 he =>?_⟩
 ·have hpi:=a3R h0;by_cases e:i = j
  ·subst e;unfold swk;rw [if_pos rfl,if_neg qC0,if_pos rfl];omega
  ·have h1:=h.1 i h0 hi e;unfold swk;rw [if_neg hne,if_neg e];by_cases e2:par i = par j
   ·rw [if_pos e2];rw [e2] at h1;omega
   ·rw [if_neg e2];by_cases e3:par i = j
    ·rw [if_pos e3];exact h.2 i h0 hi hj e3
    ·rw [if_neg e3];exact h1
 ·have hpp:=a3R hp0;have hpi:=a3R h0;have h2:=h.1 (par j) hp0 qC0 qC0;unfold swk;rw [if_neg qC0,if_neg qC0];rw [if_neg qC0];by_cases e:i = j
  ·rw [if_pos e];exact h2
  ·rw [if_neg e];have h1:=h.1 i h0 hi e;rw [he] at h1;omega
theorem DnI.stop {k:Nat→Nat} {n i j:Nat} (h:DnI k n i) (hj:∀ m,0 < m→m < n→par m = i→k j≤k m) (hk:¬ k j < k i):Hp k n:=fun m h0 hm =>by
 by_cases e:par m = i
 ·have:=hj m h0 hm e;rw [e];omega
 ·exact h.1 m h0 hm e
theorem DnI.none {k:Nat→Nat} {n i:Nat} (h:DnI k n i) (hn:n≤2 * i + 1):Hp k n:=fun m h0 hm =>by
 by_cases e:par m = i
 ·unfold par at e;omega
 ·exact h.1 m h0 hm e
theorem DnI.step {k:Nat→Nat} {n i j:Nat} (h:DnI k n i) (hj:∀ m,0 < m→m < n→par m = i→k j≤k m) (hk:k j < k i) (hj0:0 < j) (hjn:j < n) (hpj:par j = i):DnI (swk k i j) n j:=by
 have hij:i < j:=by have:=a3R hj0;omega
 refine ⟨fun m h0 hm hne =>?_,fun m h0 hm _ he =>?_⟩
 ·have hpm:=a3R h0;by_cases e:m = j
  ·subst e;unfold swk;rw [if_pos hpj,if_neg qC0,if_pos rfl];omega
  ·by_cases e2:par m = i
   ·unfold swk;rw [if_pos e2,if_neg qC0,if_neg e];exact hj m h0 hm e2
   ·by_cases e3:m = i
    ·subst e3;unfold swk;rw [if_neg qC0,if_neg qC0,if_pos rfl];exact h.2 j hj0 hjn h0 hpj
    ·unfold swk;rw [if_neg e2,if_neg hne,if_neg e3,if_neg e];exact h.1 m h0 hm e2
 ·have hpm:=a3R h0;have h1:=h.1 m h0 hm qC0;rw [he] at h1;unfold swk;rw [if_pos hpj,if_neg qC0,if_neg qC0];exact h1
theorem Hp.congr {k k':Nat→Nat} {n:Nat} (h:Hp k n) (e:∀ m,m < n→k' m = k m):Hp k' n:=fun i h0 hi =>by
 have:=a3R h0;rw [e i hi,e (par i) qC0];exact h i h0 hi
theorem UpI.congr {k k':Nat→Nat} {n j:Nat} (h:UpI k n j) (e:∀ m,m < n→k' m = k m):UpI k' n j:=by
 refine ⟨fun i h0 hi hne =>?_,fun i h0 hi hj he =>?_⟩
 ·have:=a3R h0;rw [e i hi,e (par i) qC0];exact h.1 i h0 hi hne
 ·have:=a3R h0;have h3:=a3R hj;rw [e i hi,e (par j) qC0];exact h.2 i h0 hi hj he
theorem DnI.congr {k k':Nat→Nat} {n j:Nat} (h:DnI k n j) (e:∀ m,m < n→k' m = k m):DnI k' n j:=by
 refine ⟨fun i h0 hi hne =>?_,fun i h0 hi hj he =>?_⟩
 ·have:=a3R h0;rw [e i hi,e (par i) qC0];exact h.1 i h0 hi hne
 ·have:=a3R h0;have h3:=a3R hj;rw [e i hi,e (par j) qC0];exact h.2 i h0 hi hj he
theorem Hp.top {k:Nat→Nat} {n:Nat} (h:Hp k n):∀ i,i < n→k 0≤k i:=by
 intro i
 induction i using Nat.strongRecOn with
 | _ i ih =>
  intro hi;rcases zR1 i with h0 | h0
  ·rw [h0];exact zJ0 _
  ·have:=a3R h0;exact zF0 (ih (par i) this qC0) (h i h0 hi)
def kys (lw:Nat→Nat) (l:List Nat):Nat→Nat:=fun i =>lw (l.getD i 0)
theorem a2M (lw:Nat→Nat) (l:List Nat) (i:Nat) (h:i < l.length):lw l[i] = kys lw l i:=by
 unfold kys;rw [zE0,zD0 h];rfl
theorem a8N (lw:Nat→Nat) (l:List Nat) (i j:Nat) (hi:i < l.length) (hj:j < l.length) (m:Nat) (hm:m < l.length):kys lw (swapL l i j) m = swk (kys lw l) i j m:=by
 unfold kys swapL swk;simp only [zE0];rw [List.getElem?_set];by_cases e:j = m
 ·subst e;rw [if_pos rfl,zV1,if_pos hm];by_cases e2:j = i
  ·subst e2;simp
  ·simp [e2]
 ·rw [if_neg e,List.getElem?_set];by_cases e2:i = m
  ·subst e2;simp [hi]
  ·rw [if_neg e2,if_neg (Ne.symm e2),if_neg (Ne.symm e)]
theorem a7R (l:List Nat) (i j:Nat) (hi:i < l.length) (hj:j < l.length):(swapL l i j).Perm l:=by
 rw [List.perm_iff_count];intro a;unfold swapL;rw [List.count_set (by rw [zV1];exact hj),List.count_set hi];have h1:l.getD j 0 = l[j]:=by simp [zE0,hj]
 have h2:l.getD i 0 = l[i]:=by simp [zE0,hi]
 rw [h1,h2,List.getElem_set];have p1:l[i] = a→0 < l.count a:=fun e =>List.count_pos_iff.2 (e ▸ zD1 hi)
 have p2:l[j] = a→0 < l.count a:=fun e =>List.count_pos_iff.2 (e ▸ zD1 hj)
 by_cases e:i = j
 ·subst e;simp only [if_true];by_cases e1:l[i] = a
  ·have:=p1 e1;simp [e1];omega
  ·simp [e1]
 ·rw [if_neg e];by_cases e1:l[i] = a <;> by_cases e2:l[j] = a <;> simp [e1,e2] <;> (first | omega | (have:=p1 e1;omega) | (have:=p2 e2;omega) | skip)
theorem mLen (R:Nat) (w:World):(method 283 86 (.pointer (some ⟨R,0,none⟩)) "Len").run Tryz.prog w = .ok (53,.pointer (some ⟨R,0,none⟩)) w:=by kernel_rfl
theorem mLess (R:Nat) (w:World):(method 283 86 (.pointer (some ⟨R,0,none⟩)) "Less").run Tryz.prog w = .ok (139,.pointer (some ⟨R,0,none⟩)) w:=by kernel_rfl
theorem mSwap (R:Nat) (w:World):(method 283 86 (.pointer (some ⟨R,0,none⟩)) "Swap").run Tryz.prog w = .ok (142,.pointer (some ⟨R,0,none⟩)) w:=by kernel_rfl
theorem mPush (R:Nat) (w:World):(method 283 86 (.pointer (some ⟨R,0,none⟩)) "Push").run Tryz.prog w = .ok (141,.pointer (some ⟨R,0,none⟩)) w:=by kernel_rfl
theorem mPop (R:Nat) (w:World):(method 283 86 (.pointer (some ⟨R,0,none⟩)) "Pop").run Tryz.prog w = .ok (140,.pointer (some ⟨R,0,none⟩)) w:=by kernel_rfl
structure UP (B R bl K:Nat) (lw:Nat→Nat) (v:Value) (l0:List Nat) (W0:World) (j:Nat) (l:List Nat) (W:World):Prop where
 rs:RS B R bl K lw v l W
 pm:l.Perm l0
 up:UpI (kys lw l) l.length j
 ht:Ht B R W0 v W v
theorem up_any {B R bl K:Nat} {lw:Nat→Nat} {v:Value} {l:List Nat} {W:World} (h:RS B R bl K lw v l W) (j:Nat) (hj:j < l.length) (hu:UpI (kys lw l) l.length j) :
  Calls Tryz.prog 76 #[.iface 86 (.pointer (some ⟨R,0,none⟩)),.int .i64 (j:Nat)] W fun e W' =>e = .returned (.tuple #[])∧∃ l',RS B R bl K lw v l' W'∧l'.Perm l∧Hp (kys lw l') l'.length∧Ht B R W v W' v:=by
 have hm1:=mLess R;have hm2:=mSwap R;have H0:=zA0 (show UP B R bl K lw v l W j l W from ⟨h,List.Perm.refl _,hu,Ht.refl _ _ _ _⟩);have HLN:=zA0 h.len;clear h hu;go_enter Tryz.func76,Tryz.ntmps76
 go_wp2;go_loopg [1] j (fun kq v1 w' =>v1 = .int .i64 (kq:Nat)∧kq < l.length∧∃ l',Hid (UP B R bl K lw v l W kq l' w'))
 case atStart =>exact ⟨rfl,hj,l,H0⟩
 case round =>
  obtain ⟨rfl,hjl,l1,HU⟩:=hrel;rcases zR1 gk with h0 | h0
  ·subst h0;go_wp2;refine bodyPost_end (results_none rfl _ _ _) rfl ?_;exact ⟨rfl,l1,HU.out.rs,HU.out.pm,HU.out.up.zero,HU.out.ht⟩
  ·obtain ⟨q,rfl⟩:∃ q,gk = q + 1:=⟨gk - 1,by omega⟩;obtain ⟨p,hp⟩:∃ p,p = par (q + 1):=⟨_,rfl⟩;have hpq:p = q / 2:=by rw [hp];unfold par;rw [Nat.add_sub_cancel]
   have hlen1:l1.length = l.length:=HU.out.pm.length_eq;have hl1:q + 1 < l1.length:=by omega
   have hpl:p < l1.length:=by omega
   have hln:=HLN.out;have hw1:wrap64 (q:Int) = (q:Int):=by simp only [wrap64];omega
   have hw2:wrap64 ((q:Int).tdiv 2) = (p:Int):=by
    have e:(q:Int).tdiv 2 = ((q / 2:Nat):Int):=by rw [Int.tdiv_eq_ediv_of_nonneg (zH0 q)];rfl
    rw [e,← hpq];simp only [wrap64];omega
   have hw3:wrap64 ((q:Int) / 2) = (p:Int):=by simp only [wrap64];omega
   have hne:((p:Int) == (q:Int) + 1) = false:=by simp;omega
   have hless:=a3X HU.out.rs (q + 1) p hl1 hpl;rw [a2M lw l1 (q + 1) hl1,a2M lw l1 p hpl] at hless;have HP:=zA0 hp;have HPQ:=zA0 hpq;have HL1:=zA0 hl1;have HPL:=zA0 hpl;clear hp hpq hl1 hpl hlen1 hln;by_cases hlt:kys lw l1 (q + 1) < kys lw l1 p
   ·rw [show decide (kys lw l1 (q + 1) < kys lw l1 p) = true from zI0 hlt] at hless;have HLESS:=zA0 (show Calls Tryz.prog 139 #[.pointer (some ⟨R,0,none⟩),.int .i64 ((q:Int) + 1),.int .i64 (p:Nat)] wr fun e W' =>e = .returned (.bool true)∧∃ n,W' = wr.drewN n from hless);have HLT:=zA0 hlt;clear hless hlt
    go_upto_region 2 with (first
     | (go_at_call 139;(with_reducible refine HLESS.out.mono ?_;rintro x w1 ⟨rfl,nd,rfl⟩)))
    have hswap:=a7E (HU.out.rs.drew nd) p (q + 1) HPL.out HL1.out;have HSWAP:=zA0 (show Calls Tryz.prog 142 #[.pointer (some ⟨R,0,none⟩),.int .i64 (p:Nat),.int .i64 ((q:Int) + 1)] (wr.drewN nd) fun e W' =>e = .returned (.tuple #[])∧RS B R bl K lw v (swapL l1 p (q + 1)) W'∧Ht B R (wr.drewN nd) v W' v from hswap);clear hswap
    go_wp2_with (first
     | (go_at_call 142;(with_reducible refine HSWAP.out.mono ?_;rintro x w2 ⟨rfl,hrs2,hht2⟩;have HRS2:=zA0 hrs2;have HHT2:=zA0 hht2;clear hrs2 hht2)))
    go_roundg p
    case measure =>have:=HPQ.out;omega
    case rel =>
     refine ⟨rfl,by have:=HPL.out;have:=HU.out.pm.length_eq;omega,swapL l1 p (q + 1),zA0 ⟨HRS2.out,(a7R l1 p (q + 1) HPL.out HL1.out).trans HU.out.pm,?_,(HU.out.ht.drew nd).trans HHT2.out⟩⟩;rw [a9A];refine UpI.congr ?_ (fun m hm =>a8N lw l1 p (q + 1) HPL.out HL1.out m hm);have hk:kys lw l1 (q + 1) < kys lw l1 (par (q + 1)):=by
      rw [← HP.out];exact HLT.out
     have:=HU.out.up.step (Nat.succ_pos q) HL1.out hk;rw [← HP.out] at this;exact this
   ·rw [show decide (kys lw l1 (q + 1) < kys lw l1 p) = false from zM0 hlt] at hless;have HLESS:=zA0 (show Calls Tryz.prog 139 #[.pointer (some ⟨R,0,none⟩),.int .i64 ((q:Int) + 1),.int .i64 (p:Nat)] wr fun e W' =>e = .returned (.bool false)∧∃ n,W' = wr.drewN n from hless);have HLT:=zA0 hlt;clear hless hlt
    go_wp2_with (first
     | (go_at_call 139;(with_reducible refine HLESS.out.mono ?_;rintro x w1 ⟨rfl,nd,rfl⟩)))
    refine bodyPost_end (results_none rfl _ _ _) rfl ?_;refine ⟨rfl,l1,HU.out.rs.drew nd,HU.out.pm,HU.out.up.stop ?_,HU.out.ht.drew nd⟩;rw [← HP.out];exact HLT.out
structure DN (B R bl K:Nat) (lw:Nat→Nat) (v:Value) (l0:List Nat) (W0:World) (n i:Nat) (l:List Nat) (W:World):Prop where
 rs:RS B R bl K lw v l W
 pm:l.Perm l0
 dn:DnI (kys lw l) n i
 hi:∀ m,n≤m→l[m]? = l0[m]?
 ht:Ht B R W0 v W v
theorem b7M (l:List Nat) (i j m:Nat) (hi:i≠m) (hj:j≠m):(swapL l i j)[m]? = l[m]?:=by
 unfold swapL;rw [List.getElem?_set,if_neg hj,List.getElem?_set,if_neg hi]
theorem DN.next {B R bl K:Nat} {lw:Nat→Nat} {v:Value} {l0 l:List Nat} {W0 W W1:World} {n i j:Nat} (h:DN B R bl K lw v l0 W0 n i l W) (hn:n≤l0.length) (hj0:0 < j) (hjn:j < n) (hin:i < n) (hp:par j = i)
  (hm:∀ m,0 < m→m < n→par m = i→kys lw l j≤kys lw l m) (hk:kys lw l j < kys lw l i) (hr:RS B R bl K lw v (swapL l i j) W1) (ht:Ht B R W0 v W1 v):DN B R bl K lw v l0 W0 n j (swapL l i j) W1:=by
 have hl:=h.pm.length_eq;refine ⟨hr,(a7R l i j qC0 qC0).trans h.pm,?_,fun m hm =>(b7M l i j m qC0 qC0).trans (h.hi m hm),ht⟩;exact (h.dn.step hm hk hj0 hjn hp).congr (fun m hm =>a8N lw l i j qC0 qC0 m qC0)
theorem down_any {B R bl K:Nat} {lw:Nat→Nat} {v:Value} {l:List Nat} {W:World} (h:RS B R bl K lw v l W) (n:Nat) (hn:n≤l.length) (hd:DnI (kys lw l) n 0) :
  Calls Tryz.prog 77 #[.iface 86 (.pointer (some ⟨R,0,none⟩)),.int .i64 0,.int .i64 (n:Nat)] W fun e W' =>(∃ b,e = .returned (.bool b))∧∃ l',RS B R bl K lw v l' W'∧l'.Perm l∧Hp (kys lw l') n∧(∀ m,n≤m→l'[m]? = l[m]?)∧Ht B R W v W' v:=by
 have hm1:=mLess R;have hm2:=mSwap R;have H0:=zA0 (show DN B R bl K lw v l W n 0 l W from ⟨h,List.Perm.refl _,hd,fun _ _ =>rfl,Ht.refl _ _ _ _⟩);have hln:=h.len;have HL0:=zA0 hn;have hn1:n≤1000:=by omega
 clear h hd hn hln;go_enter Tryz.func77,Tryz.ntmps77
 go_wp2;go_loopg [7] n (fun kq v7 w' =>∃ (i:Nat) (l':List Nat),v7 = .int .i64 (i:Nat)∧i + kq = n∧(i < n∨i = 0)∧Hid (DN B R bl K lw v l W n i l' w'))
 case atStart =>exact ⟨0,l,rfl,by omega,.inr rfl,H0⟩
 case round =>
  obtain ⟨i,l1,rfl,hik,hin,HU⟩:=hrel;obtain ⟨c,hc⟩:∃ c,c = 2 * i + 1:=⟨_,rfl⟩;have hw1:wrap64 (2 * (i:Int)) = 2 * (i:Int):=by simp only [wrap64];omega
  have hw2:wrap64 (2 * (i:Int) + 1) = (c:Int):=by simp only [wrap64];omega
  have hw4:wrap64 ((c:Int) + 1) = (c:Int) + 1:=by simp only [wrap64];omega
  have hc0:¬ ((c:Int) < 0):=by omega
  have HLN:=zA0 (show n≤l1.length∧n≤1000 from ⟨by rw [HU.out.pm.length_eq];exact HL0.out,hn1⟩);by_cases hlt:c < n
  ·have hle:¬ (n≤c):=by omega
   have HC:=zA0 (show c = 2 * i + 1∧i < n∧c < n∧i + gk = n from ⟨hc,by omega,hlt,hik⟩);clear hc hik hin;by_cases hj2:c + 1 < n
   ·by_cases hkk:kys lw l1 (c + 1) < kys lw l1 c
    ·have HK2:=zA0 hkk
     have HL2:=zA0 (show Calls Tryz.prog 139 #[.pointer (some ⟨R,0,none⟩),.int .i64 ((c:Int) + 1),.int .i64 (c:Nat)] (wr) fun e W' =>e = .returned (.bool true)∧∃ n,W' = World.drewN (wr) n from by
      have q:=a3X (HU.out.rs) (c + 1) c qI0 qI0;rw [a2M lw l1 (c + 1) qI0,a2M lw l1 c qI0] at q;rw [show decide (kys lw l1 (c + 1) < kys lw l1 c) = true from zI0 hkk] at q
      exact q)
     clear hkk
     go_upto_region 8 with (first
      | (go_at_call 139;(with_reducible refine HL2.out.mono ?_;rintro x w1 ⟨rfl,n1,rfl⟩)))
     have hmin:∀ m,0 < m→m < n→par m = i→kys lw l1 (c + 1)≤kys lw l1 m:=by
      intro m h0 hm hp;have hc:=HC.out;have:m = c∨m = c + 1:=by unfold par at hp;omega
      rcases this with rfl | rfl
      ·have:=HK2.out;omega
      ·exact zJ0 _
     have HMIN:=zA0 hmin;clear hmin;by_cases hkk:kys lw l1 (c + 1) < kys lw l1 i
     ·have HKK:=zA0 hkk
      have HL3:=zA0 (show Calls Tryz.prog 139 #[.pointer (some ⟨R,0,none⟩),.int .i64 ((c:Int) + 1),.int .i64 (i:Nat)] (World.drewN wr n1) fun e W' =>e = .returned (.bool true)∧∃ n,W' = World.drewN (World.drewN wr n1) n from by
       have q:=a3X (HU.out.rs.drew n1) (c + 1) i qI0 qI0;rw [a2M lw l1 (c + 1) qI0,a2M lw l1 i qI0] at q;rw [show decide (kys lw l1 (c + 1) < kys lw l1 i) = true from zI0 hkk] at q
       exact q)
      clear hkk
      go_upto_region 9 with (first
       | (go_at_call 139;(with_reducible refine HL3.out.mono ?_;rintro x w2 ⟨rfl,n2,rfl⟩)))
      have HSW:=zA0 (show Calls Tryz.prog 142 #[.pointer (some ⟨R,0,none⟩),.int .i64 (i:Nat),.int .i64 ((c:Int) + 1)] (World.drewN wr (n1 + n2)) fun e W' =>e = .returned (.tuple #[])∧RS B R bl K lw v (swapL l1 i (c + 1)) W'∧Ht B R (World.drewN wr (n1 + n2)) v W' v from a7E ((HU.out.rs).drew (n1 + n2)) i (c + 1) qI0 qI0)
      go_wp2_with (first
       | (go_at_call 142;(with_reducible refine HSW.out.mono ?_;rintro x w3 ⟨rfl,hrs3,hht3⟩;have HRS3:=zA0 hrs3;have HHT3:=zA0 hht3;clear hrs3 hht3)))
      go_roundg (n - (c + 1))
      case measure =>have:=HC.out;omega
      case rel =>
       exact ⟨(c + 1),swapL l1 i (c + 1),rfl,by have:=HC.out;omega,by have:=HC.out;omega,zA0 (HU.out.next HL0.out qL1 qL1 qL1 (by unfold par;have:=HC.out;omega) HMIN.out HKK.out HRS3.out (((HU.out.ht).drew (n1 + n2)).trans HHT3.out))⟩
     ·have HKK:=zA0 hkk
      have HL3:=zA0 (show Calls Tryz.prog 139 #[.pointer (some ⟨R,0,none⟩),.int .i64 ((c:Int) + 1),.int .i64 (i:Nat)] (World.drewN wr n1) fun e W' =>e = .returned (.bool false)∧∃ n,W' = World.drewN (World.drewN wr n1) n from by
       have q:=a3X (HU.out.rs.drew n1) (c + 1) i qI0 qI0;rw [a2M lw l1 (c + 1) qI0,a2M lw l1 i qI0] at q;rw [show decide (kys lw l1 (c + 1) < kys lw l1 i) = false from zM0 hkk] at q
       exact q)
      clear hkk
      go_wp2_with (first
       | (go_at_call 139;(with_reducible refine HL3.out.mono ?_;rintro x w2 ⟨rfl,n2,rfl⟩)))
      go_ret;exact qJ3
    ·have HK2:=zA0 hkk
     have HL2:=zA0 (show Calls Tryz.prog 139 #[.pointer (some ⟨R,0,none⟩),.int .i64 ((c:Int) + 1),.int .i64 (c:Nat)] (wr) fun e W' =>e = .returned (.bool false)∧∃ n,W' = World.drewN (wr) n from by
      have q:=a3X (HU.out.rs) (c + 1) c qI0 qI0;rw [a2M lw l1 (c + 1) qI0,a2M lw l1 c qI0] at q;rw [show decide (kys lw l1 (c + 1) < kys lw l1 c) = false from zM0 hkk] at q
      exact q)
     clear hkk
     go_upto_region 8 with (first
      | (go_at_call 139;(with_reducible refine HL2.out.mono ?_;rintro x w1 ⟨rfl,n1,rfl⟩)))
     have hmin:∀ m,0 < m→m < n→par m = i→kys lw l1 c≤kys lw l1 m:=by
      intro m h0 hm hp;have hc:=HC.out;have:m = c∨m = c + 1:=by unfold par at hp;omega
      rcases this with rfl | rfl
      ·exact zJ0 _
      ·have:=HK2.out;omega
     have HMIN:=zA0 hmin;clear hmin;by_cases hkk:kys lw l1 c < kys lw l1 i
     ·have HKK:=zA0 hkk
      have HL3:=zA0 (show Calls Tryz.prog 139 #[.pointer (some ⟨R,0,none⟩),.int .i64 (c:Nat),.int .i64 (i:Nat)] (World.drewN wr n1) fun e W' =>e = .returned (.bool true)∧∃ n,W' = World.drewN (World.drewN wr n1) n from by
       have q:=a3X (HU.out.rs.drew n1) c i qI0 qI0;rw [a2M lw l1 c qI0,a2M lw l1 i qI0] at q;rw [show decide (kys lw l1 c < kys lw l1 i) = true from zI0 hkk] at q
       exact q)
      clear hkk
      go_upto_region 9 with (first
       | (go_at_call 139;(with_reducible refine HL3.out.mono ?_;rintro x w2 ⟨rfl,n2,rfl⟩)))
      have HSW:=zA0 (show Calls Tryz.prog 142 #[.pointer (some ⟨R,0,none⟩),.int .i64 (i:Nat),.int .i64 (c:Nat)] (World.drewN wr (n1 + n2)) fun e W' =>e = .returned (.tuple #[])∧RS B R bl K lw v (swapL l1 i c) W'∧Ht B R (World.drewN wr (n1 + n2)) v W' v from a7E ((HU.out.rs).drew (n1 + n2)) i c qI0 qI0)
      go_wp2_with (first
       | (go_at_call 142;(with_reducible refine HSW.out.mono ?_;rintro x w3 ⟨rfl,hrs3,hht3⟩;have HRS3:=zA0 hrs3;have HHT3:=zA0 hht3;clear hrs3 hht3)))
      go_roundg (n - c)
      case measure =>have:=HC.out;omega
      case rel =>
       exact ⟨c,swapL l1 i c,rfl,by have:=HC.out;omega,by have:=HC.out;omega,zA0 (HU.out.next HL0.out qL1 qL1 qL1 (by unfold par;have:=HC.out;omega) HMIN.out HKK.out HRS3.out (((HU.out.ht).drew (n1 + n2)).trans HHT3.out))⟩
     ·have HKK:=zA0 hkk
      have HL3:=zA0 (show Calls Tryz.prog 139 #[.pointer (some ⟨R,0,none⟩),.int .i64 (c:Nat),.int .i64 (i:Nat)] (World.drewN wr n1) fun e W' =>e = .returned (.bool false)∧∃ n,W' = World.drewN (World.drewN wr n1) n from by
       have q:=a3X (HU.out.rs.drew n1) c i qI0 qI0;rw [a2M lw l1 c qI0,a2M lw l1 i qI0] at q;rw [show decide (kys lw l1 c < kys lw l1 i) = false from zM0 hkk] at q
       exact q)
      clear hkk
      go_wp2_with (first
       | (go_at_call 139;(with_reducible refine HL3.out.mono ?_;rintro x w2 ⟨rfl,n2,rfl⟩)))
      go_ret;exact qJ3
   ·go_upto_region 8 with (fail)
    have hmin:∀ m,0 < m→m < n→par m = i→kys lw l1 c≤kys lw l1 m:=by
     intro m h0 hm hp;have hc:=HC.out;have:m = c∨m = c + 1:=by unfold par at hp;omega
     rcases this with rfl | rfl
     ·exact zJ0 _
     ·omega
    have HMIN:=zA0 hmin;clear hmin;by_cases hkk:kys lw l1 c < kys lw l1 i
    ·have HKK:=zA0 hkk
     have HL3:=zA0 (show Calls Tryz.prog 139 #[.pointer (some ⟨R,0,none⟩),.int .i64 (c:Nat),.int .i64 (i:Nat)] (wr) fun e W' =>e = .returned (.bool true)∧∃ n,W' = World.drewN (wr) n from by
      have q:=a3X (HU.out.rs) c i qI0 qI0;rw [a2M lw l1 c qI0,a2M lw l1 i qI0] at q;rw [show decide (kys lw l1 c < kys lw l1 i) = true from zI0 hkk] at q
      exact q)
     clear hkk
     go_upto_region 9 with (first
      | (go_at_call 139;(with_reducible refine HL3.out.mono ?_;rintro x w2 ⟨rfl,n2,rfl⟩)))
     have HSW:=zA0 (show Calls Tryz.prog 142 #[.pointer (some ⟨R,0,none⟩),.int .i64 (i:Nat),.int .i64 (c:Nat)] (World.drewN wr n2) fun e W' =>e = .returned (.tuple #[])∧RS B R bl K lw v (swapL l1 i c) W'∧Ht B R (World.drewN wr n2) v W' v from a7E ((HU.out.rs).drew n2) i c qI0 qI0)
     go_wp2_with (first
      | (go_at_call 142;(with_reducible refine HSW.out.mono ?_;rintro x w3 ⟨rfl,hrs3,hht3⟩;have HRS3:=zA0 hrs3;have HHT3:=zA0 hht3;clear hrs3 hht3)))
     go_roundg (n - c)
     case measure =>have:=HC.out;omega
     case rel =>
      exact ⟨c,swapL l1 i c,rfl,by have:=HC.out;omega,by have:=HC.out;omega,zA0 (HU.out.next HL0.out qL1 qL1 qL1 (by unfold par;have:=HC.out;omega) HMIN.out HKK.out HRS3.out (((HU.out.ht).drew n2).trans HHT3.out))⟩
    ·have HKK:=zA0 hkk
     have HL3:=zA0 (show Calls Tryz.prog 139 #[.pointer (some ⟨R,0,none⟩),.int .i64 (c:Nat),.int .i64 (i:Nat)] (wr) fun e W' =>e = .returned (.bool false)∧∃ n,W' = World.drewN (wr) n from by
      have q:=a3X (HU.out.rs) c i qI0 qI0;rw [a2M lw l1 c qI0,a2M lw l1 i qI0] at q;rw [show decide (kys lw l1 c < kys lw l1 i) = false from zM0 hkk] at q
      exact q)
     clear hkk
     go_wp2_with (first
      | (go_at_call 139;(with_reducible refine HL3.out.mono ?_;rintro x w2 ⟨rfl,n2,rfl⟩)))
     go_ret;exact ⟨⟨_,rfl⟩,l1,(HU.out.rs).drew n2,HU.out.pm,HU.out.dn.stop HMIN.out HKK.out,HU.out.hi,(HU.out.ht).drew n2⟩
  ·have hle:n≤c:=by omega
   have HC:=zA0 (show c = 2 * i + 1 from hc);clear hc hik hin;go_wp2;go_ret;refine ⟨?_,l1,HU.out.rs,HU.out.pm,HU.out.dn.none (by rw [← HC.out];exact hle),HU.out.hi,HU.out.ht⟩;by_cases e:0 < i
   ·right;simp [e]
   ·left;simp [e]
theorem b3M {B R bl K:Nat} {lw:Nat→Nat} {v:Value} {l:List Nat} {W:World} (h:RS B R bl K lw v l W) (hh:Hp (kys lw l) l.length) (x:Nat) (hx:x < K) (hl:l.length + 1≤1000) (hB:B≤W.heap.size) :
  Calls Tryz.prog 52 #[.iface 86 (.pointer (some ⟨R,0,none⟩)),.iface 3 (.int .i64 (x:Nat))] W fun e W' =>e = .returned (.tuple #[])∧∃ v' l',RS B R bl K lw v' l' W'∧l'.Perm (l ++ [x])∧Hp (kys lw l') l'.length∧Ht B R W v W' v':=by
 have hm1:=mPush R;have hm2:=mLen R;have hpush:=push_any h x hx hl hB;have HPUSH:=zA0 hpush;have hup:UpI (kys lw (l ++ [x])) (l ++ [x]).length l.length:=by
  rw [zO0];refine ⟨fun i h0 hi hne =>?_,fun i h0 hi hj he =>?_⟩
  ·have hi':i < l.length:=by simp at hi;omega
   have hp:=a3R h0;have e:∀ m,m < l.length→kys lw (l ++ [x]) m = kys lw l m:=fun m hm =>by
    unfold kys;rw [zE0,zE0,List.getElem?_append_left hm]
   rw [e i hi',e (par i) qC0];exact hh i h0 hi'
  ·exfalso;simp at hi;unfold par at he;omega
 have HUP:=zA0 hup;have hw1:wrap64 ((l.length:Int)) = (l.length:Int):=by simp only [wrap64];omega
 have HB:=zA0 hB;clear hpush hup hh h hB;go_enter Tryz.func52,Tryz.ntmps52
 go_upto_region 1 with (first
  | (go_at_call 141;(with_reducible refine HPUSH.out.mono ?_;rintro z w1 ⟨rfl,v1,hrs1,hht1⟩;have HRS1:=zA0 hrs1;have HHT1:=zA0 hht1;clear hrs1 hht1)))
 have hlen:=b4Q HRS1.out;have HLEN:=zA0 hlen;have HUPA:=zA0 (up_any HRS1.out l.length (by rw [zO0];exact zS0 _) HUP.out);clear hlen;have hla:((l ++ [x]).length:Int) = (l.length:Int) + 1:=by simp
 go_wp2_with (first
  | (go_at_call 53;(with_reducible refine HLEN.out.mono ?_;rintro z w2 ⟨rfl,hw2⟩;obtain rfl:w1 = w2:=hw2.symm))
  | (go_at_call 76;(with_reducible refine HUPA.out.mono ?_;rintro z w3 ⟨rfl,l3,hrs3,hpm3,hhp3,hht3⟩;have HRS3:=zA0 hrs3;have HPM3:=zA0 hpm3;have HHP3:=zA0 hhp3;have HHT3:=zA0 hht3;clear hrs3 hpm3 hhp3 hht3)))
 refine bodyPost_end (results_none rfl _ _ _) rfl ?_;exact ⟨rfl,v1,l3,HRS3.out,HPM3.out,HHP3.out,HHT1.out.trans HHT3.out⟩
theorem pop_dn {lw:Nat→Nat} {l:List Nat} {k:Nat} (hk:l.length = k + 1) (hh:Hp (kys lw l) l.length):DnI (kys lw (swapL l 0 k)) k 0:=by
 refine ⟨fun m h0 hm hne =>?_,fun m h0 hm h _ =>absurd h (zX1 0)⟩;have hp:=a3R h0;rw [a8N lw l 0 k qC0 qC0 m qC0,a8N lw l 0 k qC0 qC0 (par m) qC0];unfold swk;rw [if_neg hne,if_neg qC0,if_neg qC0,if_neg qC0];exact hh m h0 qC0
theorem take_hp {lw:Nat→Nat} {l:List Nat} {k:Nat} (hk:k≤l.length) (h:Hp (kys lw l) k):Hp (kys lw (l.take k)) (l.take k).length:=by
 have hl:(l.take k).length = k:=by rw [zK1];omega
 rw [hl];refine h.congr (fun m hm =>?_);unfold kys;rw [zE0,zE0,List.getElem?_take,if_pos hm]
theorem pop_perm {l l2:List Nat} {k x:Nat} (hk:l2.length = k + 1) (hx:l2[k]? = some x) (hp:l2.Perm l):(x :: l2.take k).Perm l:=by
 obtain ⟨h1,h2⟩:=List.getElem?_eq_some_iff.1 hx;have e:l2 = l2.take k ++ [x]:=by
  have:=zB1 h1;rw [h2] at this;rw [← this,← hk,zN1]
 refine List.Perm.trans ?_ hp
 conv =>rhs;rw [e]
 exact (List.perm_append_singleton x _).symm
theorem hpop_any {B R bl K:Nat} {lw:Nat→Nat} {v:Value} {l:List Nat} {W:World} (h:RS B R bl K lw v l W) (hh:Hp (kys lw l) l.length) (hp:0 < l.length) (hB:B≤W.heap.size) :
  Calls Tryz.prog 54 #[.iface 86 (.pointer (some ⟨R,0,none⟩))] W fun e W' =>∃ x v' l',e = .returned (.iface 3 (.int .i64 (x:Nat)))∧RS B R bl K lw v' l' W'∧(x :: l').Perm l∧Hp (kys lw l') l'.length∧Ht B R W v W' v'∧∀ y,y ∈ l→lw x≤lw y:=by
 have hm1:=mLen R;have hm2:=mSwap R;have hm3:=mPop R;obtain ⟨k,hk⟩:∃ k,l.length = k + 1:=⟨l.length - 1,by omega⟩;have hkl:=h.len;have hw1:wrap64 (k:Int) = (k:Int):=by simp only [wrap64];omega
 obtain ⟨x,hx⟩:∃ x,l[0]? = some x:=⟨_,zD0 hp⟩;have hmin:∀ y,y ∈ l→lw x≤lw y:=by
  intro y hy;obtain ⟨i,hi,rfl⟩:=List.getElem_of_mem hy;have:=hh.top i hi;unfold kys at this;rw [zE0,zE0,hx,zD0 hi] at this;exact this
 have hdn:=pop_dn hk hh;have hlen:=b4Q h;rw [hk] at hlen;have hswap:=a7E h 0 k qC0 qC0;have HLEN:=zA0 (show Calls Tryz.prog 53 #[.pointer (some ⟨R,0,none⟩)] W fun e W' =>e = .returned (.int .i64 ((k:Int) + 1))∧W' = W from hlen);have HSW:=zA0 (show Calls Tryz.prog 142 #[.pointer (some ⟨R,0,none⟩),.int .i64 0,.int .i64 (k:Nat)] W fun e W' =>e = .returned (.tuple #[])∧RS B R bl K lw v (swapL l 0 k) W'∧Ht B R W v W' v from hswap);have HDNI:=zA0 hdn;have HK:=zA0 hk;have HX:=zA0 hx;have HMIN:=zA0 hmin;have HB:=zA0 hB;clear hlen hswap hdn hk hx hmin hB h hh hp hkl;go_enter Tryz.func54,Tryz.ntmps54
 go_upto_region 3 with (first
  | (go_at_call 53;(with_reducible refine HLEN.out.mono ?_;rintro z w2 ⟨rfl,hw2⟩;obtain rfl:W = w2:=hw2.symm))
  | (go_at_call 142;(with_reducible refine HSW.out.mono ?_;rintro z w2 ⟨rfl,hrs2,hht2⟩;have HRS2:=zA0 hrs2;have HHT2:=zA0 hht2;clear hrs2 hht2)))
 have HDOWN:=zA0 (down_any HRS2.out k (by rw [a9A,HK.out];exact Nat.le_succ k) HDNI.out)
 go_upto_region 4 with (first
  | (go_at_call 77;(with_reducible refine HDOWN.out.mono ?_;rintro z w3 ⟨⟨b3,rfl⟩,l3,hrs3,hpm3,hhp3,hfar3,hht3⟩;have HRS3:=zA0 hrs3;have HPM3:=zA0 hpm3;have HHP3:=zA0 hhp3;have HHT3:=zA0 hht3;have HFAR3:=zA0 hfar3;clear hrs3 hpm3 hhp3 hht3 hfar3)))
 have hl3:l3.length = k + 1:=by rw [HPM3.out.length_eq,a9A];exact HK.out
 have hx3:l3[k]? = some x:=by
  rw [HFAR3.out k (zJ0 k)];unfold swapL;rw [List.getElem?_set,if_pos rfl,zV1,if_pos (by have:=HK.out;omega),zE0,HX.out];rfl
 have hpop:=pop_any HRS3.out qC0 (zF0 HB.out (HHT2.out.trans HHT3.out).be.size);have hlx:l3[l3.length - 1]'qC0 = x:=by
  obtain ⟨h1,h2⟩:=List.getElem?_eq_some_iff.1 hx3;have:l3.length - 1 = k:=by omega
  simp only [this];exact h2
 rw [hlx,show l3.length - 1 = k by omega] at hpop;have HPOP:=zA0 hpop;have HL3:=zA0 hl3;have HX3:=zA0 hx3;clear hpop hlx hl3 hx3
 go_wp2_with (first
  | (go_at_call 140;(with_reducible refine HPOP.out.mono ?_;rintro z w4 ⟨rfl,v4,hrs4,hht4⟩;have HRS4:=zA0 hrs4;have HHT4:=zA0 hht4;clear hrs4 hht4)))
 go_ret;exact ⟨x,v4,l3.take k,rfl,HRS4.out,pop_perm HL3.out HX3.out (HPM3.out.trans (a7R l 0 k (by have:=HK.out;omega) (by have:=HK.out;omega))),take_hp (by have:=HL3.out;omega) HHP3.out,(HHT2.out.trans HHT3.out).trans HHT4.out,HMIN.out⟩
def ix9 (bo bof M n mm:Nat) (g:List (List Int)) (cls:Nat→Nat) (v:Nat→Value) (i:Nat):Value:=match i with | 0 =>.slice (some ⟨bo,0,none⟩) M M | 1 =>.slice (some ⟨bof,0,none⟩) g.length g.length | 2 =>.int .i64 (n:Nat) | 3 =>.pointer (some ⟨bof,n,none⟩) | 4 =>.int .i64 (cls n:Nat) | 5 =>.slice (some ⟨bo,0,none⟩) M M | 6 =>.slice (some ⟨bof,0,none⟩) g.length g.length | 7 =>.int .i64 (n:Nat) | 8 =>.pointer (some ⟨bof,n,none⟩) | 9 =>.int .i64 (cls n:Nat) | 10 =>.pointer (some ⟨bo,cls n,none⟩) | 11 =>v (cls n) | 12 =>.slice (some ⟨bof,0,none⟩) g.length g.length | 13 =>.int .i64 (mm:Nat) | 14 =>.pointer (some ⟨bof,mm,none⟩) | 15 =>.int .i64 (cls mm:Nat) | 18 =>.pointer (some ⟨bo,cls n,none⟩) | _ =>undef
def cst9 (i:Nat):Bool:=i != 16 && i != 17 && i != 19
structure S9 (B bo bof M n mm:Nat) (g:List (List Int)) (cls:Nat→Nat) (v:Nat→Value) (r:Nat→List Nat) (W:World) (done:Nat→Bool) (val:Nat→Value) (Z:World):Prop where
 of:W.heap[bof]? = some (.cells (ints g.length cls) 3 (0,0))
 lo:bof < B
 fd:FD B bo M v r W
 vv:∀ i,done i = true→cst9 i = true→val i = ix9 bo bof M n mm g cls v i
 n11:done 11 = false→done 17 = false
 n16:done 16 = false→done 17 = false
 n17:done 17 = false→done 19 = false
 pz:done 17 = false→Below W.heap.size W Z
 b16:done 16 = true→done 17 = false→∃ Z0,Z = Z0.alloc (.cells #[.int .i64 (cls mm:Nat)] 3)∧val 16 = .slice (some ⟨Z0.heap.size,0,none⟩) 1 1∧Below W.heap.size W Z0
 s17:done 17 = true→done 19 = false→∃ v1,val 17 = v1∧kI.R 3 Z B (fun k =>k≠bo) v1 (toI (r (cls n) ++ [cls mm]))∧W.grownBy Z (v (cls n)).ownBlock∧(v1.ownBlock = (v (cls n)).ownBlock∨∃ b,v1.ownBlock = some b∧W.heap.size≤b)∧Below B W Z
 s19:done 19 = true→∃ v1,FD B bo M (Tarj.upd v (cls n) v1) (Tarj.upd r (cls n) (r (cls n) ++ [cls mm])) Z∧Below B W Z
section
variable {B bo bof M n mm:Nat} {g:List (List Int)} {cls:Nat→Nat} {v:Nat→Value} {r:Nat→List Nat} {W Z:World} {done:Nat→Bool} {val:Nat→Value}
theorem S9.start (of:W.heap[bof]? = some (.cells (ints g.length cls) 3 (0,0))) (lo:bof < B) (fd:FD B bo M v r W):S9 B bo bof M n mm g cls v r W (fun _ =>false) (fun _ =>undef) { W with drawn:=W.drawn + 1 } :=
 ⟨of,lo,fd,by simp,fun _ =>rfl,fun _ =>rfl,fun _ =>rfl,fun _ =>(zG0 W.heap.size W).drew,by simp,by simp,by simp⟩
theorem S9.v0 (h:S9 B bo bof M n mm g cls v r W done val Z) (hd:done 0 = true):val 0 = .slice (some ⟨bo,0,none⟩) M M:=h.vv 0 hd qB0
theorem S9.v1 (h:S9 B bo bof M n mm g cls v r W done val Z) (hd:done 1 = true):val 1 = .slice (some ⟨bof,0,none⟩) g.length g.length:=h.vv 1 hd qB0
theorem S9.v2 (h:S9 B bo bof M n mm g cls v r W done val Z) (hd:done 2 = true):val 2 = .int .i64 (n:Nat):=h.vv 2 hd qB0
theorem S9.v3 (h:S9 B bo bof M n mm g cls v r W done val Z) (hd:done 3 = true):val 3 = .pointer (some ⟨bof,n,none⟩):=h.vv 3 hd qB0
theorem S9.v4 (h:S9 B bo bof M n mm g cls v r W done val Z) (hd:done 4 = true):val 4 = .int .i64 (cls n:Nat):=h.vv 4 hd qB0
theorem S9.v5 (h:S9 B bo bof M n mm g cls v r W done val Z) (hd:done 5 = true):val 5 = .slice (some ⟨bo,0,none⟩) M M:=h.vv 5 hd qB0
theorem S9.v6 (h:S9 B bo bof M n mm g cls v r W done val Z) (hd:done 6 = true):val 6 = .slice (some ⟨bof,0,none⟩) g.length g.length:=h.vv 6 hd qB0
theorem S9.v7 (h:S9 B bo bof M n mm g cls v r W done val Z) (hd:done 7 = true):val 7 = .int .i64 (n:Nat):=h.vv 7 hd qB0
theorem S9.v8 (h:S9 B bo bof M n mm g cls v r W done val Z) (hd:done 8 = true):val 8 = .pointer (some ⟨bof,n,none⟩):=h.vv 8 hd qB0
theorem S9.v9 (h:S9 B bo bof M n mm g cls v r W done val Z) (hd:done 9 = true):val 9 = .int .i64 (cls n:Nat):=h.vv 9 hd qB0
theorem S9.v10 (h:S9 B bo bof M n mm g cls v r W done val Z) (hd:done 10 = true):val 10 = .pointer (some ⟨bo,cls n,none⟩):=h.vv 10 hd qB0
theorem S9.v11 (h:S9 B bo bof M n mm g cls v r W done val Z) (hd:done 11 = true):val 11 = v (cls n):=h.vv 11 hd qB0
theorem S9.v12 (h:S9 B bo bof M n mm g cls v r W done val Z) (hd:done 12 = true):val 12 = .slice (some ⟨bof,0,none⟩) g.length g.length:=h.vv 12 hd qB0
theorem S9.v13 (h:S9 B bo bof M n mm g cls v r W done val Z) (hd:done 13 = true):val 13 = .int .i64 (mm:Nat):=h.vv 13 hd qB0
theorem S9.v14 (h:S9 B bo bof M n mm g cls v r W done val Z) (hd:done 14 = true):val 14 = .pointer (some ⟨bof,mm,none⟩):=h.vv 14 hd qB0
theorem S9.v15 (h:S9 B bo bof M n mm g cls v r W done val Z) (hd:done 15 = true):val 15 = .int .i64 (cls mm:Nat):=h.vv 15 hd qB0
theorem S9.v18 (h:S9 B bo bof M n mm g cls v r W done val Z) (hd:done 18 = true):val 18 = .pointer (some ⟨bo,cls n,none⟩):=h.vv 18 hd qB0
theorem S9.do_ (h:S9 B bo bof M n mm g cls v r W done val Z) (i:Nat) (hc:cst9 i = true) {x:Value} (hx:x = ix9 bo bof M n mm g cls v i):S9 B bo bof M n mm g cls v r W (upd done i) (setv val i x) Z:=by
 have e16:i≠16:=by rintro rfl;cases hc
 have e17:i≠17:=by rintro rfl;cases hc
 have e19:i≠19:=by rintro rfl;cases hc
 refine ⟨h.of,h.lo,h.fd,fun j hj hcj =>?_,?_,?_,?_,?_,?_,?_,?_⟩
 ·simp only [upd,setv] at hj ⊢;by_cases e:j = i
  ·rw [if_pos e,e];exact hx
  ·rw [if_neg e] at hj ⊢;exact h.vv j hj hcj
 all_goals simp only [upd,setv,if_neg (Ne.symm e16),if_neg (Ne.symm e17),if_neg (Ne.symm e19)]
 ·by_cases e:11 = i
  ·rw [if_pos e];exact fun q =>by cases q
  ·rw [if_neg e];exact h.n11
 ·exact h.n16
 ·exact h.n17
 ·exact h.pz
 ·exact h.b16
 ·exact h.s17
 ·exact h.s19
theorem S9.bB (h:S9 B bo bof M n mm g cls v r W done val Z):Below B W Z:=by
 have hb:B≤W.heap.size:=zF0 h.fd.b (zD2 (a0X h.fd.o));cases e7:done 17 with
 | false =>exact (h.pz e7).mono hb
 | true =>
  cases e9:done 19 with
  | false =>obtain ⟨_,_,_,_,_,q⟩:=h.s17 e7 e9;exact q
  | true =>obtain ⟨_,_,q⟩:=h.s19 e9;exact q
theorem S9.rd (h:S9 B bo bof M n mm g cls v r W done val Z) {j:Nat} (hj:j < g.length):Z.cell? ⟨bof,j,none⟩ = some (.int .i64 (cls j:Nat)) :=
 (a0I ((h.bB.block bof h.lo).trans h.of) j).trans (a2D _ hj)
theorem S9.rdo (h:S9 B bo bof M n mm g cls v r W done val Z) (h11:done 11 = false) (hcn:cls n < M):Z.cell? ⟨bo,cls n,none⟩ = some (v (cls n)) :=
 ((h.fd.below (h.pz (h.n11 h11))).cell hcn).1
theorem S9.do16 (h:S9 B bo bof M n mm g cls v r W done val Z) (hd:done 16 = false):S9 B bo bof M n mm g cls v r W (upd done 16) (setv val 16 (.slice (some ⟨Z.heap.size,0,none⟩) 1 1)) (Z.alloc (.cells #[.int .i64 (cls mm:Nat)] 3)):=by
 have h17:=h.n16 hd;have h19:=h.n17 h17;refine ⟨h.of,h.lo,h.fd,fun j hj hcj =>?_,?_,?_,?_,?_,?_,?_,?_⟩
 ·have e:j≠16:=by rintro rfl;cases hcj
  simp only [upd,setv,if_neg e] at hj ⊢;exact h.vv j hj hcj
 all_goals simp only [upd,setv,if_true,if_neg (show (11:Nat)≠16 by decide),if_neg (show (17:Nat)≠16 by decide),if_neg (show (19:Nat)≠16 by decide)]
 ·exact h.n11
 ·exact fun q =>by cases q
 ·exact h.n17
 ·exact fun q =>a0D (h.pz q) _
 ·exact fun _ q =>⟨Z,rfl,rfl,h.pz q⟩
 ·intro q;rw [h17] at q;cases q
 ·intro q;rw [h19] at q;cases q
theorem S9.do17 {Z0 w1:World} {v1:Value} (h:S9 B bo bof M n mm g cls v r W done val Z) (h11:done 11 = true) (h16:done 16 = true) (hd:done 17 = false) (hb0:Below W.heap.size W Z0)
  (hr:kI.R 3 w1 B (fun k =>k≠bo) v1 (toI (r (cls n)) ++ [((cls mm:Nat):Int)])) (hb:Below B W w1) (hg:Z0.grownBy w1 (v (cls n)).ownBlock) (hat:v1.ownBlock = (v (cls n)).ownBlock∨∃ b,v1.ownBlock = some b∧Z0.heap.size≤b) :
  S9 B bo bof M n mm g cls v r W (upd done 17) (setv val 17 v1) w1:=by
 have h19:=h.n17 hd;have hgW:W.grownBy w1 (v (cls n)).ownBlock:=⟨hb.os,hb.tape,hb.output,hb.size,fun k hk hne =>(hg.block k (zP1 hk hb0.size) hne).trans (hb0.block k hk)⟩;refine ⟨h.of,h.lo,h.fd,fun j hj hcj =>?_,?_,?_,?_,?_,?_,?_,?_⟩
 ·have e:j≠17:=by rintro rfl;cases hcj
  simp only [upd,setv,if_neg e] at hj ⊢;exact h.vv j hj hcj
 all_goals simp only [upd,setv,if_true,if_neg (show (11:Nat)≠17 by decide),if_neg (show (16:Nat)≠17 by decide),if_neg (show (19:Nat)≠17 by decide)]
 ·intro q;rw [h11] at q;cases q
 ·intro q;rw [h16] at q;cases q
 ·exact fun q =>by cases q
 ·exact fun q =>by cases q
 ·exact fun _ q =>by cases q
 ·exact fun _ _ =>⟨v1,rfl,by simpa [toI] using hr,hgW,hat.imp_right (fun ⟨b,e,hle⟩ =>⟨b,e,zF0 hb0.size hle⟩),hb⟩
 ·intro q;rw [h19] at q;cases q
theorem S9.at17 (h:S9 B bo bof M n mm g cls v r W done val Z) (h17:done 17 = true) (h19:done 19 = false) (hcn:cls n < M) :
  ∃ A9 n9 c9,val 17 = .slice A9 n9 c9∧Z.cell? ⟨bo,cls n,none⟩ = some (v (cls n))∧Z.frozen? ⟨bo,cls n,none⟩ = false:=by
 obtain ⟨v1,e,hr,hg,_,_⟩:=h.s17 h17 h19;obtain ⟨A,c,e2,_,_⟩:=Kd.a2R hr;have ho:=a1D h.fd.o hg (h.fd.ne hcn);exact ⟨A,_,c,e.trans e2,(a0I ho _).trans (a6I _ hcn),a0K ho _⟩
theorem S9.do19 (h:S9 B bo bof M n mm g cls v r W done val Z) (h17:done 17 = true) (hd:done 19 = false) (hcn:cls n < M) {x v1:Value} (hv:val 17 = v1) :
  S9 B bo bof M n mm g cls v r W (upd done 19) (setv val 19 x) (Z.setCell ⟨bo,cls n,none⟩ v1):=by
 obtain ⟨v2,e,hr,hg,hat,hb⟩:=h.s17 h17 hd;obtain rfl:v1 = v2:=hv.symm.trans e;refine ⟨h.of,h.lo,h.fd,fun j hj hcj =>?_,?_,?_,?_,?_,?_,?_,?_⟩
 ·have e:j≠19:=by rintro rfl;cases hcj
  simp only [upd,setv,if_neg e] at hj ⊢;exact h.vv j hj hcj
 all_goals simp only [upd,setv,if_true,if_neg (show (11:Nat)≠19 by decide),if_neg (show (16:Nat)≠19 by decide),if_neg (show (17:Nat)≠19 by decide)]
 ·exact h.n11
 ·exact h.n16
 ·intro q;rw [h17] at q;cases q
 ·intro q;rw [h17] at q;cases q
 ·intro _ q;rw [h17] at q;cases q
 ·exact fun _ q =>by cases q
 ·exact fun _ =>⟨v1,h.fd.put hcn hr hg hat,h.fd.b2Y hcn v1 hg hb⟩
end
def rowIns (cls:Nat→Nat) (n:Nat) (r:Nat→List Nat) (m:Nat):Nat→List Nat:=if cls m = cls n then r else Tarj.upd r (cls n) (r (cls n) ++ [cls m])
def rowsAt (cls:Nat→Nat) (adj:Nat→List Nat) (n:Nat):Nat→List Nat:=(List.range n).foldl (fun r x =>(adj x).foldl (rowIns cls x) r) (fun _ =>[])
theorem b6M (cls:Nat→Nat) (n:Nat) (r:Nat→List Nat) (m c:Nat) (h:∀ i,(r i).length≤c):∀ i,(rowIns cls n r m i).length≤c + 1:=by
 intro i;unfold rowIns
 split
 ·exact Nat.le_succ_of_le (h i)
 ·simp only [Tarj.upd]
  split
  ·rw [zO0];exact Nat.succ_le_succ (h _)
  ·exact Nat.le_succ_of_le (h i)
def cmpN (l:List Nat):List Nat:=(Go.Lib.compact (srt (toI l))).map Int.toNat
theorem b5P (d:Array Int):∀ m,m≤d.size→∀ x,x ∈ Go.Lib.compactUpTo d m→x ∈ d.toList
 | 0,_,x,h =>by simp [Go.Lib.compactUpTo] at h
 | m + 1,hm,x,h =>by
  rw [Go.Lib.compactUpTo_succ,zT0] at h;rcases h with h | h
  ·exact b5P d m (Nat.le_of_succ_le hm) x h
  ·split at h
   ·rw [zA1] at h;subst h;rw [getElem!_pos d m hm];exact Array.getElem_mem_toList hm
   ·cases h
theorem b4N {l:List Int} {x:Int} (h:x ∈ Go.Lib.compact l):x ∈ l:=by
 have:=b5P l.toArray l.length qE0 x h;simpa using this
theorem a8J (l:List Nat):toI (cmpN l) = Go.Lib.compact (srt (toI l)):=by
 unfold cmpN toI;rw [List.map_map];have key:∀ L:List Int,(∀ x,x ∈ L→0≤x)→L.map (Int.ofNat ∘ Int.toNat) = L:=by
  intro L
  induction L with
  | nil =>intro _;rfl
  | cons a q ih =>
   intro h;rw [zI2,ih (fun x hx =>h x (zP0 _ hx))];have:=h a zN0;simp only [Function.comp,Int.ofNat_eq_natCast];rw [Int.toNat_of_nonneg this]
 refine key _ (fun x hx =>?_);have h1:=b4N hx;rw [show (List.map Int.ofNat l) = toI l from rfl,b1J] at h1;obtain ⟨y,_,rfl⟩:=zW2.1 h1;exact zH0 y
theorem own_sl {w:World} {base e size n:Nat} {v:Value} {xs:List Value} (h:w.ownsRow base e size v n xs):∃ A n' c,v = .slice A n' c:=by
 rcases h.2 with ⟨rfl,_⟩ | ⟨g,cap,cur,rfl,_⟩ <;> exact ⟨_,_,_,rfl⟩
structure FL (B bo M:Nat) (v:Nat→Value) (r:Nat→List Nat) (W0 W:World):Prop where
 fd:FD B bo M v r W
 be:Below B W0 W
theorem b5W (g:List (List Int)) (hgo:GOk g) (A:Option Addr) (c bof M:Nat) (cls:Nat→Nat) (W:World) (hg:Kd.F kL W (fun k =>k < W.heap.size) A g.length g) (hof:W.heap[bof]? = some (.cells (ints g.length cls) 3 (0,0)))
  (hM:M≤1000) (hcl:∀ x,x < g.length→cls x < M) (hlc:g.length≤c) :
  Calls Tryz.prog 50 #[.slice A g.length c,.slice (some ⟨bof,0,none⟩) g.length g.length,.int .i64 (M:Nat)] W fun e W' =>∃ bo,e = .returned (.slice (some ⟨bo,0,none⟩) M M)∧(∃ v,FD W.heap.size bo M v (fun i =>cmpN (rowsAt cls (adjF g) g.length i)) W')∧Below W.heap.size W W':=by
 have hMl:=a3M (P:=Tryz.prog) 39 43 (.slice none 0 0) 24 Tryz.underlying39 infoL rfl qB0 (M:Int) (zH0 M) qW1;rw [zK0] at hMl;have hmade:madeCells #[(.slice none 0 0:Value)] M = vals M (fun _ =>.slice none 0 0):=by
  unfold madeCells vals;apply Array.ext_getElem?;intro j;by_cases hj:j < M
  ·simp [hj,Nat.mod_one]
  ·simp [hj]
 rw [hmade] at hMl;have hbo:FD W.heap.size W.heap.size M (fun _ =>.slice none 0 0) (fun _ =>[]) (W.alloc (.cells (vals M (fun _ =>.slice none 0 0)) 43)):=FD.made (zJ0 _);have hbe:Below W.heap.size W (W.alloc (.cells (vals M (fun _ =>.slice none 0 0)) 43)):=a0D (zG0 _ _) _;have hbl:bof < W.heap.size:=a0X hof;have GO:=zA0 hgo;have HG:=zA0 hg;have HOF:=zA0 hof;have HCL:=zA0 hcl;have HBL:=zA0 hbl;have FL0:=zA0 (show FL W.heap.size W.heap.size M (fun _ =>.slice none 0 0) (fun _ =>[]) W (W.alloc (.cells (vals M (fun _ =>.slice none 0 0)) 43)) from ⟨hbo,hbe⟩);have hgl:=hgo.len;clear hmade hbo hbe hgo hg hof hcl hbl;go_enter Tryz.func50,Tryz.ntmps50
 go_upto_region 2 with (fail)
 generalize W.alloc (.cells (vals M (fun _ =>.slice none 0 0)) 43) = W2 at FL0 ⊢;obtain ⟨bo,hbo⟩:∃ bo,W.heap.size = bo:=⟨_,rfl⟩;rw [hbo] at FL0 HG HBL ⊢;have HBO:=zA0 hbo;clear hbo hMl;go_wp2;go_loopg [18] g.length (fun kq v18 w' =>∃ (n:Nat) (v:Nat→Value),n + kq = g.length∧v18 = .int .i64 (n:Nat)∧(∀ i,(rowsAt cls (adjF g) n i).length≤n * 1000)∧Hid (FL bo bo M v (rowsAt cls (adjF g) n) W w'))
 case atStart =>exact ⟨0,_,by omega,rfl,fun i =>zG2 _,FL0⟩
 case round =>
  obtain ⟨n,v0,hn',rfl,hrl,HL⟩:=hrel;by_cases hn:n < g.length
  ·have hn0:(0:Int)≤(n:Int):=zH0 n;have hGr:=Kd.a4L (W1:=wr) HG.out (fun k hk _ =>HL.out.be.block k hk);obtain ⟨ad,A0,c0,eA,hrow,hle,hF0⟩:=rowA hGr n hn;subst eA;obtain ⟨row,hrw⟩:∃ r,r = g.getD n []:=⟨_,rfl⟩;rw [← hrw] at hrow hle hF0;have FR:=zA0 hF0;have RW:=zA0 hrw;have hrlen:row.length≤1000:=by rw [hrw];exact GO.out.row n
   obtain ⟨k1,rfl⟩:∃ k1,gk = k1 + 1:=⟨gk - 1,by omega⟩;clear hGr hF0 hrw;go_wp2;have HL0:=zA0 (show FL bo bo M v0 (((adjF g n).take 0).foldl (rowIns cls n) (rowsAt cls (adjF g) n)) W wr from by rw [zO2];exact HL.out);have hrl0:∀ i,(((adjF g n).take 0).foldl (rowIns cls n) (rowsAt cls (adjF g) n) i).length≤n * 1000 + 0:=by rw [zO2];exact hrl
   have HRL:=zA0 hrl;have FR1:=zA0 (show ∀ W',(∀ k,k < bo→W'.heap[k]? = wr.heap[k]?)→Kd.F kI W' (fun k =>k < bo) A0 row.length row from fun W' h =>Kd.a4L FR.out (fun k hk _ =>h k hk));have HLW:=zA0 (show ∀ k,k < bo→wr.heap[k]? = W.heap[k]? from fun k hk =>HL.out.be.block k hk);clear hrl HL FR hrow;generalize wr = wr0 at FR1 HLW HL0 ⊢;go_loopg [25] row.length (fun kq v25 w' =>∃ (j:Nat) (v:Nat→Value),j + kq = row.length∧v25 = .int .i64 (j:Nat)∧(∀ i,(((adjF g n).take j).foldl (rowIns cls n) (rowsAt cls (adjF g) n) i).length≤n * 1000 + j)∧Hid (FL bo bo M v (((adjF g n).take j).foldl (rowIns cls n) (rowsAt cls (adjF g) n)) W w'))
   case atStart =>exact ⟨0,v0,by omega,rfl,hrl0,HL0⟩
   case round =>
    obtain ⟨j,v,hj,rfl,hrj,HJ⟩:=hrel;clear HL0 hrl0;have hkw:∀ k,k < bo→wr.heap[k]? = wr0.heap[k]?:=fun k hk =>(HJ.out.be.block k hk).trans (HLW.out k hk).symm
    by_cases hlt:j < row.length
    ·obtain ⟨ad0,eA0,hm⟩:=Kd.a3B (Kd.a4M (FR1.out wr hkw)) (j:Int) (zH0 j) (zW1.2 hlt);subst eA0;rw [zK0] at hm;obtain ⟨mm,emm,hmm,hmj⟩:∃ mm:Nat,rd row (j:Int) = (mm:Int)∧mm < g.length∧(adjF g n)[j]? = some mm:=by
      have RW':=RW.out;have hlt':j < (g.getD n []).length:=by rw [← RW'];exact hlt
      obtain ⟨m0,m1⟩:=GO.out.ent n hn _ (zD1 hlt');refine ⟨((g.getD n [])[j]).toNat,?_,by omega,by unfold adjF;rw [List.getElem?_map,zD0 hlt'];rfl⟩;unfold rd;rw [RW',zK0,zE0 (l:=g.getD n []),zD0 hlt',zL2];omega
     rw [emm] at hm;clear emm hkw;have HMJ:=zA0 hmj;have hmm0:(0:Int)≤(mm:Int):=zH0 mm;have hw:=pzS j (zF0 (zD2 hlt) hrlen);have hcn:cls n < M:=HCL.out n hn;have hcm:cls mm < M:=HCL.out mm hmm;have hcn0:(0:Int)≤(cls n:Int):=zH0 _;have hofw:wr.heap[bof]? = some (.cells (ints g.length cls) 3 (0,0)):=(HJ.out.be.block bof HBL.out).trans HOF.out;have HOFW:=zA0 hofw;have z1:=(a0I hofw n).trans (a2D _ hn);have z2:=(a0I hofw mm).trans (a2D _ hmm);have HRJ:=zA0 hrj;obtain ⟨k2,rfl⟩:∃ k2,gk = k2 + 1:=⟨gk - 1,by omega⟩;clear hmj hofw hrj;have hstep:((adjF g n).take (j + 1)).foldl (rowIns cls n) (rowsAt cls (adjF g) n) = rowIns cls n (((adjF g n).take j).foldl (rowIns cls n) (rowsAt cls (adjF g) n)) mm:=by
      obtain ⟨h1,h2⟩:=List.getElem?_eq_some_iff.1 HMJ.out;rw [zB1 h1,List.foldl_append,h2];rfl
     have HSTEP:=zA0 hstep;clear hstep;by_cases heq:cls mm = cls n
     ·have hne:((cls mm:Int) != (cls n:Int)) = false:=by simp [heq]
      have HEQ:=zA0 heq;clear heq;go_upto_region 8 with (fail)
      go_quiet (fail)
      have hl5:FL bo bo M v (((adjF g n).take (j + 1)).foldl (rowIns cls n) (rowsAt cls (adjF g) n)) W (wr.drewN nq):=by
       rw [HSTEP.out];unfold rowIns;rw [if_pos HEQ.out];exact ⟨HJ.out.fd.below (a0C (zG0 _ _) nq),HJ.out.be.trans (a0C (zG0 _ _) nq)⟩
      have HL5:=zA0 hl5;have hr5:∀ i,(((adjF g n).take (j + 1)).foldl (rowIns cls n) (rowsAt cls (adjF g) n) i).length≤n * 1000 + (j + 1):=by
       rw [HSTEP.out];unfold rowIns;rw [if_pos HEQ.out];exact fun i =>Nat.le_succ_of_le (HRJ.out i)
      clear hl5 z1 z2 hm;go_wp2;go_roundg k2
      case measure =>exact zS0 _
      case rel =>exact ⟨j + 1,v,by rw [zY0,zJ1 1];exact hj,by first | rw [hw] | simp [hw],hr5,HL5⟩
     ·have hne:((cls mm:Int) != (cls n:Int)) = true:=by simpa using (fun h =>heq qC0)
      have HEQ:=zA0 heq;clear heq;go_upto_region 8 with (fail)
      go_quiet (fail)
      have hl5:=HJ.out.fd.below (a0C (zG0 wr.heap.size wr) nq);have hb5:=HJ.out.be.trans (a0C (zG0 bo wr) nq);have hof5:=(a0C (zG0 bo wr) nq).block bof HBL.out;rw [HOFW.out] at hof5;clear z1 z2 hm;generalize wr.drewN nq = W5 at hl5 hb5 hof5 ⊢;obtain ⟨r,hr⟩:∃ r,r = ((adjF g n).take j).foldl (rowIns cls n) (rowsAt cls (adjF g) n):=⟨_,rfl⟩;have HR:=zA0 hr;have hlr:((toI (r (cls n))).length + 1) * 8≤140737488355328:=by
       have:=HRJ.out (cls n);rw [← hr] at this;rw [a1E];have h2:n≤1000:=by have:=GO.out.len;omega
       have h3:n * 1000≤1000 * 1000:=zM1 _ h2;omega
      have HLR:=zA0 hlr;rw [← hr] at hl5;have HFD:=zA0 hl5;have HB5:=zA0 hb5;have HOF5:=zA0 hof5;have HB9:=zA0 (show bo≤W5.heap.size from zD2 (a0X hl5.o));clear hl5 hb5 hof5 hr hlr;go_upto_region 9 with (fail)
      refine (wpIn_wide (n:=5)).1 ?_;refine wpIn_region_any mixedO ?_;refine a1X _ (fun _ =>undef) (fun done val Z =>S9 bo bo bof M n mm g cls v r W5 done val Z) rfl qF0 _ ?hz9 ?st9 ?en9
      case hz9 =>exact S9.start HOF5.out HBL.out HFD.out
      case st9 =>
       intro i o done val a Z ho hdn hdep hag hS K2 hK2;have hm:i < 20:=by
        by_cases h:i < 20
        ·exact h
        ·rw [Array.getElem?_eq_none qV0] at ho;cases ho
       obtain rfl | rfl | rfl | rfl | rfl | rfl | rfl | rfl | rfl | rfl | rfl | rfl | rfl | rfl | rfl | rfl | rfl | rfl | rfl | rfl:i = 0∨i = 1∨i = 2∨i = 3∨i = 4∨i = 5∨i = 6∨i = 7∨i = 8∨i = 9∨i = 10∨i = 11∨i = 12∨i = 13∨i = 14∨i = 15∨i = 16∨i = 17∨i = 18∨i = 19:=by omega
       ·cases ho;have e7:a.eval (.tmp 7) = .slice (some ⟨bo,0,none⟩) M M:=hag.keep 7 rfl;refine a0R (i:=0) (r:=.slice (some ⟨bo,0,none⟩) M M) (w':=Z) rfl rfl (fun c h =>by cases h) rfl ?_ (hK2 _ _ (hS.do_ 0 rfl rfl));have ec:∀ v,a.eval (.const v) = v:=fun _ =>rfl
        generalize a.eval = ev at *;simp [execOp,go_sem,ec,e7]
       ·cases ho;have e1:a.eval (.tmp 1) = .slice (some ⟨bof,0,none⟩) g.length g.length:=hag.keep 1 rfl;refine a0R (i:=1) (r:=.slice (some ⟨bof,0,none⟩) g.length g.length) (w':=Z) rfl rfl (fun c h =>by cases h) rfl ?_ (hK2 _ _ (hS.do_ 1 rfl rfl));have ec:∀ v,a.eval (.const v) = v:=fun _ =>rfl
        generalize a.eval = ev at *;simp [execOp,go_sem,ec,e1]
       ·cases ho;have e8:a.eval (.tmp 8) = .int .i64 (n:Nat):=hag.keep 8 rfl;refine a0R (i:=2) (r:=.int .i64 (n:Nat)) (w':=Z) rfl rfl (fun c h =>by cases h) rfl ?_ (hK2 _ _ (hS.do_ 2 rfl rfl));have ec:∀ v,a.eval (.const v) = v:=fun _ =>rfl
        generalize a.eval = ev at *;simp [execOp,go_sem,ec,e8]
       ·cases ho;have e39:=(hag.val_ (j:=1) (t:=39) rfl (hdep ⟨1,.data⟩ qE0 rfl)).trans (hS.v1 (hdep ⟨1,.data⟩ qE0 rfl));have e40:=(hag.val_ (j:=2) (t:=40) rfl (hdep ⟨2,.data⟩ qE0 rfl)).trans (hS.v2 (hdep ⟨2,.data⟩ qE0 rfl));refine a0F (i:=3) (r:=.pointer (some ⟨bof,n,none⟩)) (w':=Z) rfl rfl (fun c h =>by cases h) ?_ ?_ (hK2 _ _ (hS.do_ 3 rfl rfl))
        ·generalize a.eval = ev at *;simp [Oper.about,resolve,Target.leads,Sem.run_pure,go_sem,e39,e40,hn,hn0]
        ·have ec:∀ v,a.eval (.const v) = v:=fun _ =>rfl
         generalize a.eval = ev at *;simp [execOp,go_sem,ec,e39,e40,hn,hn0]
       ·cases ho;have e41:=(hag.val_ (j:=3) (t:=41) rfl (hdep ⟨3,.data⟩ qE0 rfl)).trans (hS.v3 (hdep ⟨3,.data⟩ qE0 rfl));have hz:=hS.rd hn;refine a0R (i:=4) (r:=.int .i64 (cls n:Nat)) (w':=Z) rfl rfl (fun c h =>by cases h) rfl ?_ (hK2 _ _ (hS.do_ 4 rfl rfl));have ec:∀ v,a.eval (.const v) = v:=fun _ =>rfl
        generalize a.eval = ev at *;simp [execOp,go_sem,ec,e41,hz]
       ·cases ho;have e7:a.eval (.tmp 7) = .slice (some ⟨bo,0,none⟩) M M:=hag.keep 7 rfl;refine a0R (i:=5) (r:=.slice (some ⟨bo,0,none⟩) M M) (w':=Z) rfl rfl (fun c h =>by cases h) rfl ?_ (hK2 _ _ (hS.do_ 5 rfl rfl));have ec:∀ v,a.eval (.const v) = v:=fun _ =>rfl
        generalize a.eval = ev at *;simp [execOp,go_sem,ec,e7]
       ·cases ho;have e1:a.eval (.tmp 1) = .slice (some ⟨bof,0,none⟩) g.length g.length:=hag.keep 1 rfl;refine a0R (i:=6) (r:=.slice (some ⟨bof,0,none⟩) g.length g.length) (w':=Z) rfl rfl (fun c h =>by cases h) rfl ?_ (hK2 _ _ (hS.do_ 6 rfl rfl));have ec:∀ v,a.eval (.const v) = v:=fun _ =>rfl
        generalize a.eval = ev at *;simp [execOp,go_sem,ec,e1]
       ·cases ho;have e8:a.eval (.tmp 8) = .int .i64 (n:Nat):=hag.keep 8 rfl;refine a0R (i:=7) (r:=.int .i64 (n:Nat)) (w':=Z) rfl rfl (fun c h =>by cases h) rfl ?_ (hK2 _ _ (hS.do_ 7 rfl rfl));have ec:∀ v,a.eval (.const v) = v:=fun _ =>rfl
        generalize a.eval = ev at *;simp [execOp,go_sem,ec,e8]
       ·cases ho;have e44:=(hag.val_ (j:=6) (t:=44) rfl (hdep ⟨6,.data⟩ qE0 rfl)).trans (hS.v6 (hdep ⟨6,.data⟩ qE0 rfl));have e45:=(hag.val_ (j:=7) (t:=45) rfl (hdep ⟨7,.data⟩ qE0 rfl)).trans (hS.v7 (hdep ⟨7,.data⟩ qE0 rfl));refine a0F (i:=8) (r:=.pointer (some ⟨bof,n,none⟩)) (w':=Z) rfl rfl (fun c h =>by cases h) ?_ ?_ (hK2 _ _ (hS.do_ 8 rfl rfl))
        ·generalize a.eval = ev at *;simp [Oper.about,resolve,Target.leads,Sem.run_pure,go_sem,e44,e45,hn,hn0]
        ·have ec:∀ v,a.eval (.const v) = v:=fun _ =>rfl
         generalize a.eval = ev at *;simp [execOp,go_sem,ec,e44,e45,hn,hn0]
       ·cases ho;have e46:=(hag.val_ (j:=8) (t:=46) rfl (hdep ⟨8,.data⟩ qE0 rfl)).trans (hS.v8 (hdep ⟨8,.data⟩ qE0 rfl));have hz:=hS.rd hn;refine a0R (i:=9) (r:=.int .i64 (cls n:Nat)) (w':=Z) rfl rfl (fun c h =>by cases h) rfl ?_ (hK2 _ _ (hS.do_ 9 rfl rfl));have ec:∀ v,a.eval (.const v) = v:=fun _ =>rfl
        generalize a.eval = ev at *;simp [execOp,go_sem,ec,e46,hz]
       ·cases ho;have e43:=(hag.val_ (j:=5) (t:=43) rfl (hdep ⟨5,.data⟩ qE0 rfl)).trans (hS.v5 (hdep ⟨5,.data⟩ qE0 rfl));have e47:=(hag.val_ (j:=9) (t:=47) rfl (hdep ⟨9,.data⟩ qE0 rfl)).trans (hS.v9 (hdep ⟨9,.data⟩ qE0 rfl));refine a0F (i:=10) (r:=.pointer (some ⟨bo,cls n,none⟩)) (w':=Z) rfl rfl (fun c h =>by cases h) ?_ ?_ (hK2 _ _ (hS.do_ 10 rfl rfl))
        ·generalize a.eval = ev at *;simp [Oper.about,resolve,Target.leads,Sem.run_pure,go_sem,e43,e47,hcn,hcn0]
        ·have ec:∀ v,a.eval (.const v) = v:=fun _ =>rfl
         generalize a.eval = ev at *;simp [execOp,go_sem,ec,e43,e47,hcn,hcn0]
       ·cases ho;have e48:=(hag.val_ (j:=10) (t:=48) rfl (hdep ⟨10,.data⟩ qE0 rfl)).trans (hS.v10 (hdep ⟨10,.data⟩ qE0 rfl));have hz:=hS.rdo hdn hcn;refine a0R (i:=11) (r:=v (cls n)) (w':=Z) rfl rfl (fun c h =>by cases h) rfl ?_ (hK2 _ _ (hS.do_ 11 rfl rfl));have ec:∀ v,a.eval (.const v) = v:=fun _ =>rfl
        generalize a.eval = ev at *;simp [execOp,go_sem,ec,e48,hz]
       ·cases ho;have e1:a.eval (.tmp 1) = .slice (some ⟨bof,0,none⟩) g.length g.length:=hag.keep 1 rfl;refine a0R (i:=12) (r:=.slice (some ⟨bof,0,none⟩) g.length g.length) (w':=Z) rfl rfl (fun c h =>by cases h) rfl ?_ (hK2 _ _ (hS.do_ 12 rfl rfl));have ec:∀ v,a.eval (.const v) = v:=fun _ =>rfl
        generalize a.eval = ev at *;simp [execOp,go_sem,ec,e1]
       ·cases ho;have e11:a.eval (.tmp 11) = .int .i64 (mm:Nat):=hag.keep 11 rfl;refine a0R (i:=13) (r:=.int .i64 (mm:Nat)) (w':=Z) rfl rfl (fun c h =>by cases h) rfl ?_ (hK2 _ _ (hS.do_ 13 rfl rfl));have ec:∀ v,a.eval (.const v) = v:=fun _ =>rfl
        generalize a.eval = ev at *;simp [execOp,go_sem,ec,e11]
       ·cases ho;have e50:=(hag.val_ (j:=12) (t:=50) rfl (hdep ⟨12,.data⟩ qE0 rfl)).trans (hS.v12 (hdep ⟨12,.data⟩ qE0 rfl));have e51:=(hag.val_ (j:=13) (t:=51) rfl (hdep ⟨13,.data⟩ qE0 rfl)).trans (hS.v13 (hdep ⟨13,.data⟩ qE0 rfl));refine a0F (i:=14) (r:=.pointer (some ⟨bof,mm,none⟩)) (w':=Z) rfl rfl (fun c h =>by cases h) ?_ ?_ (hK2 _ _ (hS.do_ 14 rfl rfl))
        ·generalize a.eval = ev at *;simp [Oper.about,resolve,Target.leads,Sem.run_pure,go_sem,e50,e51,hmm,hmm0]
        ·have ec:∀ v,a.eval (.const v) = v:=fun _ =>rfl
         generalize a.eval = ev at *;simp [execOp,go_sem,ec,e50,e51,hmm,hmm0]
       ·cases ho;have e52:=(hag.val_ (j:=14) (t:=52) rfl (hdep ⟨14,.data⟩ qE0 rfl)).trans (hS.v14 (hdep ⟨14,.data⟩ qE0 rfl));have hz:=hS.rd hmm;refine a0R (i:=15) (r:=.int .i64 (cls mm:Nat)) (w':=Z) rfl rfl (fun c h =>by cases h) rfl ?_ (hK2 _ _ (hS.do_ 15 rfl rfl));have ec:∀ v,a.eval (.const v) = v:=fun _ =>rfl
        generalize a.eval = ev at *;simp [execOp,go_sem,ec,e52,hz]
       ·cases ho;have e53:=(hag.val_ (j:=15) (t:=53) rfl (hdep ⟨15,.data⟩ qE0 rfl)).trans (hS.v15 (hdep ⟨15,.data⟩ qE0 rfl));refine a0R (i:=16) (r:=.slice (some ⟨Z.heap.size,0,none⟩) 1 1) (w':=Z.alloc (.cells #[.int .i64 (cls mm:Nat)] 3)) rfl rfl (fun c h =>by cases h) rfl ?_ (hK2 _ _ (hS.do16 hdn));generalize a.eval = ev at *;simp [execOp,go_sem,e53]
       ·cases ho;have e49:=(hag.val_ (j:=11) (t:=49) rfl (hdep ⟨11,.data⟩ qE0 rfl)).trans (hS.v11 (hdep ⟨11,.data⟩ qE0 rfl));have e54:=hag.val_ (j:=16) (t:=54) rfl (hdep ⟨16,.data⟩ qE0 rfl);have h16:=hdep ⟨16,.data⟩ qE0 rfl;have h11:=hdep ⟨11,.data⟩ qE0 rfl;obtain ⟨Z0,rfl,e16,hb0⟩:=hS.b16 h16 hdn;rw [e16] at e54;refine a3S (i:=17) (s:=.tmp 49) (x:=.tmp 54) (t:=43) (t':=43) rfl rfl rfl ?_;refine Kd.a5N kI bo (w0:=W5) rfl (.tmp 49) (.tmp 54) 43 3 (.int .i64 0) 8 rfl Tryz.underlying43 b1X rfl qB0 qB0 (v (cls n)) (toI (r (cls n))) ((cls mm:Nat):Int) [.int .i64 ((cls mm:Nat):Int)] (fun k =>k≠bo) (fun _ =>False) e49 e54 rfl (fun _ hk =>hk.elim) (fun k hk =>by have h1:=a0X HFD.out.o;have h2:=hb0.size;omega) ((HFD.out.below hb0).r _ hcn) (hb0.mono HB9.out) (zF0 HB9.out hb0.size) HLR.out ?_;exact fun v1 w1 hr hb hg hat =>hK2 v1 w1 (hS.do17 h11 h16 hdn hb0 hr hb hg hat)
       ·cases ho;have e38:=(hag.val_ (j:=0) (t:=38) rfl (hdep ⟨0,.data⟩ qE0 rfl)).trans (hS.v0 (hdep ⟨0,.data⟩ qE0 rfl));have e42:=(hag.val_ (j:=4) (t:=42) rfl (hdep ⟨4,.data⟩ qE0 rfl)).trans (hS.v4 (hdep ⟨4,.data⟩ qE0 rfl));refine a0F (i:=18) (r:=.pointer (some ⟨bo,cls n,none⟩)) (w':=Z) rfl rfl (fun c h =>by cases h) ?_ ?_ (hK2 _ _ (hS.do_ 18 rfl rfl))
        ·generalize a.eval = ev at *;simp [Oper.about,resolve,Target.leads,Sem.run_pure,go_sem,e38,e42,hcn,hcn0]
        ·have ec:∀ v,a.eval (.const v) = v:=fun _ =>rfl
         generalize a.eval = ev at *;simp [execOp,go_sem,ec,e38,e42,hcn,hcn0]
       ·cases ho;have e56:=(hag.val_ (j:=18) (t:=56) rfl (hdep ⟨18,.data⟩ qE0 rfl)).trans (hS.v18 (hdep ⟨18,.data⟩ qE0 rfl));have e55:=hag.val_ (j:=17) (t:=55) rfl (hdep ⟨17,.data⟩ qE0 rfl);have h17:=hdep ⟨17,.data⟩ qE0 rfl;obtain ⟨A9,n9,c9,e9,hz,hzf⟩:=hS.at17 h17 hdn hcn;rw [e9] at e55;refine a1Z (i:=19) rfl rfl (fun c h =>by cases h) rfl (w':=Z.setCell ⟨bo,cls n,none⟩ (.slice A9 n9 c9)) ?_ (hK2 _ _ (hS.do19 h17 hdn hcn e9));have ec:∀ v,a.eval (.const v) = v:=fun _ =>rfl
        generalize a.eval = ev at *;simp [execOp,go_sem,ec,e56,e55,hz,hzf]
      case en9 =>
       intro Z done val hdn hS;simp only [putTmps,dstOf,zQ1,zR0,zI1,Nat.reduceAdd,zS1,zF1,zL1,zU0,zL0,zV0,zW0];obtain ⟨v9,hfd9,hbe9⟩:=hS.s19 (hdn 19 qB0);have hl9:FL bo bo M (Tarj.upd v (cls n) v9) (((adjF g n).take (j + 1)).foldl (rowIns cls n) (rowsAt cls (adjF g) n)) W Z:=by
        rw [HSTEP.out,← HR.out];unfold rowIns;rw [if_neg HEQ.out];exact ⟨hfd9,HB5.out.trans hbe9⟩
       have hr9:∀ i,(((adjF g n).take (j + 1)).foldl (rowIns cls n) (rowsAt cls (adjF g) n) i).length≤n * 1000 + (j + 1):=by
        rw [HSTEP.out];exact b6M _ _ _ _ _ HRJ.out
       have HL9:=zA0 hl9;clear hl9 hfd9 hbe9 hdn hS;go_wp2;go_roundg k2
       case measure =>exact zS0 _
       case rel =>exact ⟨j + 1,_,by rw [zY0,zJ1 1];exact hj,by first | rw [hw] | simp [hw],hr9,HL9⟩
    ·have hje:j = row.length:=by omega
     have hla:(adjF g n).length = row.length:=by rw [RW.out];simp [adjF]
     have hrs:rowsAt cls (adjF g) (n + 1) = ((adjF g n).take j).foldl (rowIns cls n) (rowsAt cls (adjF g) n):=by
      rw [hje,← hla,zN1];unfold rowsAt;rw [List.range_succ,List.foldl_append];rfl
     have hr9:∀ i,(rowsAt cls (adjF g) (n + 1) i).length≤(n + 1) * 1000:=by
      rw [hrs];exact fun i =>zF0 (hrj i) qC0
     have HL9:=zA0 (show FL bo bo M v (rowsAt cls (adjF g) (n + 1)) W wr from by rw [hrs];exact HJ.out);have hw:=pzS n qC0;clear hrs hrj hje hla hkw;go_wp2;go_roundg k1
     case measure =>exact zS0 _
     case rel =>exact ⟨n + 1,v,by rw [zY0,zJ1 1];exact hn',by first | rw [hw] | simp [hw],hr9,HL9⟩
  ·have hne:n = g.length:=by omega
   subst hne;obtain ⟨r,hr⟩:∃ r,r = rowsAt cls (adjF g) g.length:=⟨_,rfl⟩;rw [← hr] at HL hrl;have HR:=zA0 hr;have HQ0:=zA0 (show FL bo bo M v0 (fun i =>if i < 0 then cmpN (r i) else r i) W wr from by simpa using HL.out);have hrl1:∀ i,(r i).length≤1000 * 1000:=fun i =>zF0 (hrl i) (zM1 _ hgl)
   have HRL:=zA0 hrl1;clear hrl hrl1 hr HL;go_wp2;go_loopg [61] M (fun kq v61 w' =>∃ (i:Nat) (v:Nat→Value),i + kq = M∧v61 = .int .i64 (i:Nat)∧Hid (FL bo bo M v (fun x =>if x < i then cmpN (r x) else r x) W w'))
   case atStart =>exact ⟨0,v0,by omega,rfl,HQ0⟩
   case round =>
    obtain ⟨i,v,hi',rfl,HI⟩:=hrel;clear HQ0;by_cases hi:i < M
    ·have hi0:(0:Int)≤(i:Int):=zH0 i;have hw:=pzS i qC0;obtain ⟨k1,rfl⟩:∃ k1,gk = k1 + 1:=⟨gk - 1,by omega⟩;have hri:=HI.out.fd.r i hi;simp only [zX1,if_false] at hri;obtain ⟨A7,c7,e7,hl7,_⟩:=Kd.a2R hri;rw [a1E] at e7 hl7;have z1:=(HI.out.fd.cell hi).1;rw [e7] at z1;have hrx:=HRL.out i;have hsort:=b1L (toI (r i)) (v i) bo wr (Kd.a2C hri) qU1;rw [b1J,e7] at hsort;have HSORT:=zA0 hsort;have HE7:=zA0 e7;have HRI:=zA0 hri;clear hsort e7 hri
     go_upto_region 16 with (first
      | (go_at_call 47;(with_reducible refine HSORT.out.mono ?_;rintro x w5 ⟨rfl,hown,hg5⟩;have hcomp:=a9T (toI (sortN (r i))) (.slice A7 (r i).length c7) bo w5 (by have h:=hown;rw [a1E] at h;rw [a1E,a7F];exact h) (by rw [a1E,a7F];omega);rw [← b1J,← a8J] at hcomp;have HCOMP:=zA0 hcomp;have HG5:=zA0 hg5;clear hown hg5 hcomp)))
     have HFD5:=zA0 (a1D HI.out.fd.o (by have:=HG5.out;rw [← HE7.out] at this;exact this) (HI.out.fd.ne hi));clear z1
     go_wp2_with (first
      | (go_at_call 48;(with_reducible refine HCOMP.out.mono ?_;rintro x w6 ⟨v1,rfl,hown6,hg6,hob⟩;obtain ⟨A8,n8,c8,rfl⟩:=own_sl hown6;have HOWN6:=zA0 hown6;have HG6:=zA0 hg6;have HOB:=zA0 hob;have hb6:=a1D HFD5.out hg6 (by have:=HI.out.fd.ne hi;rw [HE7.out] at this;exact this);have hfc:=a0I hb6 i;have hfz:=a0K hb6 i;rw [a6I _ hi] at hfc;clear hown6 hg6 hob hb6)))
     have hg7:wr.grownBy w6 (v i).ownBlock:=by
      rw [HE7.out];exact ⟨HG6.out.os.trans HG5.out.os,HG6.out.tape.trans HG5.out.tape,HG6.out.output.trans HG5.out.output,zF0 HG5.out.size HG6.out.size,fun k hk hne =>(HG6.out.block k (zP1 hk HG5.out.size) hne).trans (HG5.out.block k hk hne)⟩
     have hr6:kI.R 3 w6 bo (fun k =>k≠bo) (.slice A8 n8 c8) (toI (cmpN (r i))):=Kd.a2W HOWN6.out (fun k hk =>by
      rw [HOB.out,← HE7.out] at hk
      exact HRI.out.1 k hk)
     have hb6:Below bo wr w6:=(zG0 bo wr).grown hg7 (zD2 (a0X HI.out.fd.o)) (fun k hk =>(HI.out.fd.lt hi k hk).1);have hfd:=HI.out.fd.put hi hr6 hg7 (.inl (by rw [HOB.out,HE7.out]));have hbe:=HI.out.be.trans (HI.out.fd.b2Y hi (.slice A8 n8 c8) hg7 hb6);have hfn:Tarj.upd (fun x =>if x < i then cmpN (r x) else r x) i (cmpN (r i)) = fun x =>if x < i + 1 then cmpN (r x) else r x:=by
      funext x
      simp only [Tarj.upd];by_cases e:x = i
      ·subst e;simp
      ·rw [if_neg e];by_cases e2:x < i
       ·rw [if_pos e2,if_pos qC0]
       ·rw [if_neg e2,if_neg qC0]
     rw [hfn] at hfd;have HI9:=zA0 (show FL bo bo M _ (fun x =>if x < i + 1 then cmpN (r x) else r x) W _ from ⟨hfd,hbe⟩);clear hg7 hr6 hb6 hfd hbe hfn hfc hfz hrx;go_roundg k1
     case measure =>exact zS0 _
     case rel =>exact ⟨i + 1,_,by rw [zY0,zJ1 1];exact hi',by first | rw [hw] | simp [hw],HI9⟩
    ·have hie:i = M:=by omega
     subst hie;go_wp2;go_ret;refine ⟨bo,rfl,⟨v,?_⟩,?_⟩
     ·rw [HBO.out];refine ⟨HI.out.fd.o,fun j hj =>?_,HI.out.fd.d,HI.out.fd.b⟩;have:=HI.out.fd.r j hj;rw [if_pos hj,HR.out] at this;exact this
     ·rw [HBO.out];exact HI.out.be
def ix3 (A:Option Addr) (N c:Nat) (i:Nat):Value:=match i with | 0 =>.slice A N c | 1 =>.slice A N c | 2 =>.int .i64 (N:Nat) | 4 =>.slice A N c | 5 =>.int .i64 (N:Nat) | 7 =>.slice A N c | 8 =>.int .i64 (N:Nat) | _ =>undef
def cst3 (i:Nat):Bool:=i != 3 && i != 6 && i != 9 && i != 10 && i != 11 && i != 12
def fin0 (A:Option Addr) (N c p3 p6 p9:Nat):Array Value:=#[.slice A N c,.slice (some ⟨p3,0,none⟩) N N,.slice (some ⟨p6,0,none⟩) N N,.slice none 0 0,.slice (some ⟨p9,0,none⟩) N N,.int .i64 0,.slice none 0 0]
structure S3 (A:Option Addr) (N c:Nat) (W:World) (done:Nat→Bool) (val:Nat→Value) (Z:World):Prop where
 be:Below W.heap.size W Z
 vv:∀ i,done i = true→cst3 i = true→val i = ix3 A N c i
 s3:done 3 = true→∃ p,val 3 = .slice (some ⟨p,0,none⟩) N N∧W.heap.size≤p∧Z.heap[p]? = some (.cells (ints N (fun _ =>0)) 3 (0,0))
 s6:done 6 = true→∃ p,val 6 = .slice (some ⟨p,0,none⟩) N N∧W.heap.size≤p∧Z.heap[p]? = some (.cells (ints N (fun _ =>0)) 3 (0,0))
 ne:done 3 = true→done 6 = true→val 3≠val 6
 s9:done 9 = true→∃ p,val 9 = .slice (some ⟨p,0,none⟩) N N∧W.heap.size≤p∧Z.heap[p]? = some (.cells (bls N (fun _ =>false)) 4 (0,0))
 n10:done 10 = true→done 3 = true∧done 6 = true∧done 9 = true
 s10:done 10 = true→∃ p3 p6 p9,val 10 = .agg (fin0 A N c p3 p6 p9)∧val 3 = .slice (some ⟨p3,0,none⟩) N N∧val 6 = .slice (some ⟨p6,0,none⟩) N N∧val 9 = .slice (some ⟨p9,0,none⟩) N N
 n11:done 11 = true→done 10 = true
 s11:done 11 = true→∃ F p3 p6 p9,val 11 = .pointer (some ⟨F,0,none⟩)∧val 3 = .slice (some ⟨p3,0,none⟩) N N∧val 6 = .slice (some ⟨p6,0,none⟩) N N∧val 9 = .slice (some ⟨p9,0,none⟩) N N∧W.heap.size≤F∧Z.heap[F]? = some (.cells (fin0 A N c p3 p6 p9) 83 (0,0))
 n12:done 12 = true→done 11 = true
 v12:done 12 = true→val 12 = val 11
section
variable {A:Option Addr} {N c:Nat} {W Z:World} {done:Nat→Bool} {val:Nat→Value}
theorem S3.start (A:Option Addr) (N c:Nat) (W:World):S3 A N c W (fun _ =>false) (fun _ =>undef) { W with drawn:=W.drawn + 1 } :=
 ⟨(zG0 W.heap.size W).drew,by simp,by simp,by simp,by simp,by simp,by simp,by simp,by simp,by simp,by simp,by simp⟩
theorem S3.v0 (h:S3 A N c W done val Z) (hd:done 0 = true):val 0 = .slice A N c:=h.vv 0 hd qB0
theorem S3.v1 (h:S3 A N c W done val Z) (hd:done 1 = true):val 1 = .slice A N c:=h.vv 1 hd qB0
theorem S3.v2 (h:S3 A N c W done val Z) (hd:done 2 = true):val 2 = .int .i64 (N:Nat):=h.vv 2 hd qB0
theorem S3.v4 (h:S3 A N c W done val Z) (hd:done 4 = true):val 4 = .slice A N c:=h.vv 4 hd qB0
theorem S3.v5 (h:S3 A N c W done val Z) (hd:done 5 = true):val 5 = .int .i64 (N:Nat):=h.vv 5 hd qB0
theorem S3.v7 (h:S3 A N c W done val Z) (hd:done 7 = true):val 7 = .slice A N c:=h.vv 7 hd qB0
theorem S3.v8 (h:S3 A N c W done val Z) (hd:done 8 = true):val 8 = .int .i64 (N:Nat):=h.vv 8 hd qB0
theorem S3.do_ (h:S3 A N c W done val Z) (i:Nat) (hc:cst3 i = true) {x:Value} (hx:x = ix3 A N c i):S3 A N c W (upd done i) (setv val i x) Z:=by
 have e3:i≠3:=by rintro rfl;cases hc
 have e6:i≠6:=by rintro rfl;cases hc
 have e9:i≠9:=by rintro rfl;cases hc
 have e10:i≠10:=by rintro rfl;cases hc
 have e11:i≠11:=by rintro rfl;cases hc
 have e12:i≠12:=by rintro rfl;cases hc
 refine ⟨h.be,fun j hj hcj =>?vv,?s3,?s6,?ne,?s9,?n10,?s10,?n11,?s11,?n12,?v12⟩
 case vv =>
  simp only [upd,setv] at hj ⊢;by_cases e:j = i
  ·rw [if_pos e,e];exact hx
  ·rw [if_neg e] at hj ⊢;exact h.vv j hj hcj
 all_goals try simp only [upd,setv,if_neg (Ne.symm e3),if_neg (Ne.symm e6),if_neg (Ne.symm e9),if_neg (Ne.symm e10),if_neg (Ne.symm e11),if_neg (Ne.symm e12)]
 case s3 =>exact h.s3
 case s6 =>exact h.s6
 case ne =>exact h.ne
 case s9 =>exact h.s9
 case n10 =>exact h.n10
 case s10 =>exact h.s10
 case n11 =>exact h.n11
 case s11 =>exact h.s11
 case n12 =>exact h.n12
 case v12 =>exact h.v12
theorem S3.do3 (h:S3 A N c W done val Z) (hd:done 3 = false):S3 A N c W (upd done 3) (setv val 3 (.slice (some ⟨Z.heap.size,0,none⟩) N N)) (Z.alloc (.cells (ints N (fun _ =>0)) 3)):=by
 have h10:done 10 = false:=by cases e:done 10 with
  | false =>rfl
  | true =>have:=h.n10 e;simp [hd] at this
 have h11:done 11 = false:=by cases e:done 11 with
  | false =>rfl
  | true =>rw [h.n11 e] at h10;cases h10
 refine ⟨?be,fun j hj hcj =>?vv,?s3,?s6,?ne,?s9,?n10,?s10,?n11,?s11,?n12,?v12⟩
 case vv =>
  have e:j≠3:=by rintro rfl;cases hcj
  simp only [upd,setv,if_neg e] at hj ⊢;exact h.vv j hj hcj
 all_goals try simp only [upd,setv,if_true,if_neg (show (6:Nat)≠3 by decide),if_neg (show (9:Nat)≠3 by decide),if_neg (show (10:Nat)≠3 by decide),if_neg (show (11:Nat)≠3 by decide),if_neg (show (12:Nat)≠3 by decide)]
 case be =>exact a0D h.be _
 case s3 =>exact fun _ =>⟨Z.heap.size,rfl,h.be.size,World.alloc_heap_new Z _⟩
 case s6 =>exact fun q =>by obtain ⟨p,e,hle,hb⟩:=h.s6 q;exact ⟨p,e,hle,a0Q hb _⟩
 case ne =>exact fun _ q e =>by obtain ⟨p,e2,_,hb⟩:=h.s6 q;rw [e2] at e;simp only [Value.slice.injEq,Option.some.injEq,Addr.mk.injEq] at e;have:=a0X hb;omega
 case s9 =>exact fun q =>by obtain ⟨p,e,hle,hb⟩:=h.s9 q;exact ⟨p,e,hle,a0Q hb _⟩
 case n10 =>exact fun q =>by rw [h10] at q;cases q
 case s10 =>exact fun q =>by rw [h10] at q;cases q
 case n11 =>exact h.n11
 case s11 =>exact fun q =>by rw [h11] at q;cases q
 case n12 =>exact h.n12
 case v12 =>exact fun q =>by rw [h.n12 q] at h11;cases h11
theorem S3.do6 (h:S3 A N c W done val Z) (hd:done 6 = false):S3 A N c W (upd done 6) (setv val 6 (.slice (some ⟨Z.heap.size,0,none⟩) N N)) (Z.alloc (.cells (ints N (fun _ =>0)) 3)):=by
 have h10:done 10 = false:=by cases e:done 10 with
  | false =>rfl
  | true =>have:=h.n10 e;simp [hd] at this
 have h11:done 11 = false:=by cases e:done 11 with
  | false =>rfl
  | true =>rw [h.n11 e] at h10;cases h10
 refine ⟨?be,fun j hj hcj =>?vv,?s3,?s6,?ne,?s9,?n10,?s10,?n11,?s11,?n12,?v12⟩
 case vv =>
  have e:j≠6:=by rintro rfl;cases hcj
  simp only [upd,setv,if_neg e] at hj ⊢;exact h.vv j hj hcj
 all_goals try simp only [upd,setv,if_true,if_neg (show (3:Nat)≠6 by decide),if_neg (show (9:Nat)≠6 by decide),if_neg (show (10:Nat)≠6 by decide),if_neg (show (11:Nat)≠6 by decide),if_neg (show (12:Nat)≠6 by decide)]
 case be =>exact a0D h.be _
 case s3 =>exact fun q =>by obtain ⟨p,e,hle,hb⟩:=h.s3 q;exact ⟨p,e,hle,a0Q hb _⟩
 case s6 =>exact fun _ =>⟨Z.heap.size,rfl,h.be.size,World.alloc_heap_new Z _⟩
 case ne =>exact fun q _ e =>by obtain ⟨p,e2,_,hb⟩:=h.s3 q;rw [e2] at e;simp only [Value.slice.injEq,Option.some.injEq,Addr.mk.injEq] at e;have:=a0X hb;omega
 case s9 =>exact fun q =>by obtain ⟨p,e,hle,hb⟩:=h.s9 q;exact ⟨p,e,hle,a0Q hb _⟩
 case n10 =>exact fun q =>by rw [h10] at q;cases q
 case s10 =>exact fun q =>by rw [h10] at q;cases q
 case n11 =>exact h.n11
 case s11 =>exact fun q =>by rw [h11] at q;cases q
 case n12 =>exact h.n12
 case v12 =>exact fun q =>by rw [h.n12 q] at h11;cases h11
theorem S3.do9 (h:S3 A N c W done val Z) (hd:done 9 = false):S3 A N c W (upd done 9) (setv val 9 (.slice (some ⟨Z.heap.size,0,none⟩) N N)) (Z.alloc (.cells (bls N (fun _ =>false)) 4)):=by
 have h10:done 10 = false:=by cases e:done 10 with
  | false =>rfl
  | true =>have:=h.n10 e;simp [hd] at this
 have h11:done 11 = false:=by cases e:done 11 with
  | false =>rfl
  | true =>rw [h.n11 e] at h10;cases h10
 refine ⟨?be,fun j hj hcj =>?vv,?s3,?s6,?ne,?s9,?n10,?s10,?n11,?s11,?n12,?v12⟩
 case vv =>
  have e:j≠9:=by rintro rfl;cases hcj
  simp only [upd,setv,if_neg e] at hj ⊢;exact h.vv j hj hcj
 all_goals try simp only [upd,setv,if_true,if_neg (show (3:Nat)≠9 by decide),if_neg (show (6:Nat)≠9 by decide),if_neg (show (10:Nat)≠9 by decide),if_neg (show (11:Nat)≠9 by decide),if_neg (show (12:Nat)≠9 by decide)]
 case be =>exact a0D h.be _
 case s3 =>exact fun q =>by obtain ⟨p,e,hle,hb⟩:=h.s3 q;exact ⟨p,e,hle,a0Q hb _⟩
 case s6 =>exact fun q =>by obtain ⟨p,e,hle,hb⟩:=h.s6 q;exact ⟨p,e,hle,a0Q hb _⟩
 case ne =>exact h.ne
 case s9 =>exact fun _ =>⟨Z.heap.size,rfl,h.be.size,World.alloc_heap_new Z _⟩
 case n10 =>exact fun q =>by rw [h10] at q;cases q
 case s10 =>exact fun q =>by rw [h10] at q;cases q
 case n11 =>exact h.n11
 case s11 =>exact fun q =>by rw [h11] at q;cases q
 case n12 =>exact h.n12
 case v12 =>exact fun q =>by rw [h.n12 q] at h11;cases h11
theorem S3.do10 (h:S3 A N c W done val Z) (hd:done 10 = false) {p3 p6 p9:Nat} (e3:val 3 = .slice (some ⟨p3,0,none⟩) N N) (e6:val 6 = .slice (some ⟨p6,0,none⟩) N N) (e9:val 9 = .slice (some ⟨p9,0,none⟩) N N) (h3:done 3 = true) (h6:done 6 = true) (h9:done 9 = true):S3 A N c W (upd done 10) (setv val 10 (.agg (fin0 A N c p3 p6 p9))) Z:=by
 refine ⟨?be,fun j hj hcj =>?vv,?s3,?s6,?ne,?s9,?n10,?s10,?n11,?s11,?n12,?v12⟩
 case vv =>
  have e:j≠10:=by rintro rfl;cases hcj
  simp only [upd,setv,if_neg e] at hj ⊢;exact h.vv j hj hcj
 all_goals try simp only [upd,setv,if_true,if_neg (show (3:Nat)≠10 by decide),if_neg (show (6:Nat)≠10 by decide),if_neg (show (9:Nat)≠10 by decide),if_neg (show (11:Nat)≠10 by decide),if_neg (show (12:Nat)≠10 by decide)]
 case be =>exact h.be
 case s3 =>exact h.s3
 case s6 =>exact h.s6
 case ne =>exact h.ne
 case s9 =>exact h.s9
 case n10 =>exact fun _ =>⟨h3,h6,h9⟩
 case s10 =>exact fun _ =>⟨p3,p6,p9,rfl,e3,e6,e9⟩
 case n11 =>exact fun _ =>trivial
 case s11 =>exact h.s11
 case n12 =>exact h.n12
 case v12 =>exact h.v12
theorem S3.do11 (h:S3 A N c W done val Z) (hd:done 11 = false) {p3 p6 p9:Nat} (h10:done 10 = true) (e3:val 3 = .slice (some ⟨p3,0,none⟩) N N) (e6:val 6 = .slice (some ⟨p6,0,none⟩) N N) (e9:val 9 = .slice (some ⟨p9,0,none⟩) N N):S3 A N c W (upd done 11) (setv val 11 (.pointer (some ⟨Z.heap.size,0,none⟩))) (Z.alloc (.cells (fin0 A N c p3 p6 p9) 83)):=by
 refine ⟨?be,fun j hj hcj =>?vv,?s3,?s6,?ne,?s9,?n10,?s10,?n11,?s11,?n12,?v12⟩
 case vv =>
  have e:j≠11:=by rintro rfl;cases hcj
  simp only [upd,setv,if_neg e] at hj ⊢;exact h.vv j hj hcj
 all_goals try simp only [upd,setv,if_true,if_neg (show (3:Nat)≠11 by decide),if_neg (show (6:Nat)≠11 by decide),if_neg (show (9:Nat)≠11 by decide),if_neg (show (10:Nat)≠11 by decide),if_neg (show (12:Nat)≠11 by decide)]
 case be =>exact a0D h.be _
 case s3 =>exact fun q =>by obtain ⟨p,e,hle,hb⟩:=h.s3 q;exact ⟨p,e,hle,a0Q hb _⟩
 case s6 =>exact fun q =>by obtain ⟨p,e,hle,hb⟩:=h.s6 q;exact ⟨p,e,hle,a0Q hb _⟩
 case ne =>exact h.ne
 case s9 =>exact fun q =>by obtain ⟨p,e,hle,hb⟩:=h.s9 q;exact ⟨p,e,hle,a0Q hb _⟩
 case n10 =>exact h.n10
 case s10 =>exact h.s10
 case n11 =>exact fun _ =>h10
 case s11 =>exact fun _ =>⟨Z.heap.size,p3,p6,p9,rfl,e3,e6,e9,h.be.size,World.alloc_heap_new Z _⟩
 case n12 =>exact fun _ =>trivial
 case v12 =>exact fun q =>by rw [h.n12 q] at hd;cases hd
theorem S3.do12 (h:S3 A N c W done val Z) (hd:done 12 = false) (h11:done 11 = true) {F:Nat} (e11:val 11 = .pointer (some ⟨F,0,none⟩)):S3 A N c W (upd done 12) (setv val 12 (.pointer (some ⟨F,0,none⟩))) Z:=by
 refine ⟨?be,fun j hj hcj =>?vv,?s3,?s6,?ne,?s9,?n10,?s10,?n11,?s11,?n12,?v12⟩
 case vv =>
  have e:j≠12:=by rintro rfl;cases hcj
  simp only [upd,setv,if_neg e] at hj ⊢;exact h.vv j hj hcj
 all_goals try simp only [upd,setv,if_true,if_neg (show (3:Nat)≠12 by decide),if_neg (show (6:Nat)≠12 by decide),if_neg (show (9:Nat)≠12 by decide),if_neg (show (10:Nat)≠12 by decide),if_neg (show (11:Nat)≠12 by decide)]
 case be =>exact h.be
 case s3 =>exact h.s3
 case s6 =>exact h.s6
 case ne =>exact h.ne
 case s9 =>exact h.s9
 case n10 =>exact h.n10
 case s10 =>exact h.s10
 case n11 =>exact h.n11
 case s11 =>exact h.s11
 case n12 =>exact fun _ =>h11
 case v12 =>exact fun _ =>e11.symm
end
theorem S3.fs {A:Option Addr} {c:Nat} {W Z:World} {done:Nat→Bool} {val:Nat→Value} {g:List (List Int)} (h:S3 A g.length c W done val Z) (h12:done 12 = true) (hg:Kd.F kL W (fun k =>k < W.heap.size) A g.length g) :
  ∃ F b1 b2 b4,val 12 = .pointer (some ⟨F,0,none⟩)∧FS W.heap.size F b1 b2 b4 A c g st0 (.slice none 0 0) (.slice none 0 0) Z:=by
 have h11:=h.n12 h12;have h10:=h.n11 h11;obtain ⟨h3,h6,h9⟩:=h.n10 h10;obtain ⟨F,p3,p6,p9,e11,e3,e6,e9,hF,hb⟩:=h.s11 h11;obtain ⟨q3,f3,l3,c3⟩:=h.s3 h3;obtain ⟨q6,f6,l6,c6⟩:=h.s6 h6;obtain ⟨q9,f9,l9,c9⟩:=h.s9 h9;have hne:=h.ne h3 h6;rw [e3] at f3 hne;rw [e6] at f6 hne;rw [e9] at f9;simp only [Value.slice.injEq,Option.some.injEq,Addr.mk.injEq,and_true,true_and] at f3 f6 f9;subst f3 f6 f9;refine ⟨F,p3,p6,p9,(h.v12 h12).trans e11,⟨hb,c3,c6,c9,Kd.b0E _ _ _ _ _,Kd.N_nil _ _ _ _ _,Kd.a4L hg (fun k hk _ =>h.be.block k hk),⟨hF,l3,l6,l9⟩,fun e =>hne (by rw [e])⟩⟩
theorem makeI (N:Nat) (hN:N≤1000) (W:World):(Instr.makeSlice 43 (.int .i64 (N:Int)) (.int .i64 (N:Int))).run Tryz.prog W = .ok (.slice (some ⟨W.heap.size,0,none⟩) N N) (W.alloc (.cells (ints N (fun _ =>0)) 3)):=by
 have h:=a3M (P:=Tryz.prog) 43 3 (.int .i64 0) 8 Tryz.underlying43 b1X rfl qB0 (N:Int) (zH0 N) qW1 W;rw [zK0] at h;rw [h]
 congr 3
 unfold madeCells ints;apply Array.ext_getElem?;intro j;by_cases hj:j < N
 ·simp [hj,Nat.mod_one]
 ·simp [hj]
theorem info4b:(Tryz.prog.info? 4).map (fun i =>(i.zero,i.size,i.bytes)) = some (some (.bool false),1,1):=by kernel_rfl
theorem makeB (N:Nat) (hN:N≤1000) (W:World):(Instr.makeSlice 71 (.int .i64 (N:Int)) (.int .i64 (N:Int))).run Tryz.prog W = .ok (.slice (some ⟨W.heap.size,0,none⟩) N N) (W.alloc (.cells (bls N (fun _ =>false)) 4)):=by
 have h:=a3M (P:=Tryz.prog) 71 4 (.bool false) 1 Tryz.underlying71 info4b rfl qB0 (N:Int) (zH0 N) qW1 W;rw [zK0] at h;rw [h]
 congr 3
 unfold madeCells bls;apply Array.ext_getElem?;intro j;by_cases hj:j < N
 ·simp [hj,Nat.mod_one]
 ·simp [hj]
structure OL (B F b1 b2 b4:Nat) (A:Option Addr) (c:Nat) (g:List (List Int)) (W0:World) (n:Nat) (s:St) (vs vk:Value) (W:World):Prop where
 is:s = rootsF (adjF g) g.length (List.range n) st0
 inv:Inv (adjF g) g.length s []
 ct:cnt g.length s≤g.length
 tt:tot s = s.next
 fs:FS B F b1 b2 b4 A c g s vs vk W
 be:Below B W0 W
 bz:B≤W.heap.size
theorem OL.start {B F b1 b2 b4:Nat} {A:Option Addr} {c:Nat} {g:List (List Int)} {W0 W:World} {vs vk:Value} (h:FS B F b1 b2 b4 A c g st0 vs vk W) (hb:Below B W0 W) (hz:B≤W.heap.size):OL B F b1 b2 b4 A c g W0 0 st0 vs vk W :=
 ⟨rfl,inv0,by
  have:=a6H g.length st0;unfold cnt;show 0 + _≤_
  omega,rfl,h,hb,hz⟩
def ofRow (k:Nat) (l:List Nat) (f:Nat→Nat):Nat→Nat:=l.foldl (fun f x =>Tarj.upd f x k) f
def ofAt (L:List (List Nat)) (n:Nat):Nat→Nat:=(List.range n).foldl (fun f k =>ofRow k (L.getD k []) f) (fun _ =>0)
def lowAt (L:List (List Nat)) (n:Nat):Nat→Nat:=fun k =>if k < n then (L.getD k []).getD 0 0 else 0
theorem b3G (L:List (List Nat)) (n:Nat):ofAt L (n + 1) = ofRow n (L.getD n []) (ofAt L n):=by
 unfold ofAt;rw [List.range_succ,List.foldl_append];rfl
theorem b6R (k:Nat) (l:List Nat) (j:Nat) (hj:j < l.length) (f:Nat→Nat):ofRow k (l.take (j + 1)) f = Tarj.upd (ofRow k (l.take j) f) l[j] k:=by
 unfold ofRow;rw [zB1 hj,List.foldl_append];rfl
theorem b6T (L:List (List Nat)) (n:Nat):lowAt L (n + 1) = Tarj.upd (lowAt L n) n ((L.getD n []).getD 0 0):=by
 funext k
 simp only [lowAt,Tarj.upd];by_cases e:k = n
 ·subst e;simp
 ·rw [if_neg e];by_cases h:k < n
  ·rw [if_pos h,if_pos qC0]
  ·rw [if_neg h,if_neg qC0]
structure KM (B N1 bof bl N K:Nat) (L:List (List Nat)) (vk:Value) (f h:Nat→Nat) (W0 W:World):Prop where
 kn:Kd.F kL W (fun k =>k < N1) (match vk with | .slice A _ _ =>A | _ =>none) L.length (L.map toI)
 of:W.heap[bof]? = some (.cells (ints N f) 3 (0,0))
 lo:W.heap[bl]? = some (.cells (ints K h) 3 (0,0))
 be:Below B W0 W
 ge:N1≤bof∧N1≤bl∧B≤N1
 ne:bof≠bl
theorem KM.setOf {B N1 bof bl N K:Nat} {L:List (List Nat)} {vk:Value} {f h:Nat→Nat} {W0 W:World} (q:KM B N1 bof bl N K L vk f h W0 W) (n x:Nat):KM B N1 bof bl N K L vk (Tarj.upd f n x) h W0 (W.setCell ⟨bof,n,none⟩ (.int .i64 (x:Nat))):=by
 obtain ⟨g1,g2,g3⟩:=q.ge;exact ⟨Kd.a8G (p:=⟨bof,n,none⟩) q.kn (fun k hk e =>by (have e':k = bof:=e);omega) _,a2A q.of n _ (a5K _ _ _ _),a1M q.lo (Ne.symm q.ne) _,q.be.setCell (p:=⟨bof,n,none⟩) (zF0 g3 g1) _,q.ge,q.ne⟩
theorem KM.setLo {B N1 bof bl N K:Nat} {L:List (List Nat)} {vk:Value} {f h:Nat→Nat} {W0 W:World} (q:KM B N1 bof bl N K L vk f h W0 W) (n x:Nat):KM B N1 bof bl N K L vk f (Tarj.upd h n x) W0 (W.setCell ⟨bl,n,none⟩ (.int .i64 (x:Nat))):=by
 obtain ⟨g1,g2,g3⟩:=q.ge;exact ⟨Kd.a8G (p:=⟨bl,n,none⟩) q.kn (fun k hk e =>by (have e':k = bl:=e);omega) _,a1M q.of q.ne _,a2A q.lo n _ (a5K _ _ _ _),q.be.setCell (p:=⟨bl,n,none⟩) (zF0 g3 g2) _,q.ge,q.ne⟩
theorem b0M (adj:Nat→List Nat) (N n:Nat) (s:St):rootsF adj N (List.range (n + 1)) s = if (rootsF adj N (List.range n) s).index n = 0 then visitF adj N n (rootsF adj N (List.range n) s) else rootsF adj N (List.range n) s:=by
 unfold rootsF;rw [List.range_succ,List.foldl_append];rfl
inductive GRch (g:List (List Int)) (a:Nat):Nat→Prop
 | refl:GRch g a a
 | step {b:Nat} {m:Int}:GRch g a b→m ∈ g.getD b []→GRch g a m.toNat
theorem GRch.trans {g:List (List Int)} {a b c:Nat} (h:GRch g a b) (k:GRch g b c):GRch g a c:=by
 induction k with
 | refl =>exact h
 | step _ hm ih =>exact .step ih hm
def On (seen:List Bool) (v:Nat):Prop:=seen[v]? = some true
theorem on_set {l:List Bool} {n v:Nat} (h:On l v):On (l.set n true) v:=by
 unfold On at *;rw [List.getElem?_set]
 split
 ·rename_i e;subst e
  rw [if_pos (by have:=(List.getElem?_eq_some_iff.1 h).1;exact this)]
 ·exact h
theorem b8T {l:List Bool} {n v:Nat} (h:On (l.set n true) v):v = n∨On l v:=by
 unfold On at *;rw [List.getElem?_set] at h
 split at h
 ·rename_i e;exact .inl e.symm
 ·exact .inr h
theorem off_set:∀ (l:List Bool) (n:Nat),l[n]? = some false→((l.set n true).filter (fun x =>!x)).length + 1 = (l.filter (fun x =>!x)).length:=by
 intro l
 induction l with
 | nil =>intro n h;simp at h
 | cons x r ih =>
  intro n h;cases n with
  | zero =>simp at h;subst h;simp
  | succ n =>
   have h2:=ih n (by simpa using h);cases x <;> simp_all <;> omega
theorem pm (n:Nat) (h:n≤1050000):wrap64 (((n + 1:Nat):Int) - 1) = (n:Int):=by simp only [wrap64];omega
def Sm (g:List (List Int)):Prop:=g.length≤1050000∧∀ i:Nat,(g.getD i []).length≤1050000
def okAt (N:Nat) (r:List Int) (j:Nat):Bool:=!(decide (rd r (j:Int) < 0)) && (!(decide (rd r (j:Int) ≥ (N:Int))) && (decide (j = 0) || !(decide (rd r (((j - 1:Nat)):Int) ≥ rd r (j:Int)))))
def rowTail (N:Nat) (r:List Int):Nat→Nat→Bool
 | 0,_ =>true
 | m + 1,j =>okAt N r j && rowTail N r m (j + 1)
def allTail (g:List (List Int)):Nat→Nat→Bool
 | 0,_ =>decide ((g.length:Int)≤1000)
 | m + 1,i =>rowTail g.length (g.getD i []) (g.getD i []).length 0 && allTail g m (i + 1)
def mayB (g:List (List Int)):Bool:=allTail g g.length 0
theorem rdLg (g:List (List Int)) (i:Nat):a1B g (i:Int) = g.getD i []:=rfl
theorem gmay_row (g:List (List Int)) (hs:Sm g) (i:Nat) (hi:i < g.length) (b:Bool) (h:Ev (fun k =>graph_May.l0 k g g (g.length:Int) ((i + 1:Nat):Int)) b) :
  ∀ m j:Nat,j + m = (g.getD i []).length→Ev (fun k =>graph_May.l1 k g (g.getD i []) g (g.length:Int) (i:Int) (g.getD i []) ((g.getD i []).length:Int) (j:Int)) (rowTail g.length (g.getD i []) m j && b):=by
 have hr:=hs.2 i;have hn:=hs.1;intro m
 induction m with
 | zero =>
  intro j hj;refine Ev.step ?_;have c3:¬ (j:Int) < ((g.getD i []).length:Int):=by omega
  simp only [graph_May.l1,if_neg c3,pz i qC0,rowTail,Bool.true_and];exact h
 | succ m ih =>
  intro j hj;have e:=ih (j + 1) qC0;refine Ev.step ?_;have c3:(j:Int) < ((g.getD i []).length:Int):=by omega
  have c4:0≤(j:Int):=zH0 j;simp only [graph_May.l1,if_pos c3,if_pos c4,pz j qC0,rowTail,okAt];by_cases d1:rd (g.getD i []) (j:Int) < 0
  ·simp only [if_pos d1,zI0 d1,zM2,Bool.false_and];exact Ev.const _
  ·by_cases d2:rd (g.getD i []) (j:Int) ≥ (g.length:Int)
   ·simp only [if_neg d1,zM0 d1,if_pos d2,zI0 d2,zM2,Bool.not_false,Bool.false_and,Bool.and_false];exact Ev.const _
   ·cases j with
    | zero =>
     simp only [if_neg d1,zM0 d1,if_neg d2,zM0 d2,Bool.not_false,Bool.true_and,if_neg (show ¬ ((0:Nat):Int) > 0 by decide),decide_true,Bool.true_or];exact e
    | succ j' =>
     have c5:(((j' + 1:Nat)):Int) > 0:=by omega
     have c6:0≤((j':Nat):Int):=zH0 j';have c7:((j':Nat):Int) < ((g.getD i []).length:Int):=by omega
     simp only [if_neg d1,zM0 d1,if_neg d2,zM0 d2,Bool.not_false,Bool.true_and,if_pos c5,pm j' qC0,if_pos c6,if_pos c7,Nat.add_sub_cancel,zM0 (show ¬ j' + 1 = 0 by omega),zT2];by_cases d3:rd (g.getD i []) (j':Int) ≥ rd (g.getD i []) (((j' + 1:Nat)):Int)
     ·simp only [if_pos d3,zI0 d3,zM2,Bool.false_and];exact Ev.const _
     ·simp only [if_neg d3,zM0 d3,Bool.not_false,Bool.true_and];exact e
theorem a9O (g:List (List Int)) (hs:Sm g):Ev (fun k =>graph_May.f k g) (mayB g):=by
 have main:∀ m i:Nat,i + m = g.length→Ev (fun k =>graph_May.l0 k g g (g.length:Int) (i:Int)) (allTail g m i):=by
  intro m
  induction m with
  | zero =>
   intro i hi;refine Ev.step ?_;have c:¬ (i:Int) < (g.length:Int):=by omega
   simp only [graph_May.l0,if_neg c,allTail];exact Ev.const _
  | succ m ih =>
   intro i hi;refine Ev.step ?_;have c:(i:Int) < (g.length:Int):=by omega
   have c0:0≤(i:Int):=zH0 i;simp only [graph_May.l0,if_pos c,if_pos c0,rdLg,allTail];exact gmay_row g hs i qC0 _ (ih (i + 1) qC0) _ 0 qC0
 exact main g.length 0 qC0
theorem b2U {N:Nat} {r:List Int}:∀ (m j:Nat),rowTail N r m j = true→∀ i,j≤i→i < j + m→0≤rd r (i:Int)∧rd r (i:Int) < N∧(i≠0→rd r ((i - 1:Nat):Int) < rd r (i:Int)):=by
 intro m
 induction m with
 | zero =>intro j _ i h1 h2;omega
 | succ m ih =>
  intro j h i h1 h2;simp only [rowTail,zZ0] at h;by_cases e:i = j
  ·subst e;have h3:=h.1;simp only [okAt,zZ0,zA3,Bool.not_eq_true',zB2,decide_eq_false_iff_not] at h3;exact ⟨by omega,by omega,fun h0 =>by rcases h3.2.2 with h4 | h4 <;> omega⟩
  ·exact ih (j + 1) h.2 i qC0 qC0
theorem b3Y {g:List (List Int)}:∀ (m i:Nat),i + m = g.length→allTail g m i = true→g.length≤1000∧∀ v,i≤v→v < g.length→rowTail g.length (g.getD v []) (g.getD v []).length 0 = true:=by
 intro m
 induction m with
 | zero =>
  intro i hi h;simp only [allTail,zB2] at h;exact ⟨by omega,fun v h1 h2 =>by omega⟩
 | succ m ih =>
  intro i hi h;simp only [allTail,zZ0] at h;obtain ⟨q1,q2⟩:=ih (i + 1) qC0 h.2;refine ⟨q1,fun v h1 h2 =>?_⟩;by_cases e:v = i
  ·subst e;exact h.1
  ·exact q2 v qC0 h2
theorem a2Y {g:List (List Int)} (h:mayB g = true):g.length≤1000∧(∀ v,v < g.length→∀ j,j < (g.getD v []).length→0≤rd (g.getD v []) (j:Int)∧rd (g.getD v []) (j:Int) < g.length∧(j≠0→rd (g.getD v []) ((j - 1:Nat):Int) < rd (g.getD v []) (j:Int))):=by
 obtain ⟨q1,q2⟩:=b3Y g.length 0 qC0 h;exact ⟨q1,fun v hv j hj =>b2U _ 0 (q2 v (zG2 _) hv) j (zG2 _) qC0⟩
theorem b8D {r:List Int} {m:Int} (h:m ∈ r):∃ j,j < r.length∧rd r (j:Int) = m:=by
 obtain ⟨j,hj,e⟩:=List.getElem_of_mem h;exact ⟨j,hj,by unfold rd;rw [zK0,zE0,zD0 hj];simpa using e⟩
theorem b9H {g:List (List Int)} (h:mayB g = true):∀ v,v < g.length→∀ m ∈ g.getD v [],0≤m∧m < g.length:=by
 intro v hv m hm;obtain ⟨j,hj,rfl⟩:=b8D hm;have:=(a2Y h).2 v hv j hj;exact ⟨this.1,this.2.1⟩
theorem b8E {r:List Int} {j:Nat} (h:j < r.length):rd r (j:Int) = r[j]:=by
 unfold rd;rw [zK0,zE0,zD0 h];rfl
end Go.Proofs.YthhgfncliffggaaGreat.Man
