/- A part of the proof that EffectsKnots returns true for every argument. No conditions beyond the given statement's own. -/
import Derived.Test.YthhgfncliffggaaGreatEK2
import Derived.Test.YthhgfncliffggaaGreatEK3
import Derived.Test.YthhgfncliffggaaGreatEK5
import Derived.Lib.Hide
import Derived.StillTailTactics
set_option linter.unusedVariables false
set_option linter.unusedSimpArgs false
namespace Go.Proofs.YthhgfncliffggaaGreat.Pr
open Go.RowKit Go.Proofs.YthhgfncliffggaaGreatW.PrintWords Go.Proofs.YthhgfncliffggaaGreatW.PrintLast Go.Proofs.YthhgfncliffggaaGreatW.PrintMore
attribute [local go_sem] a3W a3V a4R a4Q a3Q a3P a4J a4I   -- for this text's walks alone
theorem a3S (t:TypeId) (a b:ByteArray):binOp .leq t (.string a) (.string b) = pure (.bool (!(Op.bytesLess b.toList a.toList))):=by
 have key:∀ x y:List UInt8,(Op.bytesLess x y || x == y) = !(Op.bytesLess y x):=by
  intro x
  induction x with
  | nil =>intro y;cases y <;> simp [Op.bytesLess]
  | cons p x ih =>
   intro y;cases y with
   | nil =>simp [Op.bytesLess]
   | cons q y =>
    simp only [Op.bytesLess];rcases Nat.lt_trichotomy p.toNat q.toNat with h | h | h
    ·have h1:p < q:=UInt8.lt_iff_toNat_lt.2 h;have h2:¬ q < p:=fun e =>by have:=UInt8.lt_iff_toNat_lt.1 e;omega
     have h3:¬ q = p:=fun e =>by rw [e] at h;omega
     simp [h1,h2,h3]
    ·obtain rfl:p = q:=UInt8.toNat_inj.1 h;have h2:¬ p < p:=fun e =>by have:=UInt8.lt_iff_toNat_lt.1 e;omega
     have:=ih y;simp [h2] at this ⊢;exact this
    ·have h1:q < p:=UInt8.lt_iff_toNat_lt.2 h;have h2:¬ p < q:=fun e =>by have:=UInt8.lt_iff_toNat_lt.1 e;omega
     have h3:¬ p = q:=fun e =>by rw [e] at h;omega
     simp [h1,h2,h3]
 simp [binOp,Op.stringOp,key]
attribute [local go_sem] a3S
theorem a3H (t:TypeId) (a b:ByteArray):binOp .geq t (.string a) (.string b) = pure (.bool (!(Op.bytesLess a.toList b.toList))):=by simp [binOp,Op.stringOp]
attribute [local go_sem] a3H
mutual
noncomputable def r12_Calls.l0:Nat→List (List Int)→Int→List (S34)→Option ((List (List Int)))
 | 0,_,_,_ =>none
 | k + 1,x3,x4,x227000 =>if x4 < (x227000.length:Int) then (r12_Calls.l1 k x3 x4 (([]:List Int)) 0 x227000) else (some x3)
noncomputable def r12_Calls.l1:Nat→List (List Int)→Int→List Int→Int→List (S34)→Option ((List (List Int)))
 | 0,_,_,_,_,_ =>none
 | k + 1,x3,x4,x5,x6,x227000 =>if x6 < (x227000.length:Int) then ((r12_calls.f x227000 x4 x6).bind fun t233 =>(if t233 = true then (if x5.length < 17592186044416 then (r12_Calls.l1 k x3 x4 (x5 ++ [x6]) (wrap64 (x6 + 1)) x227000) else (none)) else (r12_Calls.l1 k x3 x4 x5 (wrap64 (x6 + 1)) x227000))) else (if x3.length < 5864062014805 then (r12_Calls.l0 k (x3 ++ [x5]) (wrap64 (x4 + 1)) x227000) else (none))
end
noncomputable def r12_Calls.f (k:Nat) (aM:List (S34)):Option ((List (List Int))):=r12_Calls.l0 k (([]:List (List Int))) 0 aM
set_option maxHeartbeats 8000000 in
set_option maxRecDepth 100000 in
theorem r12_Calls.calls (k:Nat) (bO:Option Addr) (bP:Nat) (aM:List (S34)) (r:List (List Int)) (w:World) (eE:Kd.C k34 w bO aM.length aM) (eG:aM.length≤bP) (h:r12_Calls.f k aM = some r) :
    Calls Tryz.prog 19 #[.agg #[.slice bO aM.length bP]] w fun e w' =>∃ v0_:Value,e = .returned (v0_)∧Kd.S (Kd.slice 3 (Kd.int .i64)) 43 w' w.heap.size (fun _ =>True) v0_ r∧Below w.heap.size w w':=by
 have hu24:=Tryz.underlying24;have eH:=a0C.mk eE;have eI:=a0C.mk eG;clear eE eG;have HB:=a0C.mk (zJ0 w.heap.size w);have H:(r12_Calls.l0 k (([]:List (List Int))) 0 aM) = some r:=h;clear h;obtain ⟨y227,hy227⟩:∃ y_:List (List Int),y_ = (([]:List (List Int))):=⟨_,rfl⟩;replace H:(r12_Calls.l0 k y227 0 aM) = some r:=by first | (rw [hy227];with_reducible exact H) | (have H2_:=(zK0 _ _).symm.trans H;rw [hy227];with_reducible exact H2_) | (have H2_:=(zK0 _ _).symm.trans H;with_reducible exact H2_) | with_reducible exact H | (rw [hy227];exact H) | exact H
 have Ny227:=a0C.mk hy227;clear hy227;have H':=a0C.mk H;clear H;go_enter Tryz.func19,Tryz.ntmps19
 go_wp2_with (first | ((with_reducible refine a0V (N:=1) rfl ?_);refine a2C ?hg (N:=1) ?hd (cs:=#[.slice bO aM.length bP]) (t:=24) ?hr ?_;(case hd =>rfl);(case hg =>rfl);(case hr =>first | (go_simp;done) | (go_simp;rfl));intro bK hg w2 hbox hb;have aX:=a0C.mk (a0L qB0 hb);have aY:=a0C.mk (hbox);have cA:=a0C.mk ((by rw [hg];exact (a0R qB0):w.heap.size≤bK));have eN:=a0C.mk ((by rw [hg];exact (a0R qB0):w.heap.size≤bK));clear HB;have HB:=aX;have aJ:=aY;have GW226:=cA;have aZ:=eN;clear aX aY cA eN;clear hb hbox hg) | ((with_reducible refine a0V (N:=7) rfl ?_);refine Kd.S_lit (Kd.slice 3 (Kd.int .i64)) _ 43 ?hg (N:=7) ?hd (xs:=([]:List (List Int))) (inner:=[]) (ok:=fun _ =>True) (okp:=fun _ =>True) ?hr ?hp (fun _ hk =>hk) trivial (zJ0 _ _) (zG0 _) qG0 ?_;(case hd =>rfl);(case hg =>rfl);(case hr =>first | (go_simp;done) | (go_simp;rfl));(case hp =>exact (Reps.none _ _));intro v228 w3 ho4 hb hg_ hnew_;clear hg_ hnew_;(first | rw [← Ny227.out] at ho4 | (simp only [Int.reduceToNat] at ho4;rw [← Ny227.out] at ho4));have HO229:=a0C.mk (Kd.b1M ho4 (a0R qM0));replace aJ:=a0C.mk (a0U (g:=bK) (o:=.cells #[.slice bO aM.length bP] 24 (0,0)) qU0 hb);replace HB:=a0C.mk (a0L qM0 hb);clear hb ho4));go_loopg [3,4] k (fun kq v3 v4 w' =>∃ (bE:List (List Int)) (aN:Int),v4 = .int .i64 aN∧a0C (r12_Calls.l0 kq bE aN aM = some r)∧a0C (kq≤k)∧a0C (Kd.S (Kd.slice 3 (Kd.int .i64)) 43 w' w.heap.size (fun _ =>True) v3 bE)∧a0C (w'.heap[bK]? = some (.cells #[(.slice bO aM.length bP)] 24 (0,0)))∧a0C (Below w.heap.size w w'))
 case atStart =>exact ⟨(y227),(0),qE0,H',⟨zG0 _⟩,⟨by (with_reducible repeat (first | apply Kd.a1T | apply Kd.a1S | apply Kd.a2P));exact HO229.out⟩,⟨by (with_reducible repeat (first | refine a0P ?_ _ | refine a0X ?_ | refine a0K ?_ _));exact aJ.out⟩,⟨by repeat (first | (with_reducible first | exact HB.out | apply a0B | apply a0A | apply a0D | refine a0G ?_ aZ.out) | exact HB.out)⟩⟩
 case round =>
  clear H';obtain ⟨bE,aN,rfl,HA,HK1,aD,aJ,HB⟩:=hrel;cases gk with
  | zero =>exact absurd HA.out (by simp [r12_Calls.l0])
  | succ k1 =>
   have H:=HA.out;clear HA;simp only [r12_Calls.l0] at H;by_cases c5:aN < (aM.length:Int)
   ·rw [if_pos c5] at H;have c5b0:decide (aN < (aM.length:Int)) = true:=zC0 c5;clear c5;obtain ⟨y230,hy230⟩:∃ y_:List Int,y_ = (([]:List Int)):=⟨_,rfl⟩;replace H:(r12_Calls.l1 k1 bE aN y230 0 aM) = some r:=by first | (rw [hy230];with_reducible exact H) | (have H2_:=(zK0 _ _).symm.trans H;rw [hy230];with_reducible exact H2_) | (have H2_:=(zK0 _ _).symm.trans H;with_reducible exact H2_) | with_reducible exact H | (rw [hy230];exact H) | exact H
    have Ny230:=a0C.mk hy230;clear hy230;have H':=a0C.mk H;clear H;have fB:wr.cell? ⟨bK,0,none⟩ = some (.slice bO aM.length bP):=(a0O aJ.out 0).trans rfl;have fC:=a0Q aJ.out 0;go_wp2_with (first | ((with_reducible refine a0V (N:=15) rfl ?_);refine Kd.a9T (Kd.int .i64) _ 3 ?hg (N:=15) ?hd (xs:=([]:List Int)) (inner:=[]) (ok:=fun _ =>True) (okp:=fun _ =>True) ?hr ?hp (fun _ hk =>hk) trivial (zJ0 _ _) (zG0 _) qG0 ?_;(case hd =>rfl);(case hg =>rfl);(case hr =>first | (go_simp;done) | (go_simp;rfl));(case hp =>exact (Reps.none _ _));intro v231 w7 ho8 hb hg_ hnew_;clear hg_ hnew_;(first | rw [← Ny230.out] at ho8 | (simp only [Int.reduceToNat] at ho8;rw [← Ny230.out] at ho8));replace aD:=a0C.mk (Kd.b3V qZ0 (Kd.a5C ho8) hb);have HO232:=a0C.mk (Kd.a2W ho8 (a0R qM0));replace aJ:=a0C.mk (a0U (g:=bK) (o:=.cells #[.slice bO aM.length bP] 24 (0,0)) qU0 hb);replace HB:=a0C.mk (a0L qM0 hb);clear hb ho8));go_loopg [5,6] k1 (fun kq v5 v6 w' =>∃ (bM:List Int) (aT:Int),v6 = .int .i64 aT∧a0C (r12_Calls.l1 kq bE aN bM aT aM = some r)∧a0C (kq≤k1)∧a0C (Kd.S (Kd.slice 3 (Kd.int .i64)) 43 w' w.heap.size (fun k_ =>some k_≠(v5:Value).ownBlock) u3 bE)∧a0C (Kd.R (Kd.int .i64) 3 w' w.heap.size (fun _ =>True) v5 bM)∧a0C (w'.heap[bK]? = some (.cells #[(.slice bO aM.length bP)] 24 (0,0)))∧a0C (Below w.heap.size w w'))
    case atStart =>exact ⟨(y230),(0),qE0,H',⟨zG0 _⟩,⟨by (with_reducible repeat (first | apply Kd.a1T | apply Kd.a1S | apply Kd.a2P));exact Kd.a5B aD.out (fun _ hk =>hk.2)⟩,⟨by (with_reducible repeat (first | apply Kd.a0T | apply Kd.a0S | apply Kd.a1B));exact HO232.out⟩,⟨by (with_reducible repeat (first | refine a0P ?_ _ | refine a0X ?_ | refine a0K ?_ _));exact aJ.out⟩,⟨by repeat (first | (with_reducible first | exact HB.out | apply a0B | apply a0A | apply a0D | refine a0G ?_ aZ.out) | exact HB.out)⟩⟩
    case round =>
     clear H';obtain ⟨bM,aT,rfl,HA,HK2,aD,aI,aJ,HB⟩:=hrel;cases gk with
     | zero =>exact absurd HA.out (by simp [r12_Calls.l1])
     | succ k2 =>
      have H:=HA.out;clear HA;simp only [r12_Calls.l1] at H;by_cases c9:aT < (aM.length:Int)
      ·rw [if_pos c9] at H;have c9b0:decide (aT < (aM.length:Int)) = true:=zC0 c9;clear c9;obtain ⟨t233,A10,H⟩:=ob_ H;by_cases c11:t233 = true
       ·subst c11;rw [if_pos rfl] at H;by_cases c12:bM.length < 17592186044416
        ·rw [if_pos c12] at H;have LMc12:=a0C.mk c12;clear c12;obtain ⟨y234,hy234⟩:∃ y_:List Int,y_ = (bM ++ [aT]):=⟨_,rfl⟩;replace H:(r12_Calls.l1 k2 bE aN y234 (wrap64 (aT + 1)) aM) = some r:=by first | (rw [hy234];with_reducible exact H) | (have H2_:=(zK0 _ _).symm.trans H;rw [hy234];with_reducible exact H2_) | (have H2_:=(zK0 _ _).symm.trans H;with_reducible exact H2_) | with_reducible exact H | (rw [hy234];exact H) | exact H
         have Ny234:=a0C.mk hy234;clear hy234;have H':=a0C.mk H;clear H;have eQ:=cf1 aJ.out;go_wp2_with (first | ((with_reducible refine a1A (f:=40) rfl ?_);refine a2B (some 26) rfl rfl Tryz.func40 qH0 rfl #[.agg #[.slice bO aM.length bP],.int .i64 aN,.int .i64 aT] rfl qC0 ?_;(with_reducible refine (r12_calls.calls _ _ aM aN aT true _ ?side1 ?side2 A10.out).mono ?_);(case side1 =>repeat (first | exact (Kd.a0I eH.out HB.out) | (with_reducible refine Kd.a1E ?_ _) | (with_reducible refine Kd.a1D ?_ _) | (with_reducible refine Kd.a1I ?_)));(case side2 =>exact eI.out);rintro e w14 ⟨rfl,hb⟩;refine ⟨_,rfl,?_⟩;replace aD:=a0C.mk (Kd.a7L qZ0 hb);replace aI:=a0C.mk (Kd.a3L qO0 hb);replace aJ:=a0C.mk (a0U (g:=bK) (o:=.cells #[.slice bO aM.length bP] 24 (0,0)) qU0 hb);replace HB:=a0C.mk (a0L qM0 hb);(try clear hb);(try clear hk)) | ((with_reducible refine a1H (b:=.append) (xs:=#[.tmp 27,.tmp 29]) rfl ?_);at_builtin;refine Kd.a2Q (Kd.int .i64) (w0:=w) w.heap.size rfl (.tmp 27) (.tmp 29) 43 3 (.int .i64 0) 8 rfl Tryz.underlying43 a9S rfl qF0 qD0 u5 bM aT [.int .i64 aT] (fun _ =>True) (fun _ =>False) rfl rfl ?aP (fun _ hk =>hk.elim) ?aF ?aO ?aB ?aS ?aL ?_;(case aP =>exact rfl);(case aB =>exact qM0);(case aF =>exact (fun _ _ =>trivial));(case aO =>exact qO0);(case aS =>exact (a0R qM0));(case aL =>have:=LMc12.out;omega);intro v235 w15 ho hb hg hat;rw [← Ny234.out] at ho;have aX:=a0C.mk (Kd.b3W (ok:=(fun _ =>True)) qB1 hg hat);have aY:=a0C.mk (a1O (g:=bK) (o:=.cells #[.slice bO aM.length bP] 24 (0,0)) qU0 hg (Kd.R_ne aI.out aJ.out qF0));have cA:=a0C.mk (hb);have eN:=a0C.mk (ho);clear aD;clear aJ;clear HB;clear aI;have aD:=aX;have aJ:=aY;have HB:=cA;have HO236:=eN;clear aX aY cA eN;clear ho hb hg hat));go_roundg k2
         case measure =>have:=HK1.out;have:=HK2.out;omega
         case rel =>exact ⟨(y234),(wrap64 (aT + 1)),qE0,H',⟨by have:=HK1.out;have:=HK2.out;omega⟩,⟨by (with_reducible repeat (first | apply Kd.a1T | apply Kd.a1S | apply Kd.a2P));exact Kd.a5B aD.out (fun _ hk =>hk.2)⟩,⟨by (with_reducible repeat (first | apply Kd.a0T | apply Kd.a0S | apply Kd.a1B));exact HO236.out⟩,⟨by (with_reducible repeat (first | refine a0P ?_ _ | refine a0X ?_ | refine a0K ?_ _));exact aJ.out⟩,⟨by repeat (first | (with_reducible first | exact HB.out | apply a0B | apply a0A | apply a0D | refine a0G ?_ aZ.out) | exact HB.out)⟩⟩
        ·rw [if_neg c12] at H;exact absurd H qG0
       ·replace c11:=Bool.eq_false_iff.mpr c11;subst c11;rw [if_neg (show ¬ (false = true) by decide)] at H;have H':=a0C.mk H;clear H;have eR:=cf1 aJ.out;go_wp2_with (first | ((with_reducible refine a1A (f:=40) rfl ?_);refine a2B (some 26) rfl rfl Tryz.func40 qH0 rfl #[.agg #[.slice bO aM.length bP],.int .i64 aN,.int .i64 aT] rfl qC0 ?_;(with_reducible refine (r12_calls.calls _ _ aM aN aT false _ ?side1 ?side2 A10.out).mono ?_);(case side1 =>repeat (first | exact (Kd.a0I eH.out HB.out) | (with_reducible refine Kd.a1E ?_ _) | (with_reducible refine Kd.a1D ?_ _) | (with_reducible refine Kd.a1I ?_)));(case side2 =>exact eI.out);rintro e w17 ⟨rfl,hb⟩;refine ⟨_,rfl,?_⟩;replace aD:=a0C.mk (Kd.a7L qZ0 hb);replace aI:=a0C.mk (Kd.a3L qO0 hb);replace aJ:=a0C.mk (a0U (g:=bK) (o:=.cells #[.slice bO aM.length bP] 24 (0,0)) qU0 hb);replace HB:=a0C.mk (a0L qM0 hb);(try clear hb)));go_roundg k2
        case measure =>have:=HK1.out;have:=HK2.out;omega
        case rel =>exact ⟨(bM),(wrap64 (aT + 1)),qE0,H',⟨by have:=HK1.out;have:=HK2.out;omega⟩,⟨by (with_reducible repeat (first | apply Kd.a1T | apply Kd.a1S | apply Kd.a2P));exact aD.out⟩,⟨by (with_reducible repeat (first | apply Kd.a0T | apply Kd.a0S | apply Kd.a1B));exact aI.out⟩,⟨by (with_reducible repeat (first | refine a0P ?_ _ | refine a0X ?_ | refine a0K ?_ _));exact aJ.out⟩,⟨by repeat (first | (with_reducible first | exact HB.out | apply a0B | apply a0A | apply a0D | refine a0G ?_ aZ.out) | exact HB.out)⟩⟩
      ·rw [if_neg c9] at H;have c9b0:decide (aT < (aM.length:Int)) = false:=zL0 c9;clear c9;by_cases c18:bE.length < 5864062014805
       ·rw [if_pos c18] at H;have LMc18:=a0C.mk c18;clear c18;obtain ⟨y237,hy237⟩:∃ y_:List (List Int),y_ = (bE ++ [bM]):=⟨_,rfl⟩;replace H:(r12_Calls.l0 k2 y237 (wrap64 (aN + 1)) aM) = some r:=by first | (rw [hy237];with_reducible exact H) | (have H2_:=(zK0 _ _).symm.trans H;rw [hy237];with_reducible exact H2_) | (have H2_:=(zK0 _ _).symm.trans H;with_reducible exact H2_) | with_reducible exact H | (rw [hy237];exact H) | exact H
        have Ny237:=a0C.mk hy237;clear hy237;have H':=a0C.mk H;clear H;have eS:=cf1 aJ.out;obtain ⟨Ao21,co21,eo21⟩:=Kd.a1V aI.out;subst eo21;go_wp2_with (first | ((with_reducible refine a1H (b:=.append) (xs:=#[.tmp 31,.tmp 33]) rfl ?_);at_builtin;refine Kd.b8N (Kd.slice 3 (Kd.int .i64)) (w0:=w) w.heap.size rfl (.tmp 31) (.tmp 33) 39 43 (.slice none 0 0) 24 rfl Tryz.underlying39 b8B rfl qF0 qD0 u3 bE bM [.slice Ao21 bM.length co21] (fun _ =>True) (fun k_ =>some k_ = (.slice Ao21 bM.length co21:Value).ownBlock) rfl rfl ?aP (fun k_ hk_ =>((Kd.a2S (ok':=fun k_ =>((fun _ =>True)) k_∧some k_≠(u3:Value).ownBlock) (Kd.b0F (aI.out) (Kd.b1K aD.out) qF0) (fun k_ hk =>⟨trivial,hk.2⟩))).1 k_ hk_.symm) ?aF ?aO ?aB ?aS ?aL ?_;(case aP =>exact Kd.M_row (Kd.a2S (Kd.b3X rfl (Kd.a2S (ok':=fun k_ =>((fun _ =>True)) k_∧some k_≠(u3:Value).ownBlock) (Kd.b0F (aI.out) (Kd.b1K aD.out) qF0) (fun k_ hk =>⟨trivial,hk.2⟩))) (fun _ h_ =>h_)));(case aB =>exact qM0);(case aF =>exact (fun _ _ =>trivial));(case aO =>exact (by (with_reducible repeat (first | apply Kd.a1T | apply Kd.a1S | apply Kd.a2P));exact Kd.a5B aD.out (fun k_ hk =>⟨trivial,fun e_ =>hk e_⟩)));(case aS =>exact (a0R qM0));(case aL =>have:=LMc18.out;omega);intro v238 w20 ho hb hg hat;rw [← Ny237.out] at ho;have aX:=a0C.mk (a1O (g:=bK) (o:=.cells #[.slice bO aM.length bP] 24 (0,0)) qU0 hg (Kd.S_ne aD.out aJ.out qF0));have aY:=a0C.mk (hb);have cA:=a0C.mk (ho);clear aJ;clear HB;clear aD;clear aI;have aJ:=aX;have HB:=aY;have HO239:=cA;clear aX aY cA;clear ho hb hg hat));go_roundg k2
        case measure =>have:=HK1.out;have:=HK2.out;omega
        case rel =>exact ⟨(y237),(wrap64 (aN + 1)),qE0,H',⟨by have:=HK1.out;have:=HK2.out;omega⟩,⟨by (with_reducible repeat (first | apply Kd.a1T | apply Kd.a1S | apply Kd.a2P));exact HO239.out⟩,⟨by (with_reducible repeat (first | refine a0P ?_ _ | refine a0X ?_ | refine a0K ?_ _));exact aJ.out⟩,⟨by repeat (first | (with_reducible first | exact HB.out | apply a0B | apply a0A | apply a0D | refine a0G ?_ aZ.out) | exact HB.out)⟩⟩
       ·rw [if_neg c18] at H;exact absurd H qG0
   ·rw [if_neg c5] at H;have c5b0:decide (aN < (aM.length:Int)) = false:=zL0 c5;clear c5;obtain rfl:=zD0 H;have eT:=cf1 aJ.out;go_wp2;go_ret;exact ⟨_,by first | rfl | (simp [a0N,a0M] <;> rfl) | (simp [*,a0N,a0M] <;> rfl),by (with_reducible repeat (first | apply Kd.a1T | apply Kd.a1S | apply Kd.a2P));exact aD.out,by repeat (first | (with_reducible first | exact HB.out | apply a0B | apply a0A | apply a0D | refine a0G ?_ aZ.out) | exact HB.out)⟩
mutual
def graph_May.l0:Nat→List (List Int)→List (List Int)→Int→Int→Option (Bool)
 | 0,_,_,_,_ =>none
 | k + 1,x0,x7,x8,x9 =>if x9 < x8 then (if 0≤x9 then (if x9 < (x7.length:Int) then (graph_May.l1 k x0 (a0W x7 x9) x7 x8 x9 (a0W x7 x9) ((a0W x7 x9).length:Int) 0) else (none)) else (none)) else (some (decide ((x0.length:Int)≤1000)))
def graph_May.l1:Nat→List (List Int)→List Int→List (List Int)→Int→Int→List Int→Int→Int→Option (Bool)
 | 0,_,_,_,_,_,_,_,_ =>none
 | k + 1,x0,x4,x7,x8,x9,x13,x14,x15 =>if x15 < x14 then (if 0≤x15 then (if x15 < (x13.length:Int) then (if (rd x13 x15) < 0 then (some false) else (if (rd x13 x15) ≥ (x0.length:Int) then (some false) else (if x15 > 0 then (if 0≤(wrap64 (x15 - 1)) then (if (wrap64 (x15 - 1)) < (x4.length:Int) then (if (rd x4 (wrap64 (x15 - 1))) ≥ (rd x13 x15) then (some false) else (graph_May.l1 k x0 x4 x7 x8 x9 x13 x14 (wrap64 (x15 + 1)))) else (none)) else (none)) else (graph_May.l1 k x0 x4 x7 x8 x9 x13 x14 (wrap64 (x15 + 1)))))) else (none)) else (none)) else (graph_May.l0 k x0 x7 x8 (wrap64 (x9 + 1)))
end
def graph_May.f (k:Nat) (l0:List (List Int)):Option (Bool):=graph_May.l0 k l0 l0 (l0.length:Int) 0
set_option maxHeartbeats 8000000 in
set_option maxRecDepth 100000 in
theorem graph_May.calls (k:Nat) (A0:Option Addr) (c0:Nat) (l0:List (List Int)) (r:Bool) (w:World) (hr0:Kd.C (Kd.slice 3 (Kd.int .i64)) w A0 l0.length l0) (hc0:l0.length≤c0) (h:graph_May.f k l0 = some r) :
    Calls Tryz.prog 28 #[.slice A0 l0.length c0] w fun e w' =>e = .returned (.bool r)∧a0Z w w':=by
 have HR0:=a0C.mk hr0;have HC0:=a0C.mk hc0;clear hr0 hc0;have H:(graph_May.l0 k l0 l0 (l0.length:Int) 0) = some r:=h;clear h;have H':=a0C.mk H;clear H;go_enter Tryz.func28,Tryz.ntmps28
 go_wp2;go_loopg [9] k (fun kq v9 w' =>∃ (aH:Int),v9 = .int .i64 aH∧a0C (graph_May.l0 kq l0 l0 (l0.length:Int) aH = some r)∧a0C (kq≤k)∧a0Z w w')
 case atStart =>exact ⟨(0),qE0,H',⟨zG0 _⟩,by repeat (first | exact a0Z.refl _ | apply a0Z.step)⟩
 case round =>
  clear H';obtain ⟨aH,rfl,HA,HK1,⟨m1,rfl⟩⟩:=hrel;cases gk with
  | zero =>exact absurd HA.out (by simp [graph_May.l0])
  | succ k1 =>
   have H:=HA.out;clear HA;simp only [graph_May.l0] at H;by_cases c2:aH < (l0.length:Int)
   ·rw [if_pos c2] at H;have c2b0:decide (aH < (l0.length:Int)) = true:=zC0 c2;clear c2;by_cases c3:0≤aH
    ·rw [if_pos c3] at H;have c3b0:decide (0≤aH) = true:=zC0 c3;clear c3;by_cases c4:aH < (l0.length:Int)
     ·rw [if_pos c4] at H;have c4b0:decide (aH < (l0.length:Int)) = true:=zC0 c4;clear c4;have H':=a0C.mk H;clear H;have p240:0≤(aH:Int):=zB0 qA0;have q240:aH < (l0.length:Int):=zB0 qA0;obtain ⟨ad240,fD,fE,e240,eU,cO,cQ⟩:=a3I HR0.out aH p240 q240;cases e240;have bI:=a0C.mk cQ;have eV:=a0C.mk cO;clear cQ cO;replace p240:=eq_true p240;replace q240:=eq_true q240;go_wp2;go_loopg [15] k1 (fun kq v15 w' =>∃ (aE:Int),v15 = .int .i64 aE∧a0C (graph_May.l1 kq l0 (a0W l0 aH) l0 (l0.length:Int) aH (a0W l0 aH) ((a0W l0 aH).length:Int) aE = some r)∧a0C (kq≤k1)∧a0Z w w')
      case atStart =>exact ⟨(0),qE0,H',⟨zG0 _⟩,by repeat (first | exact a0Z.refl _ | apply a0Z.step)⟩
      case round =>
       clear H';obtain ⟨aE,rfl,HA,HK2,⟨m2,rfl⟩⟩:=hrel;cases gk with
       | zero =>exact absurd HA.out (by simp [graph_May.l1])
       | succ k2 =>
        have H:=HA.out;clear HA;simp only [graph_May.l1] at H;by_cases c5:aE < ((a0W l0 aH).length:Int)
        ·rw [if_pos c5] at H;have c5b0:decide (aE < ((a0W l0 aH).length:Int)) = true:=zC0 c5;clear c5;by_cases c6:0≤aE
         ·rw [if_pos c6] at H;have c6b0:decide (0≤aE) = true:=zC0 c6;clear c6;by_cases c7:aE < ((a0W l0 aH).length:Int)
          ·rw [if_pos c7] at H;have c7b0:decide (aE < ((a0W l0 aH).length:Int)) = true:=zC0 c7;clear c7;by_cases c8:(rd (a0W l0 aH) aE) < 0
           ·rw [if_pos c8] at H;have c8b0:decide ((rd (a0W l0 aH) aE) < 0) = true:=zC0 c8;clear c8;obtain rfl:=zD0 H;have p241:0≤(aE:Int):=zB0 qA0;have q241:aE < ((a0W l0 aH).length:Int):=zB0 qA0;obtain ⟨ad241,e241,bZ⟩:=Kd.a1Q bI.out aE p241 q241;cases e241;replace p241:=eq_true p241;replace q241:=eq_true q241;go_wp2;go_ret;exact qN3
           ·rw [if_neg c8] at H;have c8b0:decide ((rd (a0W l0 aH) aE) < 0) = false:=zL0 c8;clear c8;by_cases c9:(rd (a0W l0 aH) aE) ≥ (l0.length:Int)
            ·rw [if_pos c9] at H;have c9b0:decide ((l0.length:Int)≤(rd (a0W l0 aH) aE)) = true:=zC0 c9;clear c9;obtain rfl:=zD0 H;have p241:0≤(aE:Int):=zB0 qA0;have q241:aE < ((a0W l0 aH).length:Int):=zB0 qA0;obtain ⟨ad241,e241,bZ⟩:=Kd.a1Q bI.out aE p241 q241;cases e241;replace p241:=eq_true p241;replace q241:=eq_true q241;go_wp2;go_ret;exact qN3
            ·rw [if_neg c9] at H;have c9b0:decide ((l0.length:Int)≤(rd (a0W l0 aH) aE)) = false:=zL0 c9;clear c9;by_cases c10:aE > 0
             ·rw [if_pos c10] at H;have c10b0:decide (0 < aE) = true:=zC0 c10;clear c10;obtain ⟨ji11,hji11⟩:∃ j_:Int,(wrap64 (aE - 1)) = j_:=⟨_,rfl⟩;replace H:(if 0≤(ji11) then (if (ji11) < ((a0W l0 aH).length:Int) then (if (rd (a0W l0 aH) (ji11)) ≥ (rd (a0W l0 aH) aE) then (some false) else (graph_May.l1 k2 l0 (a0W l0 aH) l0 (l0.length:Int) aH (a0W l0 aH) ((a0W l0 aH).length:Int) (wrap64 (aE + 1)))) else (none)) else (none)) = some r:=by first | (rw [hji11] at H;exact H) | (simp only [hji11] at H ⊢;exact H)
              have hji11w:(IntKind.i64.wrap (aE - 1)) = ji11:=(a4H _).trans hji11;by_cases c12:0≤(ji11)
              ·rw [if_pos c12] at H;have c12b0:decide (0≤(ji11)) = true:=zC0 c12;clear c12;by_cases c13:(ji11) < ((a0W l0 aH).length:Int)
               ·rw [if_pos c13] at H;have c13b0:decide ((ji11) < ((a0W l0 aH).length:Int)) = true:=zC0 c13;clear c13;by_cases c14:(rd (a0W l0 aH) (ji11)) ≥ (rd (a0W l0 aH) aE)
                ·rw [if_pos c14] at H;have c14b0:decide ((rd (a0W l0 aH) aE)≤(rd (a0W l0 aH) (ji11))) = true:=zC0 c14;clear c14;obtain rfl:=zD0 H;have p241:0≤(aE:Int):=zB0 qA0;have q241:aE < ((a0W l0 aH).length:Int):=zB0 qA0;obtain ⟨ad241,e241,bZ⟩:=Kd.a1Q bI.out aE p241 q241;cases e241;replace p241:=eq_true p241;replace q241:=eq_true q241;have p242:0≤((ji11):Int):=zB0 qA0;have q242:(ji11) < ((a0W l0 aH).length:Int):=zB0 qA0;obtain ⟨ad242,e242,dV⟩:=Kd.a1Q bI.out (ji11) p242 q242;obtain rfl:ad241 = ad242:=(by injection e242);replace p242:=eq_true p242;replace q242:=eq_true q242;go_wp2;go_ret;exact ⟨by first | rfl | (simp;done) | (simp only [← hji11] <;> (first | rfl | simp)) | (simp [*];done),by repeat (first | exact a0Z.refl _ | apply a0Z.step)⟩
                ·rw [if_neg c14] at H;have c14b0:decide ((rd (a0W l0 aH) aE)≤(rd (a0W l0 aH) (ji11))) = false:=zL0 c14;clear c14;have H':=a0C.mk H;clear H;have p241:0≤(aE:Int):=zB0 qA0;have q241:aE < ((a0W l0 aH).length:Int):=zB0 qA0;obtain ⟨ad241,e241,bZ⟩:=Kd.a1Q bI.out aE p241 q241;cases e241;replace p241:=eq_true p241;replace q241:=eq_true q241;have p242:0≤((ji11):Int):=zB0 qA0;have q242:(ji11) < ((a0W l0 aH).length:Int):=zB0 qA0;obtain ⟨ad242,e242,dV⟩:=Kd.a1Q bI.out (ji11) p242 q242;obtain rfl:ad241 = ad242:=(by injection e242);replace p242:=eq_true p242;replace q242:=eq_true q242;go_wp2;go_roundg k2
                 case measure =>have:=HK1.out;have:=HK2.out;omega
                 case rel =>exact ⟨(wrap64 (aE + 1)),qE0,H',⟨by have:=HK1.out;have:=HK2.out;omega⟩,by repeat (first | exact a0Z.refl _ | apply a0Z.step)⟩
               ·rw [if_neg c13] at H;exact absurd H qG0
              ·rw [if_neg c12] at H;exact absurd H qG0
             ·rw [if_neg c10] at H;have c10b0:decide (0 < aE) = false:=zL0 c10;clear c10;have H':=a0C.mk H;clear H;have p241:0≤(aE:Int):=zB0 qA0;have q241:aE < ((a0W l0 aH).length:Int):=zB0 qA0;obtain ⟨ad241,e241,bZ⟩:=Kd.a1Q bI.out aE p241 q241;cases e241;replace p241:=eq_true p241;replace q241:=eq_true q241;go_wp2;go_roundg k2
              case measure =>have:=HK1.out;have:=HK2.out;omega
              case rel =>exact ⟨(wrap64 (aE + 1)),qE0,H',⟨by have:=HK1.out;have:=HK2.out;omega⟩,by repeat (first | exact a0Z.refl _ | apply a0Z.step)⟩
          ·rw [if_neg c7] at H;exact absurd H qG0
         ·rw [if_neg c6] at H;exact absurd H qG0
        ·rw [if_neg c5] at H;have c5b0:decide (aE < ((a0W l0 aH).length:Int)) = false:=zL0 c5;clear c5;have H':=a0C.mk H;clear H;go_wp2;go_roundg k2
         case measure =>have:=HK1.out;have:=HK2.out;omega
         case rel =>exact ⟨(wrap64 (aH + 1)),qE0,H',⟨by have:=HK1.out;have:=HK2.out;omega⟩,by repeat (first | exact a0Z.refl _ | apply a0Z.step)⟩
     ·rw [if_neg c4] at H;exact absurd H qG0
    ·rw [if_neg c3] at H;exact absurd H qG0
   ·rw [if_neg c2] at H;have c2b0:decide (aH < (l0.length:Int)) = false:=zL0 c2;clear c2;obtain rfl:=zD0 H;go_wp2;go_ret;exact qN3
mutual
def graph_Turn.l0:Nat→List (List Int)→List (List Int)→Int→Int→Option ((List (List Int)))
 | 0,_,_,_,_ =>none
 | k + 1,x3,x14,x15,x16 =>if x16 < x15 then (if 0≤x16 then (if x16 < (x14.length:Int) then (graph_Turn.l1 k x3 x16 x14 x15 x16 (a0W x14 x16) ((a0W x14 x16).length:Int) 0) else (none)) else (none)) else (some x3)
def graph_Turn.l1:Nat→List (List Int)→Int→List (List Int)→Int→Int→List Int→Int→Int→Option ((List (List Int)))
 | 0,_,_,_,_,_,_,_,_ =>none
 | k + 1,x3,x4,x14,x15,x16,x21,x22,x23 =>if x23 < x22 then (if 0≤x23 then (if x23 < (x21.length:Int) then (if 0≤(rd x21 x23) then (if (rd x21 x23) < (x3.length:Int) then (if (a0W x3 (rd x21 x23)).length < 17592186044416 then (graph_Turn.l1 k (x3.set ((rd x21 x23):Int).toNat ((a0W x3 (rd x21 x23)) ++ [x4])) x4 x14 x15 x16 x21 x22 (wrap64 (x23 + 1))) else (none)) else (none)) else (none)) else (none)) else (none)) else (graph_Turn.l0 k x3 x14 x15 (wrap64 (x16 + 1)))
end
def graph_Turn.f (k:Nat) (l0:List (List Int)):Option ((List (List Int))):=(graph_May.f k l0).bind fun t243 =>(if t243 = true then (if 0≤(l0.length:Int) then (if ((l0.length:Int):Int).toNat≤11728124029610 then (graph_Turn.l0 k (List.replicate ((l0.length:Int):Int).toNat []) l0 (l0.length:Int) 0) else (none)) else (none)) else (some ([]:List (List Int))))
set_option maxHeartbeats 8000000 in
set_option maxRecDepth 100000 in
theorem graph_Turn.calls (k:Nat) (A0:Option Addr) (c0:Nat) (l0:List (List Int)) (r:List (List Int)) (w:World) (hr0:Kd.C (Kd.slice 3 (Kd.int .i64)) w A0 l0.length l0) (hc0:l0.length≤c0) (h:graph_Turn.f k l0 = some r) :
    Calls Tryz.prog 51 #[.slice A0 l0.length c0] w fun e w' =>∃ v0_:Value,e = .returned (v0_)∧Kd.S (Kd.slice 3 (Kd.int .i64)) 43 w' w.heap.size (fun _ =>True) v0_ r∧Below w.heap.size w w':=by
 have HR0:=a0C.mk hr0;have HC0:=a0C.mk hc0;clear hr0 hc0;have HB:=a0C.mk (zJ0 w.heap.size w);have H:((graph_May.f k l0).bind fun t243 =>(if t243 = true then (if 0≤(l0.length:Int) then (if ((l0.length:Int):Int).toNat≤11728124029610 then (graph_Turn.l0 k (List.replicate ((l0.length:Int):Int).toNat []) l0 (l0.length:Int) 0) else (none)) else (none)) else (some ([]:List (List Int))))) = some r:=h;clear h;obtain ⟨t243,A2,H⟩:=ob_ H;by_cases c3:t243 = true
 ·subst c3;rw [if_pos rfl] at H;by_cases c4:0≤(l0.length:Int)
  ·rw [if_pos c4] at H;have c4b0:=eq_true c4;have c4b1:decide (0≤(l0.length:Int)) = true:=zC0 c4;clear c4;by_cases c5:((l0.length:Int):Int).toNat≤11728124029610
   ·rw [if_pos c5] at H;have c5b0:=eq_true c5;have c5b1:decide (((l0.length:Int):Int).toNat≤11728124029610) = true:=zC0 c5;clear c5;obtain ⟨y244,hy244⟩:∃ y_:List (List Int),y_ = (List.replicate ((l0.length:Int):Int).toNat []):=⟨_,rfl⟩;replace H:(graph_Turn.l0 k y244 l0 (l0.length:Int) 0) = some r:=by first | (rw [hy244];with_reducible exact H) | (have H2_:=(zK0 _ _).symm.trans H;rw [hy244];with_reducible exact H2_) | (have H2_:=(zK0 _ _).symm.trans H;with_reducible exact H2_) | with_reducible exact H | (rw [hy244];exact H) | exact H
    have Ny244:=a0C.mk hy244;clear hy244;have H':=a0C.mk H;clear H;go_enter Tryz.func51,Tryz.ntmps51
    go_wp2_with (first | ((with_reducible refine a1A (f:=28) rfl ?_);refine a2B (some 9) rfl rfl Tryz.func28 qH0 rfl #[.slice A0 l0.length c0] rfl qC0 ?_;(with_reducible refine (graph_May.calls k _ _ l0 true _ ?side1 ?side2 A2.out).mono ?_);(case side1 =>repeat (first | exact HR0.out | (with_reducible refine Kd.a1E ?_ _) | (with_reducible refine Kd.a1D ?_ _) | (with_reducible refine Kd.a1I ?_)));(case side2 =>exact HC0.out);rintro e w' ⟨rfl,⟨nd,rfl⟩⟩;refine ⟨_,rfl,?_⟩) | ((with_reducible refine a0V (N:=13) rfl ?_);refine Kd.S_make (Kd.slice 3 (Kd.int .i64)) _ 43 rfl (N:=13) rfl 39 _ _ rfl (l0.length:Int) rfl rfl Tryz.underlying39 (.slice none 0 0) 24 b8B rfl qF0 qD0 [] (ok:=fun _ =>True) (okp:=fun _ =>True) ⟨_,rfl,Kd.a9A _ _ _ _ _⟩ (fun _ hk =>hk) trivial (zB0 qA0) (zH0 (zL1 _ (zB0 qA0:(l0.length:Int).toNat≤11728124029610)) qD0) (zJ0 _ _) (zG0 _) ?_;intro v245 w6 ho7 hb hg_ hnew_;clear hg_ hnew_;(first | rw [← Ny244.out] at ho7 | (simp only [Int.reduceToNat] at ho7;rw [← Ny244.out] at ho7));have HO246:=a0C.mk (Kd.b1M ho7 (a0R qB0));replace HB:=a0C.mk (a0L qB0 hb);clear hb ho7));go_loopg [16] k (fun kq v16 w' =>∃ (bE:List (List Int)) (aC:Int),v16 = .int .i64 aC∧a0C (graph_Turn.l0 kq bE l0 (l0.length:Int) aC = some r)∧a0C (kq≤k)∧a0C (Kd.S (Kd.slice 3 (Kd.int .i64)) 43 w' w.heap.size (fun _ =>True) v245 bE)∧a0C (Below w.heap.size w w'))
    case atStart =>exact ⟨(y244),(0),qE0,H',⟨zG0 _⟩,⟨by (with_reducible repeat (first | apply Kd.a1T | apply Kd.a1S | apply Kd.a2P));exact HO246.out⟩,⟨by repeat (first | (with_reducible first | exact HB.out | apply a0B | apply a0A | apply a0D) | exact HB.out)⟩⟩
    case round =>
     clear H';obtain ⟨bE,aC,rfl,HA,HK1,aD,HB⟩:=hrel;cases gk with
     | zero =>exact absurd HA.out (by simp [graph_Turn.l0])
     | succ k1 =>
      have H:=HA.out;clear HA;simp only [graph_Turn.l0] at H;by_cases c8:aC < (l0.length:Int)
      ·rw [if_pos c8] at H;have c8b0:decide (aC < (l0.length:Int)) = true:=zC0 c8;clear c8;by_cases c9:0≤aC
       ·rw [if_pos c9] at H;have c9b0:decide (0≤aC) = true:=zC0 c9;clear c9;by_cases c10:aC < (l0.length:Int)
        ·rw [if_pos c10] at H;have c10b0:decide (aC < (l0.length:Int)) = true:=zC0 c10;clear c10;have H':=a0C.mk H;clear H;have p247:0≤(aC:Int):=zB0 qA0;have q247:aC < (l0.length:Int):=zB0 qA0;obtain ⟨ad247,fF,fG,e247,cR,cU,cV⟩:=a3I HR0.out aC p247 q247;cases e247;replace cR:=a0E HB.out cR;have dW:=a0C.mk cV;have eW:=a0C.mk cU;clear cV cU;replace p247:=eq_true p247;replace q247:=eq_true q247;go_wp2;go_loopg [23] k1 (fun kq v23 w' =>∃ (bC:List (List Int)) (aG:Int),v23 = .int .i64 aG∧a0C (graph_Turn.l1 kq bC aC l0 (l0.length:Int) aC (a0W l0 aC) ((a0W l0 aC).length:Int) aG = some r)∧a0C (kq≤k1)∧a0C (Kd.S (Kd.slice 3 (Kd.int .i64)) 43 w' w.heap.size (fun _ =>True) v245 bC)∧a0C (Below w.heap.size w w'))
         case atStart =>exact ⟨(bE),(0),qE0,H',⟨zG0 _⟩,⟨by (with_reducible repeat (first | apply Kd.a1T | apply Kd.a1S | apply Kd.a2P));exact aD.out⟩,⟨by repeat (first | (with_reducible first | exact HB.out | apply a0B | apply a0A | apply a0D) | exact HB.out)⟩⟩
         case round =>
          clear H';obtain ⟨bC,aG,rfl,HA,HK2,aD,HB⟩:=hrel;cases gk with
          | zero =>exact absurd HA.out (by simp [graph_Turn.l1])
          | succ k2 =>
           have H:=HA.out;clear HA;simp only [graph_Turn.l1] at H;by_cases c11:aG < ((a0W l0 aC).length:Int)
           ·rw [if_pos c11] at H;have c11b0:decide (aG < ((a0W l0 aC).length:Int)) = true:=zC0 c11;clear c11;by_cases c12:0≤aG
            ·rw [if_pos c12] at H;have c12b0:decide (0≤aG) = true:=zC0 c12;clear c12;by_cases c13:aG < ((a0W l0 aC).length:Int)
             ·rw [if_pos c13] at H;have c13b0:decide (aG < ((a0W l0 aC).length:Int)) = true:=zC0 c13;clear c13;by_cases c14:0≤(rd (a0W l0 aC) aG)
              ·rw [if_pos c14] at H;have c14b0:decide (0≤(rd (a0W l0 aC) aG)) = true:=zC0 c14;clear c14;by_cases c15:(rd (a0W l0 aC) aG) < (bC.length:Int)
               ·rw [if_pos c15] at H;have c15b0:decide ((rd (a0W l0 aC) aG) < (bC.length:Int)) = true:=zC0 c15;clear c15;by_cases c16:(a0W bC (rd (a0W l0 aC) aG)).length < 17592186044416
                ·rw [if_pos c16] at H;have LMc16:=a0C.mk c16;clear c16;obtain ⟨y250,hy250⟩:∃ y_:List Int,y_ = ((a0W bC (rd (a0W l0 aC) aG)) ++ [aC]):=⟨_,rfl⟩;replace H:(graph_Turn.l1 k2 (bC.set ((rd (a0W l0 aC) aG):Int).toNat y250) aC l0 (l0.length:Int) aC (a0W l0 aC) ((a0W l0 aC).length:Int) (wrap64 (aG + 1))) = some r:=by first | (rw [hy250];with_reducible exact H) | (have H2_:=(zK0 _ _).symm.trans H;rw [hy250];with_reducible exact H2_) | (have H2_:=(zK0 _ _).symm.trans H;with_reducible exact H2_) | with_reducible exact H | (rw [hy250];exact H) | exact H
                 have Ny250:=a0C.mk hy250;clear hy250;obtain ⟨y253,hy253⟩:∃ y_:List (List Int),y_ = (bC.set ((rd (a0W l0 aC) aG):Int).toNat y250):=⟨_,rfl⟩;replace H:(graph_Turn.l1 k2 y253 aC l0 (l0.length:Int) aC (a0W l0 aC) ((a0W l0 aC).length:Int) (wrap64 (aG + 1))) = some r:=by first | (rw [hy253];with_reducible exact H) | (have H2_:=(zK0 _ _).symm.trans H;rw [hy253];with_reducible exact H2_) | (have H2_:=(zK0 _ _).symm.trans H;with_reducible exact H2_) | with_reducible exact H | (rw [hy253];exact H) | exact H
                 have Ny253:=a0C.mk hy253;clear hy253;have H':=a0C.mk H;clear H;have p248:0≤(aG:Int):=zB0 qA0;have q248:aG < ((a0W l0 aC).length:Int):=zB0 qA0;obtain ⟨ad248,e248,cW⟩:=Kd.a1Q dW.out aG p248 q248;cases e248;replace cW:=a0E HB.out cW;replace p248:=eq_true p248;replace q248:=eq_true q248;obtain ⟨Ao18,co18,eo18⟩:=Kd.b1L aD.out;subst eo18;have p249:0≤((rd (a0W l0 aC) aG):Int):=zB0 qA0;have q249:(rd (a0W l0 aC) aG) < (bC.length:Int):=zB0 qA0;obtain ⟨ad249,dN,dO,e249,cB,cX,cY⟩:=a3I (Kd.a4A aD.out).2.2 (rd (a0W l0 aC) aG) p249 q249;cases e249;obtain ⟨ce249,eL,eM,dP⟩:=Kd.S_get aD.out [] (rd (a0W l0 aC) aG) p249 (by first | exact q249 | exact zB0 qA0 | (have e_:=(Kd.a4A aD.out).1;omega));obtain ⟨eX,rfl,cC⟩:=eM;have bQ:=dP 0 _ rfl;rw [zW3,show ((Kd.slice 3 (Kd.int .i64))).sz = 1 from rfl,zB3] at bQ;replace bQ:=zD0 (bQ.symm.trans cB);rw [bQ] at cC;have dX:=a0C.mk (show Kd.R (Kd.int .i64) 3 _ _ _ _ (a0W bC (rd (a0W l0 aC) aG)) from cC);clear bQ cC;have dY:=a0C.mk cB;clear dP eL;have eY:=a0C.mk cY;have eZ:=a0C.mk cX;clear cY cX;replace p249:=eq_true p249;replace q249:=eq_true q249;obtain ⟨go19,co19,eo19,eO,gl19,cl19,HG19⟩:=Kd.S_form aD.out (by have h_:((rd (a0W l0 aC) aG):Int) < ((bC.length:Int):Int):=zB0 qA0;have h2_:0≤((rd (a0W l0 aC) aG):Int):=(zB0 qA0);omega)
                 (first | cases eo19 | (injection eo19 with ea_ en_ ec_;(first | subst ea_ | (injection ea_ with ea_;subst ea_));subst ec_;clear en_))
                 have GB19:=a0C.mk eO;have GG19:=a0C.mk HG19;clear eO gl19 HG19
                 (first | simp only [a4N] at cB | skip)
                 obtain ⟨oki19,ce19,hcl19,hM19,eJ,_,_,hH19⟩:=Kd.S_elem aD.out [] ((rd (a0W l0 aC) aG):Int) (zB0 qA0) (by have h_:((rd (a0W l0 aC) aG):Int) < ((bC.length:Int):Int):=zB0 qA0;first | exact h_ | (have e_:=(Kd.a4A aD.out).1;omega) | simpa using h_);obtain ⟨fH,rfl,dQ⟩:=hM19;have hv19:=eJ 0 _ rfl;have hX19:=dY.out
                 (try simp only [a4N] at hX19)
                 (try simp only [zW3] at hv19)
                 (try rw [show ((Kd.slice 3 (Kd.int .i64))).sz = 1 from rfl,zB3] at hv19)
                 replace hv19:=zD0 (hv19.symm.trans hX19);subst hv19;clear hX19 eJ hcl19;have UU19:=a0C.mk (show Kd.R (Kd.int .i64) 3 _ w.heap.size oki19 (.slice dN (a0W bC (rd (a0W l0 aC) aG)).length dO) (a0W bC (rd (a0W l0 aC) aG)) from dQ);have HH19:=a0C.mk hH19;have HN19:=a0C.mk (Kd.a4A aD.out).1;clear hH19 dQ;go_wp2_with (first | ((with_reducible refine a1H (b:=.append) (xs:=#[.tmp 32,.tmp 34]) rfl ?_);at_builtin;refine Kd.a2Q (Kd.int .i64) (w0:=w) w.heap.size rfl (.tmp 32) (.tmp 34) 43 3 (.int .i64 0) 8 rfl Tryz.underlying43 a9S rfl qF0 qD0 (.slice dN (a0W bC (rd (a0W l0 aC) aG)).length dO) (a0W bC (rd (a0W l0 aC) aG)) aC [.int .i64 aC] (fun k_ =>oki19 k_∨((fun _ =>True)) k_∧wr.heap.size≤k_) (fun _ =>False) rfl rfl ?aP (fun _ hk =>hk.elim) ?aF ?aO ?aB ?aS ?aL ?_;(case aP =>exact rfl);(case aB =>exact qB0);(case aF =>exact (fun k_ hk =>.inr ⟨trivial,hk⟩));(case aO =>exact (by (with_reducible repeat (first | apply Kd.a0T | apply Kd.a0S | apply Kd.a1B));exact Kd.a2S UU19.out (fun _ hk =>.inl hk)));(case aS =>exact (a0R qB0));(case aL =>have:=LMc16.out;omega);intro v251 w20 ho hb hg hat;rw [← Ny250.out] at ho;have aX:=a0C.mk (hb);have aY:=a0C.mk (Kd.H_grown (Kd.H_widen (by repeat (first | exact HH19.out | refine Kd.H_alloc ?_ _ | refine Kd.H_drewN ?_ _ | refine Kd.H_drew ?_))) hg (fun k_ e_ =>.inl (UU19.out.1 k_ e_)));have cA:=a0C.mk (ho);clear HB;clear HH19;clear aD;clear UU19;clear dX;have HB:=aX;have HH19:=aY;have HO252:=cA;clear aX aY cA;clear ho hb hg hat;have p17:0≤((rd (a0W l0 aC) aG):Int):=zB0 qA0;have q17:((rd (a0W l0 aC) aG):Int) < ((bC.length:Int):Int):=zB0 qA0;replace p17:=eq_true p17;replace q17:=eq_true q17;obtain ⟨Ao23,co23,eo23⟩:=Kd.a1V HO252.out;subst eo23;obtain ⟨_,_,hraw21,_,_,eK,_⟩:=Kd.H_raw HH19.out (zB0 qA0) (by have h_:((rd (a0W l0 aC) aG):Int) < ((bC.length:Int):Int):=zB0 qA0;first | exact h_ | (have e_:=(HN19.out);omega) | simpa using h_);obtain ⟨_,hfr21⟩:=Kd.H_at HH19.out (zB0 qA0) (by have h_:((rd (a0W l0 aC) aG):Int) < ((bC.length:Int):Int):=zB0 qA0;first | exact h_ | (have e_:=(HN19.out);omega) | simpa using h_);have dR:=eK 0 _ rfl;have dS:=hfr21 0;(try simp only [zW3] at dR dS);(try rw [show ((Kd.slice 3 (Kd.int .i64))).sz = 1 from rfl,zB3] at dR);(try rw [show ((Kd.slice 3 (Kd.int .i64))).sz = 1 from rfl,zB3] at dS);have HP21:=Kd.S_seg0 HH19.out (zB0 qA0) (by have h_:((rd (a0W l0 aC) aG):Int) < ((bC.length:Int):Int):=zB0 qA0;first | exact h_ | (have e_:=(HN19.out);omega) | simpa using h_) (seg:=[.slice Ao23 y250.length co23]) (j:=0) (show 1≤1 from by decide) (x':=y250) (Kd.M_row HO252.out) (fun _ hk =>hk);(try simp only [show ((Kd.slice 3 (Kd.int .i64))).sz = 1 from rfl,zB3,zW3] at HP21);clear eK hfr21) | ((with_reducible refine a0Y (t:=43) (p:=36) rfl ?_);refine a6M (t:=43) (p:=36) (v:=?vo_w22) (w1:=(w20.setCell ⟨go19,((rd (a0W l0 aC) aG):Int).toNat,none⟩ (.slice Ao23 y250.length co23))) ?hg ?ho ?hn ?hr ?_;(case ho =>rfl);(case hg =>rfl);(case hn =>rfl);(case hr =>first | (go_simp;done) | (go_simp;rfl));intro w22 hw;have hg:w20.grownBy w22 (some go19):=(by rw [hw];exact HP21.2);have hp_:Kd.S (Kd.slice 3 (Kd.int .i64)) 43 w22 w.heap.size (fun _ =>True) (.slice (some ⟨go19,0,none⟩) bC.length co18) y253:=(by rw [hw,Ny253.out];exact HP21.1);clear HP21;have aX:=a0C.mk ((by rw [hw];exact a0G HB.out GB19.out:Below w.heap.size w w22));have aY:=a0C.mk (hp_);clear HB;clear HO252;clear HH19;have HB:=aX;have aD:=aY;clear aX aY;clear hg hw hp_ hraw21));go_roundg k2
                 case measure =>have:=HK1.out;have:=HK2.out;omega
                 case rel =>exact ⟨(y253),(wrap64 (aG + 1)),qE0,H',⟨by have:=HK1.out;have:=HK2.out;omega⟩,⟨by (with_reducible repeat (first | apply Kd.a1T | apply Kd.a1S | apply Kd.a2P));exact aD.out⟩,⟨by repeat (first | (with_reducible first | exact HB.out | apply a0B | apply a0A | apply a0D) | exact HB.out)⟩⟩
                ·rw [if_neg c16] at H;exact absurd H qG0
               ·rw [if_neg c15] at H;exact absurd H qG0
              ·rw [if_neg c14] at H;exact absurd H qG0
             ·rw [if_neg c13] at H;exact absurd H qG0
            ·rw [if_neg c12] at H;exact absurd H qG0
           ·rw [if_neg c11] at H;have c11b0:decide (aG < ((a0W l0 aC).length:Int)) = false:=zL0 c11;clear c11;have H':=a0C.mk H;clear H;go_wp2;go_roundg k2
            case measure =>have:=HK1.out;have:=HK2.out;omega
            case rel =>exact ⟨(bC),(wrap64 (aC + 1)),qE0,H',⟨by have:=HK1.out;have:=HK2.out;omega⟩,⟨by (with_reducible repeat (first | apply Kd.a1T | apply Kd.a1S | apply Kd.a2P));exact aD.out⟩,⟨by repeat (first | (with_reducible first | exact HB.out | apply a0B | apply a0A | apply a0D) | exact HB.out)⟩⟩
        ·rw [if_neg c10] at H;exact absurd H qG0
       ·rw [if_neg c9] at H;exact absurd H qG0
      ·rw [if_neg c8] at H;have c8b0:decide (aC < (l0.length:Int)) = false:=zL0 c8;clear c8;obtain rfl:=zD0 H;go_wp2;go_ret;exact qU3
   ·rw [if_neg c5] at H;exact absurd H qG0
  ·rw [if_neg c4] at H;exact absurd H qG0
 ·replace c3:=Bool.eq_false_iff.mpr c3;subst c3;rw [if_neg (show ¬ (false = true) by decide)] at H;obtain rfl:=zD0 H;go_enter Tryz.func51,Tryz.ntmps51
  go_wp2_with (first | ((with_reducible refine a1A (f:=28) rfl ?_);refine a2B (some 9) rfl rfl Tryz.func28 qH0 rfl #[.slice A0 l0.length c0] rfl qC0 ?_;(with_reducible refine (graph_May.calls k _ _ l0 false _ ?side1 ?side2 A2.out).mono ?_);(case side1 =>repeat (first | exact HR0.out | (with_reducible refine Kd.a1E ?_ _) | (with_reducible refine Kd.a1D ?_ _) | (with_reducible refine Kd.a1I ?_)));(case side2 =>exact HC0.out);rintro e w' ⟨rfl,⟨nd,rfl⟩⟩;refine ⟨_,rfl,?_⟩));go_ret;exact ⟨_,by first | rfl | (simp [a0N,a0M] <;> rfl) | (simp [*,a0N,a0M] <;> rfl),by first | exact Kd.c3V _ _ _ _ _ | exact Kd.b9V _ _ _ _ _ | exact Kd.V_nil _ _ _ _ _ | exact Kd.Q_nil _ _ _ _ _ | exact Kd.a9A _ _ _ _ _,by repeat (first | (with_reducible first | exact HB.out | apply a0B | apply a0A | apply a0D) | exact HB.out)⟩
def r13_Reaches.l0:Nat→List (List Int)→List (List Int)→Int→Option ((List (List Int)))
 | 0,_,_,_ =>none
 | k + 1,x0,x3,x4 =>if x4 < (x0.length:Int) then ((r12_Reach.f k x0 x4).bind fun t257 =>(if x3.length < 5864062014805 then (r13_Reaches.l0 k x0 (x3 ++ [t257]) (wrap64 (x4 + 1))) else (none))) else (some x3)
def r13_Reaches.f (k:Nat) (l0:List (List Int)):Option ((List (List Int))):=r13_Reaches.l0 k l0 (([]:List (List Int))) 0
set_option maxHeartbeats 8000000 in
set_option maxRecDepth 100000 in
theorem r13_Reaches.calls (k:Nat) (A0:Option Addr) (c0:Nat) (l0:List (List Int)) (r:List (List Int)) (w:World) (hr0:Kd.C (Kd.slice 3 (Kd.int .i64)) w A0 l0.length l0) (hc0:l0.length≤c0) (h:r13_Reaches.f k l0 = some r) :
    Calls Tryz.prog 41 #[.slice A0 l0.length c0] w fun e w' =>∃ v0_:Value,e = .returned (v0_)∧Kd.S (Kd.slice 3 (Kd.int .i64)) 43 w' w.heap.size (fun _ =>True) v0_ r∧Below w.heap.size w w':=by
 have HR0:=a0C.mk hr0;have HC0:=a0C.mk hc0;clear hr0 hc0;have HB:=a0C.mk (zJ0 w.heap.size w);have H:(r13_Reaches.l0 k l0 (([]:List (List Int))) 0) = some r:=h;clear h;obtain ⟨y254,hy254⟩:∃ y_:List (List Int),y_ = (([]:List (List Int))):=⟨_,rfl⟩;replace H:(r13_Reaches.l0 k l0 y254 0) = some r:=by first | (rw [hy254];with_reducible exact H) | (have H2_:=(zK0 _ _).symm.trans H;rw [hy254];with_reducible exact H2_) | (have H2_:=(zK0 _ _).symm.trans H;with_reducible exact H2_) | with_reducible exact H | (rw [hy254];exact H) | exact H
 have Ny254:=a0C.mk hy254;clear hy254;have H':=a0C.mk H;clear H;go_enter Tryz.func41,Tryz.ntmps41
 go_wp2_with (first | ((with_reducible refine a0V (N:=5) rfl ?_);refine Kd.S_lit (Kd.slice 3 (Kd.int .i64)) _ 43 ?hg (N:=5) ?hd (xs:=([]:List (List Int))) (inner:=[]) (ok:=fun _ =>True) (okp:=fun _ =>True) ?hr ?hp (fun _ hk =>hk) trivial (zJ0 _ _) (zG0 _) qG0 ?_;(case hd =>rfl);(case hg =>rfl);(case hr =>first | (go_simp;done) | (go_simp;rfl));(case hp =>exact (Reps.none _ _));intro v255 w2 ho3 hb hg_ hnew_;clear hg_ hnew_;(first | rw [← Ny254.out] at ho3 | (simp only [Int.reduceToNat] at ho3;rw [← Ny254.out] at ho3));have HO256:=a0C.mk (Kd.b1M ho3 (a0R qB0));replace HB:=a0C.mk (a0L qB0 hb);clear hb ho3));go_loopg [3,4] k (fun kq v3 v4 w' =>∃ (bE:List (List Int)) (aN:Int),v4 = .int .i64 aN∧a0C (r13_Reaches.l0 kq l0 bE aN = some r)∧a0C (kq≤k)∧a0C (Kd.S (Kd.slice 3 (Kd.int .i64)) 43 w' w.heap.size (fun _ =>True) v3 bE)∧a0C (Below w.heap.size w w'))
 case atStart =>exact ⟨(y254),(0),qE0,H',⟨zG0 _⟩,⟨by (with_reducible repeat (first | apply Kd.a1T | apply Kd.a1S | apply Kd.a2P));exact HO256.out⟩,⟨by repeat (first | (with_reducible first | exact HB.out | apply a0B | apply a0A | apply a0D) | exact HB.out)⟩⟩
 case round =>
  clear H';obtain ⟨bE,aN,rfl,HA,HK1,aD,HB⟩:=hrel;cases gk with
  | zero =>exact absurd HA.out (by simp [r13_Reaches.l0])
  | succ k1 =>
   have H:=HA.out;clear HA;simp only [r13_Reaches.l0] at H;by_cases c4:aN < (l0.length:Int)
   ·rw [if_pos c4] at H;have c4b0:decide (aN < (l0.length:Int)) = true:=zC0 c4;clear c4;obtain ⟨t257,A5,H⟩:=ob_ H;by_cases c6:bE.length < 5864062014805
    ·rw [if_pos c6] at H;have LMc6:=a0C.mk c6;clear c6;obtain ⟨y260,hy260⟩:∃ y_:List (List Int),y_ = (bE ++ [t257]):=⟨_,rfl⟩;replace H:(r13_Reaches.l0 k1 l0 y260 (wrap64 (aN + 1))) = some r:=by first | (rw [hy260];with_reducible exact H) | (have H2_:=(zK0 _ _).symm.trans H;rw [hy260];with_reducible exact H2_) | (have H2_:=(zK0 _ _).symm.trans H;with_reducible exact H2_) | with_reducible exact H | (rw [hy260];exact H) | exact H
     have Ny260:=a0C.mk hy260;clear hy260;have H':=a0C.mk H;clear H;go_wp2_with (first | ((with_reducible refine a1A (f:=21) rfl ?_);refine a2B (some 15) rfl rfl Tryz.func21 qH0 rfl #[.slice A0 l0.length c0,.int .i64 aN] rfl qC0 ?_;(with_reducible refine (r12_Reach.calls k1 _ _ l0 aN t257 _ ?side1 ?side2 A5.out).mono ?_);(case side1 =>repeat (first | exact (Kd.a0I HR0.out HB.out) | (with_reducible refine Kd.a1E ?_ _) | (with_reducible refine Kd.a1D ?_ _) | (with_reducible refine Kd.a1I ?_)));(case side2 =>exact HC0.out);rintro e w7 ⟨v258,rfl,ho0,hb⟩;refine ⟨_,rfl,?_⟩;replace aD:=a0C.mk (Kd.b3V qZ0 (Kd.a5C ho0) hb);have HO259:=a0C.mk (Kd.a2W ho0 (a0R qB0));replace HB:=a0C.mk (a0L qB0 hb);(try clear hb);(try clear hk);(try clear ho0);obtain ⟨Ao9,co9,eo9⟩:=Kd.a1V HO259.out;subst eo9) | ((with_reducible refine a1H (b:=.append) (xs:=#[.tmp 12,.tmp 16]) rfl ?_);at_builtin;refine Kd.b8N (Kd.slice 3 (Kd.int .i64)) (w0:=w) w.heap.size rfl (.tmp 12) (.tmp 16) 39 43 (.slice none 0 0) 24 rfl Tryz.underlying39 b8B rfl qF0 qD0 u3 bE t257 [.slice Ao9 t257.length co9] (fun _ =>True) (fun k_ =>some k_ = (.slice Ao9 t257.length co9:Value).ownBlock) rfl rfl ?aP (fun k_ hk_ =>((Kd.a2S (ok':=fun k_ =>((fun _ =>True)) k_∧some k_≠(u3:Value).ownBlock) (Kd.b0F (HO259.out) (Kd.b1K aD.out) qF0) (fun k_ hk =>⟨trivial,hk.2⟩))).1 k_ hk_.symm) ?aF ?aO ?aB ?aS ?aL ?_;(case aP =>exact Kd.M_row (Kd.a2S (Kd.b3X rfl (Kd.a2S (ok':=fun k_ =>((fun _ =>True)) k_∧some k_≠(u3:Value).ownBlock) (Kd.b0F (HO259.out) (Kd.b1K aD.out) qF0) (fun k_ hk =>⟨trivial,hk.2⟩))) (fun _ h_ =>h_)));(case aB =>exact qB0);(case aF =>exact (fun _ _ =>trivial));(case aO =>exact (by (with_reducible repeat (first | apply Kd.a1T | apply Kd.a1S | apply Kd.a2P));exact Kd.a5B aD.out (fun k_ hk =>⟨trivial,fun e_ =>hk.2 e_⟩)));(case aS =>exact (a0R qB0));(case aL =>have:=LMc6.out;omega);intro v261 w8 ho hb hg hat;rw [← Ny260.out] at ho;have aX:=a0C.mk (hb);have aY:=a0C.mk (ho);clear HB;clear aD;clear HO259;have HB:=aX;have HO262:=aY;clear aX aY;clear ho hb hg hat));go_roundg k1
     case measure =>have:=HK1.out;omega
     case rel =>exact ⟨(y260),(wrap64 (aN + 1)),qE0,H',⟨by have:=HK1.out;omega⟩,⟨by (with_reducible repeat (first | apply Kd.a1T | apply Kd.a1S | apply Kd.a2P));exact HO262.out⟩,⟨by repeat (first | (with_reducible first | exact HB.out | apply a0B | apply a0A | apply a0D) | exact HB.out)⟩⟩
    ·rw [if_neg c6] at H;exact absurd H qG0
   ·rw [if_neg c4] at H;have c4b0:decide (aN < (l0.length:Int)) = false:=zL0 c4;clear c4;obtain rfl:=zD0 H;go_wp2;go_ret;exact qU3
def r13_Knot.f (k:Nat) (l0:List (List Int)) (a1:Int) (a2:Int):Option (Bool):=if 0≤a1 then (if a1 < (l0.length:Int) then ((r12_Has.f k (a0W l0 a1) a2).bind fun t264 =>(if t264 = true then (if 0≤a2 then (if a2 < (l0.length:Int) then ((r12_Has.f k (a0W l0 a2) a1).bind fun t266 =>(some t266)) else (none)) else (none)) else (some false))) else (none)) else (none)
set_option maxHeartbeats 8000000 in
set_option maxRecDepth 100000 in
theorem r13_Knot.calls (k:Nat) (A0:Option Addr) (c0:Nat) (l0:List (List Int)) (a1:Int) (a2:Int) (r:Bool) (w:World) (hr0:Kd.C (Kd.slice 3 (Kd.int .i64)) w A0 l0.length l0) (hc0:l0.length≤c0) (h:r13_Knot.f k l0 a1 a2 = some r) :
    Calls Tryz.prog 43 #[.slice A0 l0.length c0,.int .i64 a1,.int .i64 a2] w fun e w' =>e = .returned (.bool r)∧a0Z w w':=by
 have HR0:=a0C.mk hr0;have HC0:=a0C.mk hc0;clear hr0 hc0;have H:(if 0≤a1 then (if a1 < (l0.length:Int) then ((r12_Has.f k (a0W l0 a1) a2).bind fun t264 =>(if t264 = true then (if 0≤a2 then (if a2 < (l0.length:Int) then ((r12_Has.f k (a0W l0 a2) a1).bind fun t266 =>(some t266)) else (none)) else (none)) else (some false))) else (none)) else (none)) = some r:=h;clear h;by_cases c4:0≤a1
 ·rw [if_pos c4] at H;have c4b0:decide (0≤a1) = true:=zC0 c4;clear c4;by_cases c5:a1 < (l0.length:Int)
  ·rw [if_pos c5] at H;have c5b0:decide (a1 < (l0.length:Int)) = true:=zC0 c5;clear c5;obtain ⟨t264,A6,H⟩:=ob_ H;by_cases c7:t264 = true
   ·subst c7;rw [if_pos rfl] at H;by_cases c8:0≤a2
    ·rw [if_pos c8] at H;have c8b0:decide (0≤a2) = true:=zC0 c8;clear c8;by_cases c9:a2 < (l0.length:Int)
     ·rw [if_pos c9] at H;have c9b0:decide (a2 < (l0.length:Int)) = true:=zC0 c9;clear c9;obtain ⟨t266,A10,H⟩:=ob_ H;obtain rfl:=zD0 H;have p263:0≤(a1:Int):=zB0 qA0;have q263:a1 < (l0.length:Int):=zB0 qA0;obtain ⟨ad263,cI,cJ,e263,dZ,bR,bS⟩:=a3I HR0.out a1 p263 q263;cases e263;have cD:=a0C.mk bS;have cE:=a0C.mk bR;clear bS bR;replace p263:=eq_true p263;replace q263:=eq_true q263;go_enter Tryz.func43,Tryz.ntmps43
      go_wp2_with (first | ((with_reducible refine a1A (f:=61) rfl ?_);refine a2B (some 12) rfl rfl Tryz.func61 qH0 rfl #[.slice cI (a0W l0 a1).length cJ,.int .i64 a2] rfl qC0 ?_;(with_reducible refine (r12_Has.calls k _ _ (a0W l0 a1) a2 true _ ?side1 ?side2 A6.out).mono ?_);(case side1 =>repeat (first | exact cD.out | (with_reducible refine Kd.a1E ?_ _) | (with_reducible refine Kd.a1D ?_ _) | (with_reducible refine Kd.a1I ?_)));(case side2 =>exact cE.out);rintro e w' ⟨rfl,⟨nd,rfl⟩⟩;refine ⟨_,rfl,?_⟩;have p265:0≤(a2:Int):=zB0 qA0;have q265:a2 < (l0.length:Int):=zB0 qA0;obtain ⟨ad265,fI,fJ,e265,fA,cZ,dA⟩:=a3I HR0.out a2 p265 q265;obtain rfl:ad263 = ad265:=(by injection e265);have eB:=a0C.mk dA;have eC:=a0C.mk cZ;clear dA cZ;replace p265:=eq_true p265;replace q265:=eq_true q265) | (go_at_call 61;(with_reducible refine (r12_Has.calls k _ _ (a0W l0 a2) a1 t266 _ ?side1 ?side2 A10.out).mono ?_);(case side1 =>repeat (first | exact eB.out | (with_reducible refine Kd.a1E ?_ _) | (with_reducible refine Kd.a1D ?_ _) | (with_reducible refine Kd.a1I ?_)));(case side2 =>exact eC.out);rintro e w' ⟨rfl,⟨nd,rfl⟩⟩));go_ret;exact qN3
     ·rw [if_neg c9] at H;exact absurd H qG0
    ·rw [if_neg c8] at H;exact absurd H qG0
   ·replace c7:=Bool.eq_false_iff.mpr c7;subst c7;rw [if_neg (show ¬ (false = true) by decide)] at H;obtain rfl:=zD0 H;have p263:0≤(a1:Int):=zB0 qA0;have q263:a1 < (l0.length:Int):=zB0 qA0;obtain ⟨ad263,cI,cJ,e263,dZ,bR,bS⟩:=a3I HR0.out a1 p263 q263;cases e263;have cD:=a0C.mk bS;have cE:=a0C.mk bR;clear bS bR;replace p263:=eq_true p263;replace q263:=eq_true q263;go_enter Tryz.func43,Tryz.ntmps43
    go_wp2_with (first | ((with_reducible refine a1A (f:=61) rfl ?_);refine a2B (some 12) rfl rfl Tryz.func61 qH0 rfl #[.slice cI (a0W l0 a1).length cJ,.int .i64 a2] rfl qC0 ?_;(with_reducible refine (r12_Has.calls k _ _ (a0W l0 a1) a2 false _ ?side1 ?side2 A6.out).mono ?_);(case side1 =>repeat (first | exact cD.out | (with_reducible refine Kd.a1E ?_ _) | (with_reducible refine Kd.a1D ?_ _) | (with_reducible refine Kd.a1I ?_)));(case side2 =>exact cE.out);rintro e w' ⟨rfl,⟨nd,rfl⟩⟩;refine ⟨_,rfl,?_⟩));go_ret;exact qN3
  ·rw [if_neg c5] at H;exact absurd H qG0
 ·rw [if_neg c4] at H;exact absurd H qG0
def r13_ready.l0:Nat→List (List Int)→List Int→Int→Int→Option (Bool)
 | 0,_,_,_,_ =>none
 | k + 1,x0,x1,x2,x7 =>if 0≤x2 then (if x2 < (x0.length:Int) then (if x7 < ((a0W x0 x2).length:Int) then (if 0≤x7 then (if 0≤(rd (a0W x0 x2) x7) then (if (rd (a0W x0 x2) x7) < (x1.length:Int) then (if (rd x1 (rd (a0W x0 x2) x7)) < 0 then ((r13_Knot.f k x0 x2 (rd (a0W x0 x2) x7)).bind fun t271 =>(if t271 = true then (r13_ready.l0 k x0 x1 x2 (wrap64 (x7 + 1))) else (some false))) else (r13_ready.l0 k x0 x1 x2 (wrap64 (x7 + 1)))) else (none)) else (none)) else (none)) else (some true)) else (none)) else (none)
def r13_ready.f (k:Nat) (l0:List (List Int)) (l1:List Int) (a2:Int):Option (Bool):=r13_ready.l0 k l0 l1 a2 0
set_option maxHeartbeats 8000000 in
set_option maxRecDepth 100000 in
theorem r13_ready.calls (k:Nat) (A0:Option Addr) (c0:Nat) (l0:List (List Int)) (A1:Option Addr) (c1:Nat) (l1:List Int) (a2:Int) (r:Bool) (w:World) (hr0:Kd.C (Kd.slice 3 (Kd.int .i64)) w A0 l0.length l0) (hc0:l0.length≤c0) (hr1:Kd.C (Kd.int .i64) w A1 l1.length l1) (hc1:l1.length≤c1) (h:r13_ready.f k l0 l1 a2 = some r) :
    Calls Tryz.prog 42 #[.slice A0 l0.length c0,.slice A1 l1.length c1,.int .i64 a2] w fun e w' =>e = .returned (.bool r)∧a0Z w w':=by
 have HR0:=a0C.mk hr0;have HC0:=a0C.mk hc0;clear hr0 hc0;have HR1:=a0C.mk hr1;have HC1:=a0C.mk hc1;clear hr1 hc1;have H:(r13_ready.l0 k l0 l1 a2 0) = some r:=h;clear h;have H':=a0C.mk H;clear H;go_enter Tryz.func42,Tryz.ntmps42
 go_wp2;go_loopg [7] k (fun kq v7 w' =>∃ (aA:Int),v7 = .int .i64 aA∧a0C (r13_ready.l0 kq l0 l1 a2 aA = some r)∧a0C (kq≤k)∧a0Z w w')
 case atStart =>exact ⟨(0),qE0,H',⟨zG0 _⟩,by repeat (first | exact a0Z.refl _ | apply a0Z.step)⟩
 case round =>
  clear H';obtain ⟨aA,rfl,HA,HK1,⟨m1,rfl⟩⟩:=hrel;cases gk with
  | zero =>exact absurd HA.out (by simp [r13_ready.l0])
  | succ k1 =>
   have H:=HA.out;clear HA;simp only [r13_ready.l0] at H;by_cases c4:0≤a2
   ·rw [if_pos c4] at H;have c4b0:decide (0≤a2) = true:=zC0 c4;clear c4;by_cases c5:a2 < (l0.length:Int)
    ·rw [if_pos c5] at H;have c5b0:decide (a2 < (l0.length:Int)) = true:=zC0 c5;clear c5;by_cases c6:aA < ((a0W l0 a2).length:Int)
     ·rw [if_pos c6] at H;have c6b0:decide (aA < ((a0W l0 a2).length:Int)) = true:=zC0 c6;clear c6;by_cases c7:0≤aA
      ·rw [if_pos c7] at H;have c7b0:decide (0≤aA) = true:=zC0 c7;clear c7;by_cases c8:0≤(rd (a0W l0 a2) aA)
       ·rw [if_pos c8] at H;have c8b0:decide (0≤(rd (a0W l0 a2) aA)) = true:=zC0 c8;clear c8;by_cases c9:(rd (a0W l0 a2) aA) < (l1.length:Int)
        ·rw [if_pos c9] at H;have c9b0:decide ((rd (a0W l0 a2) aA) < (l1.length:Int)) = true:=zC0 c9;clear c9;by_cases c10:(rd l1 (rd (a0W l0 a2) aA)) < 0
         ·rw [if_pos c10] at H;have c10b0:decide ((rd l1 (rd (a0W l0 a2) aA)) < 0) = true:=zC0 c10;clear c10;obtain ⟨t271,A11,H⟩:=ob_ H;by_cases c12:t271 = true
          ·subst c12;rw [if_pos rfl] at H;have H':=a0C.mk H;clear H;have p267:0≤(a2:Int):=zB0 qA0;have q267:a2 < (l0.length:Int):=zB0 qA0;obtain ⟨ad267,cM,cN,e267,bN,aU,aV⟩:=a3I HR0.out a2 p267 q267;cases e267;have cG:=a0C.mk aV;have cH:=a0C.mk aU;clear aV aU;replace p267:=eq_true p267;replace q267:=eq_true q267;have p268:0≤(a2:Int):=zB0 qA0;have q268:a2 < (l0.length:Int):=zB0 qA0;obtain ⟨ad268,dT,dU,e268,bT,bF,bG⟩:=a3I HR0.out a2 p268 q268;obtain rfl:ad267 = ad268:=(by injection e268);have bU:=a0C.mk bG;have dB:=a0C.mk bF;clear bG bF;replace p268:=eq_true p268;replace q268:=eq_true q268;have ea_:=zD0 (bN.symm.trans bT);injection ea_ with ea_ en_ ec_
           subst ea_;subst ec_;clear en_;have p269:0≤(aA:Int):=zB0 qA0;have q269:aA < ((a0W l0 a2).length:Int):=zB0 qA0;obtain ⟨ad269,e269,dC⟩:=Kd.a1Q bU.out aA p269 q269;cases e269;replace p269:=eq_true p269;replace q269:=eq_true q269;have p270:0≤((rd (a0W l0 a2) aA):Int):=zB0 qA0;have q270:(rd (a0W l0 a2) aA) < (l1.length:Int):=zB0 qA0;obtain ⟨ad270,e270,dD⟩:=Kd.a1Q HR1.out (rd (a0W l0 a2) aA) p270 q270;cases e270;replace p270:=eq_true p270;replace q270:=eq_true q270;go_wp2_with (first | (go_at_call 43;(with_reducible refine (r13_Knot.calls k1 _ _ l0 a2 (rd (a0W l0 a2) aA) true _ ?side1 ?side2 A11.out).mono ?_);(case side1 =>repeat (first | exact HR0.out | (with_reducible refine Kd.a1E ?_ _) | (with_reducible refine Kd.a1D ?_ _) | (with_reducible refine Kd.a1I ?_)));(case side2 =>exact HC0.out);rintro e w' ⟨rfl,⟨nd,rfl⟩⟩));go_roundg k1
           case measure =>have:=HK1.out;omega
           case rel =>exact ⟨(wrap64 (aA + 1)),qE0,H',⟨by have:=HK1.out;omega⟩,by repeat (first | exact a0Z.refl _ | apply a0Z.step)⟩
          ·replace c12:=Bool.eq_false_iff.mpr c12;subst c12;rw [if_neg (show ¬ (false = true) by decide)] at H;obtain rfl:=zD0 H;have p267:0≤(a2:Int):=zB0 qA0;have q267:a2 < (l0.length:Int):=zB0 qA0;obtain ⟨ad267,cM,cN,e267,bN,aU,aV⟩:=a3I HR0.out a2 p267 q267;cases e267;have cG:=a0C.mk aV;have cH:=a0C.mk aU;clear aV aU;replace p267:=eq_true p267;replace q267:=eq_true q267;have p268:0≤(a2:Int):=zB0 qA0;have q268:a2 < (l0.length:Int):=zB0 qA0;obtain ⟨ad268,dT,dU,e268,bT,bF,bG⟩:=a3I HR0.out a2 p268 q268;obtain rfl:ad267 = ad268:=(by injection e268);have bU:=a0C.mk bG;have dB:=a0C.mk bF;clear bG bF;replace p268:=eq_true p268;replace q268:=eq_true q268;have ea_:=zD0 (bN.symm.trans bT);injection ea_ with ea_ en_ ec_
           subst ea_;subst ec_;clear en_;have p269:0≤(aA:Int):=zB0 qA0;have q269:aA < ((a0W l0 a2).length:Int):=zB0 qA0;obtain ⟨ad269,e269,dC⟩:=Kd.a1Q bU.out aA p269 q269;cases e269;replace p269:=eq_true p269;replace q269:=eq_true q269;have p270:0≤((rd (a0W l0 a2) aA):Int):=zB0 qA0;have q270:(rd (a0W l0 a2) aA) < (l1.length:Int):=zB0 qA0;obtain ⟨ad270,e270,dD⟩:=Kd.a1Q HR1.out (rd (a0W l0 a2) aA) p270 q270;cases e270;replace p270:=eq_true p270;replace q270:=eq_true q270;go_wp2_with (first | (go_at_call 43;(with_reducible refine (r13_Knot.calls k1 _ _ l0 a2 (rd (a0W l0 a2) aA) false _ ?side1 ?side2 A11.out).mono ?_);(case side1 =>repeat (first | exact HR0.out | (with_reducible refine Kd.a1E ?_ _) | (with_reducible refine Kd.a1D ?_ _) | (with_reducible refine Kd.a1I ?_)));(case side2 =>exact HC0.out);rintro e w' ⟨rfl,⟨nd,rfl⟩⟩));go_ret;exact qN3
         ·rw [if_neg c10] at H;have c10b0:decide ((rd l1 (rd (a0W l0 a2) aA)) < 0) = false:=zL0 c10;clear c10;have H':=a0C.mk H;clear H;have p267:0≤(a2:Int):=zB0 qA0;have q267:a2 < (l0.length:Int):=zB0 qA0;obtain ⟨ad267,cM,cN,e267,bN,aU,aV⟩:=a3I HR0.out a2 p267 q267;cases e267;have cG:=a0C.mk aV;have cH:=a0C.mk aU;clear aV aU;replace p267:=eq_true p267;replace q267:=eq_true q267;have p268:0≤(a2:Int):=zB0 qA0;have q268:a2 < (l0.length:Int):=zB0 qA0;obtain ⟨ad268,dT,dU,e268,bT,bF,bG⟩:=a3I HR0.out a2 p268 q268;obtain rfl:ad267 = ad268:=(by injection e268);have bU:=a0C.mk bG;have dB:=a0C.mk bF;clear bG bF;replace p268:=eq_true p268;replace q268:=eq_true q268;have ea_:=zD0 (bN.symm.trans bT);injection ea_ with ea_ en_ ec_
          subst ea_;subst ec_;clear en_;have p269:0≤(aA:Int):=zB0 qA0;have q269:aA < ((a0W l0 a2).length:Int):=zB0 qA0;obtain ⟨ad269,e269,dC⟩:=Kd.a1Q bU.out aA p269 q269;cases e269;replace p269:=eq_true p269;replace q269:=eq_true q269;have p270:0≤((rd (a0W l0 a2) aA):Int):=zB0 qA0;have q270:(rd (a0W l0 a2) aA) < (l1.length:Int):=zB0 qA0;obtain ⟨ad270,e270,dD⟩:=Kd.a1Q HR1.out (rd (a0W l0 a2) aA) p270 q270;cases e270;replace p270:=eq_true p270;replace q270:=eq_true q270;go_wp2;go_roundg k1
          case measure =>have:=HK1.out;omega
          case rel =>exact ⟨(wrap64 (aA + 1)),qE0,H',⟨by have:=HK1.out;omega⟩,by repeat (first | exact a0Z.refl _ | apply a0Z.step)⟩
        ·rw [if_neg c9] at H;exact absurd H qG0
       ·rw [if_neg c8] at H;exact absurd H qG0
      ·rw [if_neg c7] at H;exact absurd H qG0
     ·rw [if_neg c6] at H;have c6b0:decide (aA < ((a0W l0 a2).length:Int)) = false:=zL0 c6;clear c6;obtain rfl:=zD0 H;have p267:0≤(a2:Int):=zB0 qA0;have q267:a2 < (l0.length:Int):=zB0 qA0;obtain ⟨ad267,cM,cN,e267,bN,aU,aV⟩:=a3I HR0.out a2 p267 q267;cases e267;have cG:=a0C.mk aV;have cH:=a0C.mk aU;clear aV aU;replace p267:=eq_true p267;replace q267:=eq_true q267;go_wp2;go_ret;exact qN3
    ·rw [if_neg c5] at H;exact absurd H qG0
   ·rw [if_neg c4] at H;exact absurd H qG0
mutual
def r13_Of.l0:Nat→List (List Int)→List (List Int)→List Int→Int→Option (List Int)
 | 0,_,_,_,_ =>none
 | k + 1,x0,x3,x4,x5 =>if x5 < (x0.length:Int) then (if x4.length < 17592186044416 then (r13_Of.l0 k x0 x3 (x4 ++ [(-1)]) (wrap64 (x5 + 1))) else (none)) else (r13_Of.l1 k x0 x3 x4 0)
def r13_Of.l1:Nat→List (List Int)→List (List Int)→List Int→Int→Option (List Int)
 | 0,_,_,_,_ =>none
 | k + 1,x0,x3,x4,x6 =>if x6 < (x0.length:Int) then (r13_Of.l2 k x0 x3 x4 x6 0) else (some x4)
def r13_Of.j3:Nat→List (List Int)→List (List Int)→List Int→Int→Int→Option (List Int)
 | 0,_,_,_,_,_ =>none
 | k + 1,x0,x3,x4,x6,x7 =>if x7 = (x0.length:Int) then (some x4) else (r13_Of.l3 k x0 x3 x4 x6 x7 0)
def r13_Of.l3:Nat→List (List Int)→List (List Int)→List Int→Int→Int→Int→Option (List Int)
 | 0,_,_,_,_,_,_ =>none
 | k + 1,x0,x3,x4,x6,x7,x8 =>if x8 < (x0.length:Int) then ((r13_Knot.f k x3 x7 x8).bind fun t284 =>(if t284 = true then (if 0≤x8 then (if x8 < (x4.length:Int) then (r13_Of.l3 k x0 x3 (x4.set (x8:Int).toNat x6) x6 x7 (wrap64 (x8 + 1))) else (none)) else (none)) else (r13_Of.l3 k x0 x3 x4 x6 x7 (wrap64 (x8 + 1))))) else (r13_Of.l1 k x0 x3 x4 (wrap64 (x6 + 1)))
def r13_Of.l2:Nat→List (List Int)→List (List Int)→List Int→Int→Int→Option (List Int)
 | 0,_,_,_,_,_ =>none
 | k + 1,x0,x3,x4,x6,x7 =>if x7 < (x0.length:Int) then (if 0≤x7 then (if x7 < (x4.length:Int) then (if (rd x4 x7) ≥ 0 then (r13_Of.l2 k x0 x3 x4 x6 (wrap64 (x7 + 1))) else ((r13_ready.f k x3 x4 x7).bind fun t283 =>(if t283 = true then (r13_Of.j3 k x0 x3 x4 x6 x7) else (r13_Of.l2 k x0 x3 x4 x6 (wrap64 (x7 + 1)))))) else (none)) else (none)) else (r13_Of.j3 k x0 x3 x4 x6 x7)
end
def r13_Of.f (k:Nat) (l0:List (List Int)):Option (List Int):=(r12_May.f k l0).bind fun t272 =>(if t272 = true then ((r13_Reaches.f k l0).bind fun t273 =>(r13_Of.l0 k l0 t273 (([]:List Int)) 0)) else (some ([]:List Int)))
set_option maxHeartbeats 8000000 in
set_option maxRecDepth 100000 in
theorem r13_Of.calls (k:Nat) (A0:Option Addr) (c0:Nat) (l0:List (List Int)) (r:List Int) (w:World) (hr0:Kd.C (Kd.slice 3 (Kd.int .i64)) w A0 l0.length l0) (hc0:l0.length≤c0) (h:r13_Of.f k l0 = some r) :
    Calls Tryz.prog 22 #[.slice A0 l0.length c0] w fun e w' =>∃ v0_:Value,e = .returned (v0_)∧Kd.R (Kd.int .i64) 3 w' w.heap.size (fun _ =>True) v0_ r∧Below w.heap.size w w':=by
 have HR0:=a0C.mk hr0;have HC0:=a0C.mk hc0;clear hr0 hc0;have HB:=a0C.mk (zJ0 w.heap.size w);have H:((r12_May.f k l0).bind fun t272 =>(if t272 = true then ((r13_Reaches.f k l0).bind fun t273 =>(r13_Of.l0 k l0 t273 (([]:List Int)) 0)) else (some ([]:List Int)))) = some r:=h;clear h;obtain ⟨t272,A2,H⟩:=ob_ H;by_cases c3:t272 = true
 ·subst c3;rw [if_pos rfl] at H;obtain ⟨t273,A4,H⟩:=ob_ H;obtain ⟨y276,hy276⟩:∃ y_:List Int,y_ = (([]:List Int)):=⟨_,rfl⟩;replace H:(r13_Of.l0 k l0 t273 y276 0) = some r:=by first | (rw [hy276];with_reducible exact H) | (have H2_:=(zK0 _ _).symm.trans H;rw [hy276];with_reducible exact H2_) | (have H2_:=(zK0 _ _).symm.trans H;with_reducible exact H2_) | with_reducible exact H | (rw [hy276];exact H) | exact H
  have Ny276:=a0C.mk hy276;clear hy276;have H':=a0C.mk H;clear H;go_enter Tryz.func22,Tryz.ntmps22
  go_wp2_with (first | ((with_reducible refine a1A (f:=36) rfl ?_);refine a2B (some 10) rfl rfl Tryz.func36 qH0 rfl #[.slice A0 l0.length c0] rfl qC0 ?_;(with_reducible refine (r12_May.calls k _ _ l0 true _ ?side1 ?side2 A2.out).mono ?_);(case side1 =>repeat (first | exact HR0.out | (with_reducible refine Kd.a1E ?_ _) | (with_reducible refine Kd.a1D ?_ _) | (with_reducible refine Kd.a1I ?_)));(case side2 =>exact HC0.out);rintro e w' ⟨rfl,⟨nd,rfl⟩⟩;refine ⟨_,rfl,?_⟩) | ((with_reducible refine a1A (f:=41) rfl ?_);refine a2B (some 13) rfl rfl Tryz.func41 qH0 rfl #[.slice A0 l0.length c0] rfl qC0 ?_;(with_reducible refine (r13_Reaches.calls k _ _ l0 t273 _ ?side1 ?side2 A4.out).mono ?_);(case side1 =>repeat (first | exact HR0.out | (with_reducible refine Kd.a1E ?_ _) | (with_reducible refine Kd.a1D ?_ _) | (with_reducible refine Kd.a1I ?_)));(case side2 =>exact HC0.out);rintro e w5 ⟨v274,rfl,ho0,hb⟩;refine ⟨_,rfl,?_⟩;have HO275:=a0C.mk (Kd.b1M ho0 (a0R qB0));replace HB:=a0C.mk (a0L qB0 hb);(try clear hb);(try clear hk);(try clear ho0)) | ((with_reducible refine a0V (N:=14) rfl ?_);refine Kd.a9T (Kd.int .i64) _ 3 ?hg (N:=14) ?hd (xs:=([]:List Int)) (inner:=[]) (ok:=fun _ =>True) (okp:=fun _ =>True) ?hr ?hp (fun _ hk =>hk) trivial (zJ0 _ _) (zG0 _) qG0 ?_;(case hd =>rfl);(case hg =>rfl);(case hr =>first | (go_simp;done) | (go_simp;rfl));(case hp =>exact (Reps.none _ _));intro v277 w6 ho7 hb hg_ hnew_;clear hg_ hnew_;(first | rw [← Ny276.out] at ho7 | (simp only [Int.reduceToNat] at ho7;rw [← Ny276.out] at ho7));replace HO275:=a0C.mk (Kd.b3V (by (with_reducible repeat (first | apply Kd.a1T | apply Kd.a1S | apply Kd.a2P));exact HO275.out) (Kd.a5C ho7) hb);have HO278:=a0C.mk (Kd.a2W ho7 (a0R qB0));replace HB:=a0C.mk (a0L qB0 hb);clear hb ho7));go_loopg [4,5] k (fun kq v4 v5 w' =>∃ (aN:List Int) (aQ:Int),v5 = .int .i64 aQ∧a0C (r13_Of.l0 kq l0 t273 aN aQ = some r)∧a0C (kq≤k)∧a0C (Kd.S (Kd.slice 3 (Kd.int .i64)) 43 w' w.heap.size (fun k_ =>some k_≠(v4:Value).ownBlock) v274 t273)∧a0C (Kd.R (Kd.int .i64) 3 w' w.heap.size (fun _ =>True) v4 aN)∧a0C (Below w.heap.size w w'))
  case atStart =>exact ⟨(y276),(0),qE0,H',⟨zG0 _⟩,⟨by (with_reducible repeat (first | apply Kd.a1T | apply Kd.a1S | apply Kd.a2P));exact Kd.a5B HO275.out (fun _ hk =>hk.2)⟩,⟨by (with_reducible repeat (first | apply Kd.a0T | apply Kd.a0S | apply Kd.a1B));exact HO278.out⟩,⟨by repeat (first | (with_reducible first | exact HB.out | apply a0B | apply a0A | apply a0D) | exact HB.out)⟩⟩
  case round =>
   clear H';obtain ⟨aN,aQ,rfl,HA,HK1,aD,aK,HB⟩:=hrel;cases gk with
   | zero =>exact absurd HA.out (by simp [r13_Of.l0])
   | succ k1 =>
    have H:=HA.out;clear HA;simp only [r13_Of.l0] at H;by_cases c8:aQ < (l0.length:Int)
    ·rw [if_pos c8] at H;have c8b0:decide (aQ < (l0.length:Int)) = true:=zC0 c8;clear c8;by_cases c9:aN.length < 17592186044416
     ·rw [if_pos c9] at H;have LMc9:=a0C.mk c9;clear c9;obtain ⟨y279,hy279⟩:∃ y_:List Int,y_ = (aN ++ [(-1)]):=⟨_,rfl⟩;replace H:(r13_Of.l0 k1 l0 t273 y279 (wrap64 (aQ + 1))) = some r:=by first | (rw [hy279];with_reducible exact H) | (have H2_:=(zK0 _ _).symm.trans H;rw [hy279];with_reducible exact H2_) | (have H2_:=(zK0 _ _).symm.trans H;with_reducible exact H2_) | with_reducible exact H | (rw [hy279];exact H) | exact H
      have Ny279:=a0C.mk hy279;clear hy279;have H':=a0C.mk H;clear H;go_wp2_with (first | ((with_reducible refine a1H (b:=.append) (xs:=#[.tmp 21,.tmp 22]) rfl ?_);at_builtin;refine Kd.a2Q (Kd.int .i64) (w0:=w) w.heap.size rfl (.tmp 21) (.tmp 22) 43 3 (.int .i64 0) 8 rfl Tryz.underlying43 a9S rfl qF0 qD0 u4 aN (-1) [.int .i64 (-1)] (fun _ =>True) (fun _ =>False) rfl rfl ?aP (fun _ hk =>hk.elim) ?aF ?aO ?aB ?aS ?aL ?_;(case aP =>exact rfl);(case aB =>exact qB0);(case aF =>exact (fun _ _ =>trivial));(case aO =>exact qO2);(case aS =>exact (a0R qB0));(case aL =>have:=LMc9.out;omega);intro v280 w10 ho hb hg hat;rw [← Ny279.out] at ho;have aX:=a0C.mk (Kd.b3W (ok:=(fun _ =>True)) qB1 hg hat);have aY:=a0C.mk (hb);have cA:=a0C.mk (ho);clear aD;clear HB;clear aK;have aD:=aX;have HB:=aY;have HO281:=cA;clear aX aY cA;clear ho hb hg hat));go_roundg k1
      case measure =>have:=HK1.out;omega
      case rel =>exact ⟨(y279),(wrap64 (aQ + 1)),qE0,H',⟨by have:=HK1.out;omega⟩,⟨by (with_reducible repeat (first | apply Kd.a1T | apply Kd.a1S | apply Kd.a2P));exact Kd.a5B aD.out (fun _ hk =>hk.2)⟩,⟨by (with_reducible repeat (first | apply Kd.a0T | apply Kd.a0S | apply Kd.a1B));exact HO281.out⟩,⟨by repeat (first | (with_reducible first | exact HB.out | apply a0B | apply a0A | apply a0D) | exact HB.out)⟩⟩
     ·rw [if_neg c9] at H;exact absurd H qG0
    ·rw [if_neg c8] at H;have c8b0:decide (aQ < (l0.length:Int)) = false:=zL0 c8;clear c8;have H':=a0C.mk H;clear H;go_wp2;go_loopg [6] k1 (fun kq v6 w' =>∃ (bJ:List Int) (aT:Int),v6 = .int .i64 aT∧a0C (r13_Of.l1 kq l0 t273 bJ aT = some r)∧a0C (kq≤k1)∧a0C (Kd.S (Kd.slice 3 (Kd.int .i64)) 43 w' w.heap.size (fun k_ =>some k_≠(u4:Value).ownBlock) v274 t273)∧a0C (Kd.R (Kd.int .i64) 3 w' w.heap.size (fun _ =>True) u4 bJ)∧a0C (Below w.heap.size w w'))
     case atStart =>exact ⟨(aN),(0),qE0,H',⟨zG0 _⟩,⟨by (with_reducible repeat (first | apply Kd.a1T | apply Kd.a1S | apply Kd.a2P));exact aD.out⟩,⟨by (with_reducible repeat (first | apply Kd.a0T | apply Kd.a0S | apply Kd.a1B));exact aK.out⟩,⟨by repeat (first | (with_reducible first | exact HB.out | apply a0B | apply a0A | apply a0D) | exact HB.out)⟩⟩
     case round =>
      clear H';obtain ⟨bJ,aT,rfl,HA,HK2,aD,aK,HB⟩:=hrel;cases gk with
      | zero =>exact absurd HA.out (by simp [r13_Of.l1])
      | succ k2 =>
       have H:=HA.out;clear HA;simp only [r13_Of.l1] at H;by_cases c11:aT < (l0.length:Int)
       ·rw [if_pos c11] at H;have c11b0:decide (aT < (l0.length:Int)) = true:=zC0 c11;clear c11;have HC12:=a0C.mk H;clear H
        go_upto_block 4 with (fail)
        go_cut [7] (fun v7 wc =>∃ (kq:Nat) (bH:Int),v7 = .int .i64 bH∧a0C (r13_Of.j3 kq l0 t273 bJ aT bH = some r)∧a0C (kq≤k2)∧a0C (Kd.S (Kd.slice 3 (Kd.int .i64)) 43 wc w.heap.size (fun k_ =>some k_≠(u4:Value).ownBlock) v274 t273)∧a0C (Kd.R (Kd.int .i64) 3 wc w.heap.size (fun _ =>True) u4 bJ)∧a0C (Below w.heap.size w wc))
        case first =>
         have H:=HC12.out;clear HC12;have H':=a0C.mk H;clear H;go_wp2;go_loopg [7] k2 (fun kq v7 w' =>∃ (aW:Int),v7 = .int .i64 aW∧a0C (r13_Of.l2 kq l0 t273 bJ aT aW = some r)∧a0C (kq≤k2)∧a0C (Kd.S (Kd.slice 3 (Kd.int .i64)) 43 w' w.heap.size (fun k_ =>some k_≠(u4:Value).ownBlock) v274 t273)∧a0C (Kd.R (Kd.int .i64) 3 w' w.heap.size (fun _ =>True) u4 bJ)∧a0C (Below w.heap.size w w'))
         case atStart =>exact ⟨(0),qE0,H',⟨zG0 _⟩,⟨by (with_reducible repeat (first | apply Kd.a1T | apply Kd.a1S | apply Kd.a2P));exact aD.out⟩,⟨by (with_reducible repeat (first | apply Kd.a0T | apply Kd.a0S | apply Kd.a1B));exact aK.out⟩,⟨by repeat (first | (with_reducible first | exact HB.out | apply a0B | apply a0A | apply a0D) | exact HB.out)⟩⟩
         case round =>
          clear H';obtain ⟨aW,rfl,HA,HK3,aD,aK,HB⟩:=hrel;cases gk with
          | zero =>exact absurd HA.out (by simp [r13_Of.l2])
          | succ k3 =>
           have H:=HA.out;clear HA;simp only [r13_Of.l2] at H;by_cases c13:aW < (l0.length:Int)
           ·rw [if_pos c13] at H;have c13b0:decide (aW < (l0.length:Int)) = true:=zC0 c13;clear c13
            (first | rw [c13b0] | (simp only [a4H,a4S];rw [c13b0]) | skip)
            by_cases c14:0≤aW
            ·rw [if_pos c14] at H;have c14b0:decide (0≤aW) = true:=zC0 c14;clear c14;by_cases c15:aW < (bJ.length:Int)
             ·rw [if_pos c15] at H;have c15b0:decide (aW < (bJ.length:Int)) = true:=zC0 c15;clear c15;by_cases c16:(rd bJ aW) ≥ 0
              ·rw [if_pos c16] at H;have c16b0:decide (0≤(rd bJ aW)) = true:=zC0 c16;clear c16;have H':=a0C.mk H;clear H;obtain ⟨Ao17,co17,eo17⟩:=Kd.a1V aK.out;subst eo17;have p282:0≤(aW:Int):=zB0 qA0;have q282:aW < (bJ.length:Int):=zB0 qA0;obtain ⟨ad282,e282,dE⟩:=Kd.a1Q (Kd.a1J aK.out).2.2 aW p282 q282;cases e282;replace p282:=eq_true p282;replace q282:=eq_true q282;go_wp2;go_roundg k3
               case measure =>have:=HK1.out;have:=HK2.out;have:=HK3.out;omega
               case rel =>exact ⟨(wrap64 (aW + 1)),qE0,H',⟨by have:=HK1.out;have:=HK2.out;have:=HK3.out;omega⟩,⟨by (with_reducible repeat (first | apply Kd.a1T | apply Kd.a1S | apply Kd.a2P));exact aD.out⟩,⟨by (with_reducible repeat (first | apply Kd.a0T | apply Kd.a0S | apply Kd.a1B));exact aK.out⟩,⟨by repeat (first | (with_reducible first | exact HB.out | apply a0B | apply a0A | apply a0D) | exact HB.out)⟩⟩
              ·rw [if_neg c16] at H;have c16b0:decide (0≤(rd bJ aW)) = false:=zL0 c16;clear c16;obtain ⟨t283,A18,H⟩:=ob_ H;by_cases c19:t283 = true
               ·subst c19;rw [if_pos rfl] at H;have H':=a0C.mk H;clear H;obtain ⟨Ao20,co20,eo20⟩:=Kd.a1V aK.out;subst eo20;have p282:0≤(aW:Int):=zB0 qA0;have q282:aW < (bJ.length:Int):=zB0 qA0;obtain ⟨ad282,e282,dE⟩:=Kd.a1Q (Kd.a1J aK.out).2.2 aW p282 q282;cases e282;replace p282:=eq_true p282;replace q282:=eq_true q282;obtain ⟨Ao21,co21,eo21⟩:=Kd.b1L aD.out;subst eo21;go_wp2_with (first | (go_at_call 42;(with_reducible refine (r13_ready.calls k3 _ _ t273 _ _ bJ aW true _ ?side1 ?side2 ?side3 ?side4 A18.out).mono ?_);(case side1 =>repeat (first | exact (Kd.a4A aD.out).2.2 | (with_reducible refine Kd.a1E ?_ _) | (with_reducible refine Kd.a1D ?_ _) | (with_reducible refine Kd.a1I ?_)));(case side2 =>exact (Kd.a4A aD.out).2.1);(case side3 =>repeat (first | exact (Kd.a1J aK.out).2.2 | (with_reducible refine Kd.a1E ?_ _) | (with_reducible refine Kd.a1D ?_ _) | (with_reducible refine Kd.a1I ?_)));(case side4 =>exact (Kd.a1J aK.out).2.1);rintro e w' ⟨rfl,⟨nd,rfl⟩⟩));go_meet
                case rel =>exact ⟨_,(aW),qE0,H',⟨by have:=HK1.out;have:=HK2.out;have:=HK3.out;first | omega | exact zG0 _⟩,⟨by (with_reducible repeat (first | apply Kd.a1T | apply Kd.a1S | apply Kd.a2P));exact aD.out⟩,⟨by (with_reducible repeat (first | apply Kd.a0T | apply Kd.a0S | apply Kd.a1B));exact aK.out⟩,⟨by repeat (first | (with_reducible first | exact HB.out | apply a0B | apply a0A | apply a0D) | exact HB.out)⟩⟩
               ·replace c19:=Bool.eq_false_iff.mpr c19;subst c19;rw [if_neg (show ¬ (false = true) by decide)] at H;have H':=a0C.mk H;clear H;obtain ⟨Ao22,co22,eo22⟩:=Kd.a1V aK.out;subst eo22;have p282:0≤(aW:Int):=zB0 qA0;have q282:aW < (bJ.length:Int):=zB0 qA0;obtain ⟨ad282,e282,dE⟩:=Kd.a1Q (Kd.a1J aK.out).2.2 aW p282 q282;cases e282;replace p282:=eq_true p282;replace q282:=eq_true q282;obtain ⟨Ao23,co23,eo23⟩:=Kd.b1L aD.out;subst eo23;go_wp2_with (first | (go_at_call 42;(with_reducible refine (r13_ready.calls k3 _ _ t273 _ _ bJ aW false _ ?side1 ?side2 ?side3 ?side4 A18.out).mono ?_);(case side1 =>repeat (first | exact (Kd.a4A aD.out).2.2 | (with_reducible refine Kd.a1E ?_ _) | (with_reducible refine Kd.a1D ?_ _) | (with_reducible refine Kd.a1I ?_)));(case side2 =>exact (Kd.a4A aD.out).2.1);(case side3 =>repeat (first | exact (Kd.a1J aK.out).2.2 | (with_reducible refine Kd.a1E ?_ _) | (with_reducible refine Kd.a1D ?_ _) | (with_reducible refine Kd.a1I ?_)));(case side4 =>exact (Kd.a1J aK.out).2.1);rintro e w' ⟨rfl,⟨nd,rfl⟩⟩));go_roundg k3
                case measure =>have:=HK1.out;have:=HK2.out;have:=HK3.out;omega
                case rel =>exact ⟨(wrap64 (aW + 1)),qE0,H',⟨by have:=HK1.out;have:=HK2.out;have:=HK3.out;omega⟩,⟨by (with_reducible repeat (first | apply Kd.a1T | apply Kd.a1S | apply Kd.a2P));exact aD.out⟩,⟨by (with_reducible repeat (first | apply Kd.a0T | apply Kd.a0S | apply Kd.a1B));exact aK.out⟩,⟨by repeat (first | (with_reducible first | exact HB.out | apply a0B | apply a0A | apply a0D) | exact HB.out)⟩⟩
             ·rw [if_neg c15] at H;exact absurd H qG0
            ·rw [if_neg c14] at H;exact absurd H qG0
           ·rw [if_neg c13] at H;have c13b0:decide (aW < (l0.length:Int)) = false:=zL0 c13;clear c13
            (first | rw [c13b0] | (simp only [a4H,a4S];rw [c13b0]) | skip)
            have H':=a0C.mk H;clear H;go_wp2;go_meet
            case rel =>exact ⟨_,(aW),qE0,H',⟨by have:=HK1.out;have:=HK2.out;have:=HK3.out;first | omega | exact zG0 _⟩,⟨by (with_reducible repeat (first | apply Kd.a1T | apply Kd.a1S | apply Kd.a2P));exact aD.out⟩,⟨by (with_reducible repeat (first | apply Kd.a0T | apply Kd.a0S | apply Kd.a1B));exact aK.out⟩,⟨by repeat (first | (with_reducible first | exact HB.out | apply a0B | apply a0A | apply a0D) | exact HB.out)⟩⟩
        case rest =>
         clear HC12;obtain ⟨kq,bH,rfl,HA,HJ11,aD,aK,HB⟩:=hcut;cases kq with
         | zero =>exact absurd HA.out (by simp [r13_Of.j3])
         | succ kj11 =>
          have H:=HA.out;clear HA;simp only [r13_Of.j3] at H;by_cases c24:bH = (l0.length:Int)
          ·rw [if_pos c24] at H;have c24b0:(bH == (l0.length:Int)) = true:=beq_iff_eq.mpr c24;have c24b1:(bH != (l0.length:Int)) = false:=bne_eq_false_iff_eq.mpr c24;clear c24;obtain rfl:=zD0 H;go_wp2;go_ret;exact qV3
          ·rw [if_neg c24] at H;have c24b0:(bH == (l0.length:Int)) = false:=beq_eq_false_iff_ne.mpr c24;have c24b1:(bH != (l0.length:Int)) = true:=bne_iff_ne.mpr c24;have H':=a0C.mk H;clear H;go_wp2;go_loopg [8] kj11 (fun kq v8 w' =>∃ (bY:List Int) (bA:Int),v8 = .int .i64 bA∧a0C (r13_Of.l3 kq l0 t273 bY aT bH bA = some r)∧a0C (kq≤kj11)∧a0C (Kd.S (Kd.slice 3 (Kd.int .i64)) 43 w' w.heap.size (fun k_ =>some k_≠(u4:Value).ownBlock) v274 t273)∧a0C (Kd.R (Kd.int .i64) 3 w' w.heap.size (fun _ =>True) u4 bY)∧a0C (Below w.heap.size w w'))
           case atStart =>exact ⟨(bJ),(0),qE0,H',⟨zG0 _⟩,⟨by (with_reducible repeat (first | apply Kd.a1T | apply Kd.a1S | apply Kd.a2P));exact aD.out⟩,⟨by (with_reducible repeat (first | apply Kd.a0T | apply Kd.a0S | apply Kd.a1B));exact aK.out⟩,⟨by repeat (first | (with_reducible first | exact HB.out | apply a0B | apply a0A | apply a0D) | exact HB.out)⟩⟩
           case round =>
            clear H';obtain ⟨bY,bA,rfl,HA,HK4,aD,aK,HB⟩:=hrel;cases gk with
            | zero =>exact absurd HA.out (by simp [r13_Of.l3])
            | succ k4 =>
             have H:=HA.out;clear HA;simp only [r13_Of.l3] at H;by_cases c25:bA < (l0.length:Int)
             ·rw [if_pos c25] at H;have c25b0:decide (bA < (l0.length:Int)) = true:=zC0 c25;clear c25;obtain ⟨t284,A26,H⟩:=ob_ H;by_cases c27:t284 = true
              ·subst c27;rw [if_pos rfl] at H;by_cases c28:0≤bA
               ·rw [if_pos c28] at H;have c28b0:decide (0≤bA) = true:=zC0 c28;clear c28;by_cases c29:bA < (bY.length:Int)
                ·rw [if_pos c29] at H;have c29b0:decide (bA < (bY.length:Int)) = true:=zC0 c29;clear c29;obtain ⟨y285,hy285⟩:∃ y_:List Int,y_ = (bY.set (bA:Int).toNat aT):=⟨_,rfl⟩;replace H:(r13_Of.l3 k4 l0 t273 y285 aT bH (wrap64 (bA + 1))) = some r:=by first | (rw [hy285];with_reducible exact H) | (have H2_:=(zK0 _ _).symm.trans H;rw [hy285];with_reducible exact H2_) | (have H2_:=(zK0 _ _).symm.trans H;with_reducible exact H2_) | with_reducible exact H | (rw [hy285];exact H) | exact H
                 have Ny285:=a0C.mk hy285;clear hy285;have H':=a0C.mk H;clear H;obtain ⟨Ao31,co31,eo31⟩:=Kd.b1L aD.out;subst eo31;go_wp2_with (first | ((with_reducible refine a1A (f:=43) rfl ?_);refine a2B (some 63) rfl rfl Tryz.func43 qH0 rfl #[.slice Ao31 t273.length co31,.int .i64 bH,.int .i64 bA] rfl qC0 ?_;(with_reducible refine (r13_Knot.calls k4 _ _ t273 bH bA true _ ?side1 ?side2 A26.out).mono ?_);(case side1 =>repeat (first | exact (Kd.a4A aD.out).2.2 | (with_reducible refine Kd.a1E ?_ _) | (with_reducible refine Kd.a1D ?_ _) | (with_reducible refine Kd.a1I ?_)));(case side2 =>exact (Kd.a4A aD.out).2.1);rintro e w' ⟨rfl,⟨nd,rfl⟩⟩;refine ⟨_,rfl,?_⟩;(try (rw [b9N wr];generalize hq_:World.drewN wr _ = wr;have aX:a0C (Kd.S (Kd.slice 3 (Kd.int .i64)) 43 wr w.heap.size (fun k_ =>some k_≠(u4:Value).ownBlock) (.slice Ao31 t273.length co31) t273):=⟨by rw [← hq_];exact qZ0⟩;have aY:a0C (Kd.R (Kd.int .i64) 3 wr w.heap.size (fun _ =>True) u4 bY):=⟨by rw [← hq_];exact qO2⟩;have cA:a0C (Below w.heap.size w wr):=⟨by rw [← hq_];exact qB0⟩;clear aD aK HB hq_;have aD:=aX;have aK:=aY;have HB:=cA;clear aX aY cA));have p30:0≤(bA:Int):=zB0 qA0;have q30:(bA:Int) < ((bY.length:Int):Int):=zB0 qA0;obtain ⟨go30,co30,eo30,eP,gl30,cl30,HG30⟩:=Kd.b1N aK.out qD0;(first | cases eo30 | (injection eo30 with ea_ en_ ec_;(first | subst ea_ | (injection ea_ with ea_;subst ea_));subst ec_;clear en_));have GB30:=a0C.mk eP;have GG30:=a0C.mk HG30;clear eP gl30 HG30;obtain ⟨fK,fL⟩:=Kd.b3Z 0 aK.out (bA:Int) p30 q30;replace p30:=eq_true p30;replace q30:=eq_true q30;obtain ⟨hy32_,hz32_⟩:=Kd.b3Z 0 aK.out (bA:Int) (zB0 qA0) (zB0 qA0);have HP32:=Kd.c3Y aK.out (bA:Int) aT) | ((with_reducible refine a0Y (t:=3) (p:=67) rfl ?_);refine a6M (t:=3) (p:=67) (v:=?vo_w33) (w1:=(wr.setCell ⟨go30,(bA:Int).toNat,none⟩ (.int .i64 aT))) ?hg ?ho ?hn ?hr ?_;(case ho =>rfl);(case hg =>rfl);(case hn =>rfl);(case hr =>first | (go_simp;done) | (go_simp;rfl));intro w33 hw;have hg:wr.grownBy w33 (some go30):=(by rw [hw];exact HP32.2);have hp_:Kd.R (Kd.int .i64) 3 w33 w.heap.size (fun _ =>True) (.slice (some ⟨go30,0,none⟩) bY.length co30) y285:=(by rw [hw,Ny285.out];exact HP32.1);clear HP32;replace aD:=a0C.mk (Kd.b3W (v:=(.slice (some ⟨go30,0,none⟩) bY.length co30)) (v1:=(.slice (some ⟨go30,0,none⟩) bY.length co30)) (ok:=(fun _ =>True)) qB1 hg (.inl rfl));replace aK:=a0C.mk (hp_);replace HB:=a0C.mk ((by rw [hw];exact a0G (HB.out) GB30.out:Below w.heap.size w w33));clear hg hw hp_));go_roundg k4
                 case measure =>have:=HK1.out;have:=HK2.out;have:=HJ11.out;have:=HK4.out;omega
                 case rel =>exact ⟨(y285),(wrap64 (bA + 1)),qE0,H',⟨by have:=HK1.out;have:=HK2.out;have:=HJ11.out;have:=HK4.out;omega⟩,⟨by (with_reducible repeat (first | apply Kd.a1T | apply Kd.a1S | apply Kd.a2P));exact Kd.a5B aD.out (fun _ hk =>hk.2)⟩,⟨by (with_reducible repeat (first | apply Kd.a0T | apply Kd.a0S | apply Kd.a1B));exact aK.out⟩,⟨by repeat (first | (with_reducible first | exact HB.out | apply a0B | apply a0A | apply a0D) | exact HB.out)⟩⟩
                ·rw [if_neg c29] at H;exact absurd H qG0
               ·rw [if_neg c28] at H;exact absurd H qG0
              ·replace c27:=Bool.eq_false_iff.mpr c27;subst c27;rw [if_neg (show ¬ (false = true) by decide)] at H;have H':=a0C.mk H;clear H;obtain ⟨Ao34,co34,eo34⟩:=Kd.b1L aD.out;subst eo34;go_wp2_with (first | ((with_reducible refine a1A (f:=43) rfl ?_);refine a2B (some 63) rfl rfl Tryz.func43 qH0 rfl #[.slice Ao34 t273.length co34,.int .i64 bH,.int .i64 bA] rfl qC0 ?_;(with_reducible refine (r13_Knot.calls k4 _ _ t273 bH bA false _ ?side1 ?side2 A26.out).mono ?_);(case side1 =>repeat (first | exact (Kd.a4A aD.out).2.2 | (with_reducible refine Kd.a1E ?_ _) | (with_reducible refine Kd.a1D ?_ _) | (with_reducible refine Kd.a1I ?_)));(case side2 =>exact (Kd.a4A aD.out).2.1);rintro e w' ⟨rfl,⟨nd,rfl⟩⟩;refine ⟨_,rfl,?_⟩));go_roundg k4
               case measure =>have:=HK1.out;have:=HK2.out;have:=HJ11.out;have:=HK4.out;omega
               case rel =>exact ⟨(bY),(wrap64 (bA + 1)),qE0,H',⟨by have:=HK1.out;have:=HK2.out;have:=HJ11.out;have:=HK4.out;omega⟩,⟨by (with_reducible repeat (first | apply Kd.a1T | apply Kd.a1S | apply Kd.a2P));exact aD.out⟩,⟨by (with_reducible repeat (first | apply Kd.a0T | apply Kd.a0S | apply Kd.a1B));exact aK.out⟩,⟨by repeat (first | (with_reducible first | exact HB.out | apply a0B | apply a0A | apply a0D) | exact HB.out)⟩⟩
             ·rw [if_neg c25] at H;have c25b0:decide (bA < (l0.length:Int)) = false:=zL0 c25;clear c25;have H':=a0C.mk H;clear H;go_wp2;go_roundg k4
              case measure =>have:=HK1.out;have:=HK2.out;have:=HJ11.out;have:=HK4.out;omega
              case rel =>exact ⟨(bY),(wrap64 (aT + 1)),qE0,H',⟨by have:=HK1.out;have:=HK2.out;have:=HJ11.out;have:=HK4.out;omega⟩,⟨by (with_reducible repeat (first | apply Kd.a1T | apply Kd.a1S | apply Kd.a2P));exact aD.out⟩,⟨by (with_reducible repeat (first | apply Kd.a0T | apply Kd.a0S | apply Kd.a1B));exact aK.out⟩,⟨by repeat (first | (with_reducible first | exact HB.out | apply a0B | apply a0A | apply a0D) | exact HB.out)⟩⟩
       ·rw [if_neg c11] at H;have c11b0:decide (aT < (l0.length:Int)) = false:=zL0 c11;clear c11;obtain rfl:=zD0 H;go_wp2;go_ret;exact qV3
 ·replace c3:=Bool.eq_false_iff.mpr c3;subst c3;rw [if_neg (show ¬ (false = true) by decide)] at H;obtain rfl:=zD0 H;go_enter Tryz.func22,Tryz.ntmps22
  go_wp2_with (first | ((with_reducible refine a1A (f:=36) rfl ?_);refine a2B (some 10) rfl rfl Tryz.func36 qH0 rfl #[.slice A0 l0.length c0] rfl qC0 ?_;(with_reducible refine (r12_May.calls k _ _ l0 false _ ?side1 ?side2 A2.out).mono ?_);(case side1 =>repeat (first | exact HR0.out | (with_reducible refine Kd.a1E ?_ _) | (with_reducible refine Kd.a1D ?_ _) | (with_reducible refine Kd.a1I ?_)));(case side2 =>exact HC0.out);rintro e w' ⟨rfl,⟨nd,rfl⟩⟩;refine ⟨_,rfl,?_⟩));go_ret;exact qS3
mutual
def r14_With.l0:Nat→List ByteArray→ByteArray→List ByteArray→Bool→Int→Option (List ByteArray)
 | 0,_,_,_,_,_ =>none
 | k + 1,x0,x1,x5,x6,x7 =>if x7 < (x0.length:Int) then (if x6 = true then (r14_With.j1 k x0 x1 x5 x6 x7 false) else (if 0≤x7 then (r14_With.j1 k x0 x1 x5 x6 x7 (Op.bytesLess x1.toList ((rdOf ByteArray.empty x0 x7).toList))) else (none))) else (if x6 = true then (some x5) else (if x5.length < 8796093022208 then (some (x5 ++ [x1])) else (none)))
def r14_With.j1:Nat→List ByteArray→ByteArray→List ByteArray→Bool→Int→Bool→Option (List ByteArray)
 | 0,_,_,_,_,_,_ =>none
 | k + 1,x0,x1,x5,x6,x7,x24 =>if x24 = true then (if x5.length < 8796093022208 then ((some (x5 ++ [x1]:List ByteArray)).bind fun y293 =>(if 0≤x7 then (if x7 < (x0.length:Int) then (if x1.toList = (rdOf ByteArray.empty x0 x7).toList then (if y293.length < 8796093022208 then (r14_With.l0 k x0 x1 (y293 ++ [rdOf ByteArray.empty x0 x7]) true (wrap64 (x7 + 1))) else (none)) else (if y293.length < 8796093022208 then (r14_With.l0 k x0 x1 (y293 ++ [rdOf ByteArray.empty x0 x7]) true (wrap64 (x7 + 1))) else (none))) else (none)) else (none))) else (none)) else (if 0≤x7 then (if x7 < (x0.length:Int) then (if x1.toList = (rdOf ByteArray.empty x0 x7).toList then (if x5.length < 8796093022208 then (r14_With.l0 k x0 x1 (x5 ++ [rdOf ByteArray.empty x0 x7]) true (wrap64 (x7 + 1))) else (none)) else (if x5.length < 8796093022208 then (r14_With.l0 k x0 x1 (x5 ++ [rdOf ByteArray.empty x0 x7]) x6 (wrap64 (x7 + 1))) else (none))) else (none)) else (none))
end
def r14_With.f (k:Nat) (l0:List ByteArray) (a1:ByteArray):Option (List ByteArray):=r14_With.l0 k l0 a1 (([]:List ByteArray)) false 0
set_option maxHeartbeats 8000000 in
set_option maxRecDepth 100000 in
theorem r14_With.calls (k:Nat) (A0:Option Addr) (c0:Nat) (l0:List ByteArray) (a1:ByteArray) (r:List ByteArray) (w:World) (hr0:Kd.C Kd.string w A0 l0.length l0) (hc0:l0.length≤c0) (h:r14_With.f k l0 a1 = some r) :
    Calls Tryz.prog 35 #[.slice A0 l0.length c0,.string a1] w fun e w' =>∃ v0_:Value,e = .returned (v0_)∧Kd.R Kd.string 9 w' w.heap.size (fun _ =>True) v0_ r∧Below w.heap.size w w':=by
 have HR0:=a0C.mk hr0;have HC0:=a0C.mk hc0;clear hr0 hc0;have HB:=a0C.mk (zJ0 w.heap.size w);have H:(r14_With.l0 k l0 a1 (([]:List ByteArray)) false 0) = some r:=h;clear h;obtain ⟨y286,hy286⟩:∃ y_:List ByteArray,y_ = (([]:List ByteArray)):=⟨_,rfl⟩;replace H:(r14_With.l0 k l0 a1 y286 false 0) = some r:=by first | (rw [hy286];with_reducible exact H) | (have H2_:=(zK0 _ _).symm.trans H;rw [hy286];with_reducible exact H2_) | (have H2_:=(zK0 _ _).symm.trans H;with_reducible exact H2_) | with_reducible exact H | (rw [hy286];exact H) | exact H
 have Ny286:=a0C.mk hy286;clear hy286;have H':=a0C.mk H;clear H;go_enter Tryz.func35,Tryz.ntmps35
 go_wp2_with (first | ((with_reducible refine a0V (N:=8) rfl ?_);refine Kd.a9T Kd.string _ 9 ?hg (N:=8) ?hd (xs:=([]:List ByteArray)) (inner:=[]) (ok:=fun _ =>True) (okp:=fun _ =>True) ?hr ?hp (fun _ hk =>hk) trivial (zJ0 _ _) (zG0 _) qG0 ?_;(case hd =>rfl);(case hg =>rfl);(case hr =>first | (go_simp;done) | (go_simp;rfl));(case hp =>exact (Reps.none _ _));intro v287 w3 ho4 hb hg_ hnew_;clear hg_ hnew_;(first | rw [← Ny286.out] at ho4 | (simp only [Int.reduceToNat] at ho4;rw [← Ny286.out] at ho4));have HO288:=a0C.mk (Kd.a2W ho4 (a0R qB0));replace HB:=a0C.mk (a0L qB0 hb);clear hb ho4));go_loopg [5,6,7] k (fun kq v5 v6 v7 w' =>∃ (aQ:List ByteArray) (bD:Bool) (aA:Int),v6 = .bool bD∧v7 = .int .i64 aA∧a0C (r14_With.l0 kq l0 a1 aQ bD aA = some r)∧a0C (kq≤k)∧a0C (Kd.R Kd.string 9 w' w.heap.size (fun _ =>True) v5 aQ)∧a0C (Below w.heap.size w w'))
 case atStart =>exact ⟨(y286),(false),(0),qE0,qE0,H',⟨zG0 _⟩,⟨by (with_reducible repeat (first | apply Kd.a0T | apply Kd.a0S | apply Kd.a1B));exact HO288.out⟩,⟨by repeat (first | (with_reducible first | exact HB.out | apply a0B | apply a0A | apply a0D) | exact HB.out)⟩⟩
 case round =>
  clear H';obtain ⟨aQ,bD,aA,rfl,rfl,HA,HK1,aI,HB⟩:=hrel;cases gk with
  | zero =>exact absurd HA.out (by simp [r14_With.l0])
  | succ k1 =>
   have H:=HA.out;clear HA;simp only [r14_With.l0] at H;by_cases c5:aA < (l0.length:Int)
   ·rw [if_pos c5] at H;have c5b0:decide (aA < (l0.length:Int)) = true:=zC0 c5;clear c5;have HC6:=a0C.mk H;clear H;go_upto_region 6 with (fail)
    go_cut [24] (fun v24 wc =>∃ (kq:Nat) (dF:Bool),v24 = .bool dF∧a0C (r14_With.j1 kq l0 a1 aQ bD aA dF = some r)∧a0C (kq≤k1)∧a0C (Kd.R Kd.string 9 wc w.heap.size (fun _ =>True) u5 aQ)∧a0C (Below w.heap.size w wc))
    case first =>
     have H:=HC6.out;clear HC6;by_cases c7:bD = true
     ·subst c7;rw [if_pos rfl] at H;have H':=a0C.mk H;clear H;go_wp2;go_meet
      case rel =>exact ⟨_,(false),qE0,H',⟨by have:=HK1.out;first | omega | exact zG0 _⟩,⟨by (with_reducible repeat (first | apply Kd.a0T | apply Kd.a0S | apply Kd.a1B));exact aI.out⟩,⟨by repeat (first | (with_reducible first | exact HB.out | apply a0B | apply a0A | apply a0D) | exact HB.out)⟩⟩
     ·replace c7:=Bool.eq_false_iff.mpr c7;subst c7;rw [if_neg (show ¬ (false = true) by decide)] at H;by_cases c8:0≤aA
      ·rw [if_pos c8] at H;have c8b0:decide (0≤aA) = true:=zC0 c8;clear c8
       (first | rw [c8b0] | (simp only [a4H,a4S];rw [c8b0]) | skip)
       have H':=a0C.mk H;clear H;have p292:0≤(aA:Int):=zB0 qA0;have q292:aA < (l0.length:Int):=zB0 qA0;obtain ⟨ad292,e292,dG⟩:=Kd.a2D HR0.out aA p292 q292;cases e292;replace dG:=a0E HB.out dG;replace p292:=eq_true p292;replace q292:=eq_true q292;go_wp2;go_meet
       case rel =>exact ⟨_,((Op.bytesLess a1.toList ((rdOf ByteArray.empty l0 aA).toList))),qE0,H',⟨by have:=HK1.out;first | omega | exact zG0 _⟩,⟨by (with_reducible repeat (first | apply Kd.a0T | apply Kd.a0S | apply Kd.a1B));exact aI.out⟩,⟨by repeat (first | (with_reducible first | exact HB.out | apply a0B | apply a0A | apply a0D) | exact HB.out)⟩⟩
      ·rw [if_neg c8] at H;exact absurd H qG0
    case rest =>
     clear HC6;obtain ⟨kq,dF,rfl,HA,HJ5,aI,HB⟩:=hcut;cases kq with
     | zero =>exact absurd HA.out (by simp [r14_With.j1])
     | succ kj5 =>
      have H:=HA.out;clear HA;simp only [r14_With.j1] at H;by_cases c9:dF = true
      ·subst c9;rw [if_pos rfl] at H;by_cases c10:aQ.length < 8796093022208
       ·rw [if_pos c10] at H;have LMc10:=a0C.mk c10;clear c10;obtain ⟨y293,hy293⟩:∃ y_:List ByteArray,y_ = (aQ ++ [a1]):=⟨_,rfl⟩;replace H:(if 0≤aA then (if aA < (l0.length:Int) then (if a1.toList = (rdOf ByteArray.empty l0 aA).toList then (if y293.length < 8796093022208 then (r14_With.l0 kj5 l0 a1 (y293 ++ [rdOf ByteArray.empty l0 aA]) true (wrap64 (aA + 1))) else (none)) else (if y293.length < 8796093022208 then (r14_With.l0 kj5 l0 a1 (y293 ++ [rdOf ByteArray.empty l0 aA]) true (wrap64 (aA + 1))) else (none))) else (none)) else (none)) = some r:=by first | (rw [hy293];with_reducible exact H) | (have H2_:=(zK0 _ _).symm.trans H;rw [hy293];with_reducible exact H2_) | (have H2_:=(zK0 _ _).symm.trans H;with_reducible exact H2_) | with_reducible exact H | (rw [hy293];exact H) | exact H
        have Ny293:=a0C.mk hy293;clear hy293;by_cases c11:0≤aA
        ·rw [if_pos c11] at H;have c11b0:decide (0≤aA) = true:=zC0 c11;clear c11;by_cases c12:aA < (l0.length:Int)
         ·rw [if_pos c12] at H;have c12b0:decide (aA < (l0.length:Int)) = true:=zC0 c12;clear c12;by_cases c13:a1.toList = (rdOf ByteArray.empty l0 aA).toList
          ·rw [if_pos c13] at H;have c13b0:(a1.toList == (rdOf ByteArray.empty l0 aA).toList) = true:=beq_iff_eq.mpr c13;have c13b1:(a1.toList != (rdOf ByteArray.empty l0 aA).toList) = false:=bne_eq_false_iff_eq.mpr c13;clear c13;by_cases c14:y293.length < 8796093022208
           ·rw [if_pos c14] at H;have LMc14:=a0C.mk c14;clear c14;obtain ⟨y298,hy298⟩:∃ y_:List ByteArray,y_ = (y293 ++ [rdOf ByteArray.empty l0 aA]):=⟨_,rfl⟩;replace H:(r14_With.l0 kj5 l0 a1 y298 true (wrap64 (aA + 1))) = some r:=by first | (rw [hy298];with_reducible exact H) | (have H2_:=(zK0 _ _).symm.trans H;rw [hy298];with_reducible exact H2_) | (have H2_:=(zK0 _ _).symm.trans H;with_reducible exact H2_) | with_reducible exact H | (rw [hy298];exact H) | exact H
            have Ny298:=a0C.mk hy298;clear hy298;have H':=a0C.mk H;clear H;go_wp2_with (first | ((with_reducible refine a1H (b:=.append) (xs:=#[.tmp 25,.tmp 27]) rfl ?_);at_builtin;refine Kd.a2Q Kd.string (w0:=w) w.heap.size rfl (.tmp 25) (.tmp 27) 25 9 (.string ⟨#[]⟩) 16 rfl Tryz.underlying25 a8M rfl qF0 qD0 u5 aQ a1 [.string a1] (fun _ =>True) (fun _ =>False) rfl rfl ?aP (fun _ hk =>hk.elim) ?aF ?aO ?aB ?aS ?aL ?_;(case aP =>exact rfl);(case aB =>exact qB0);(case aF =>exact (fun _ _ =>trivial));(case aO =>exact qO0);(case aS =>exact (a0R qB0));(case aL =>have:=LMc10.out;omega);intro v294 w15 ho hb hg hat;rw [← Ny293.out] at ho;have aX:=a0C.mk (hb);have aY:=a0C.mk (ho);clear HB;clear aI;have HB:=aX;have HO295:=aY;clear aX aY;clear ho hb hg hat;have p296:0≤(aA:Int):=zB0 qA0;have q296:aA < (l0.length:Int):=zB0 qA0;obtain ⟨ad296,e296,bV⟩:=Kd.a2D HR0.out aA p296 q296;cases e296;replace bV:=a0E HB.out bV;replace p296:=eq_true p296;replace q296:=eq_true q296;have p297:0≤(aA:Int):=zB0 qA0;have q297:aA < (l0.length:Int):=zB0 qA0;obtain ⟨ad297,e297,dH⟩:=Kd.a2D HR0.out aA p297 q297;obtain rfl:ad296 = ad297:=(by injection e297);replace dH:=a0E HB.out dH;replace p297:=eq_true p297;replace q297:=eq_true q297) | ((with_reducible refine a1H (b:=.append) (xs:=#[.tmp 35,.tmp 40]) rfl ?_);at_builtin;refine Kd.a2Q Kd.string (w0:=w) w.heap.size rfl (.tmp 35) (.tmp 40) 25 9 (.string ⟨#[]⟩) 16 rfl Tryz.underlying25 a8M rfl qF0 qD0 v294 y293 (rdOf ByteArray.empty l0 aA) [.string (rdOf ByteArray.empty l0 aA)] (fun _ =>True) (fun _ =>False) rfl rfl ?aP (fun _ hk =>hk.elim) ?aF ?aO ?aB ?aS ?aL ?_;(case aP =>exact rfl);(case aB =>exact qB0);(case aF =>exact (fun _ _ =>trivial));(case aO =>exact qD2);(case aS =>exact (a0R qB0));(case aL =>have:=LMc14.out;omega);intro v299 w16 ho hb hg hat;rw [← Ny298.out] at ho;have aX:=a0C.mk (hb);have aY:=a0C.mk (ho);clear HB;clear HO295;have HB:=aX;have HO300:=aY;clear aX aY;clear ho hb hg hat));go_roundg kj5
            case measure =>have:=HK1.out;have:=HJ5.out;omega
            case rel =>exact ⟨(y298),(true),(wrap64 (aA + 1)),qE0,qE0,H',⟨by have:=HK1.out;have:=HJ5.out;omega⟩,⟨by (with_reducible repeat (first | apply Kd.a0T | apply Kd.a0S | apply Kd.a1B));exact HO300.out⟩,⟨by repeat (first | (with_reducible first | exact HB.out | apply a0B | apply a0A | apply a0D) | exact HB.out)⟩⟩
           ·rw [if_neg c14] at H;exact absurd H qG0
          ·rw [if_neg c13] at H;have c13b0:(a1.toList == (rdOf ByteArray.empty l0 aA).toList) = false:=beq_eq_false_iff_ne.mpr c13;have c13b1:(a1.toList != (rdOf ByteArray.empty l0 aA).toList) = true:=bne_iff_ne.mpr c13;by_cases c17:y293.length < 8796093022208
           ·rw [if_pos c17] at H;have LMc17:=a0C.mk c17;clear c17;obtain ⟨y302,hy302⟩:∃ y_:List ByteArray,y_ = (y293 ++ [rdOf ByteArray.empty l0 aA]):=⟨_,rfl⟩;replace H:(r14_With.l0 kj5 l0 a1 y302 true (wrap64 (aA + 1))) = some r:=by first | (rw [hy302];with_reducible exact H) | (have H2_:=(zK0 _ _).symm.trans H;rw [hy302];with_reducible exact H2_) | (have H2_:=(zK0 _ _).symm.trans H;with_reducible exact H2_) | with_reducible exact H | (rw [hy302];exact H) | exact H
            have Ny302:=a0C.mk hy302;clear hy302;have H':=a0C.mk H;clear H;go_wp2_with (first | ((with_reducible refine a1H (b:=.append) (xs:=#[.tmp 25,.tmp 27]) rfl ?_);at_builtin;refine Kd.a2Q Kd.string (w0:=w) w.heap.size rfl (.tmp 25) (.tmp 27) 25 9 (.string ⟨#[]⟩) 16 rfl Tryz.underlying25 a8M rfl qF0 qD0 u5 aQ a1 [.string a1] (fun _ =>True) (fun _ =>False) rfl rfl ?aP (fun _ hk =>hk.elim) ?aF ?aO ?aB ?aS ?aL ?_;(case aP =>exact rfl);(case aB =>exact qB0);(case aF =>exact (fun _ _ =>trivial));(case aO =>exact qO0);(case aS =>exact (a0R qB0));(case aL =>have:=LMc10.out;omega);intro v294 w18 ho hb hg hat;rw [← Ny293.out] at ho;have aX:=a0C.mk (hb);have aY:=a0C.mk (ho);clear HB;clear aI;have HB:=aX;have HO295:=aY;clear aX aY;clear ho hb hg hat;have p296:0≤(aA:Int):=zB0 qA0;have q296:aA < (l0.length:Int):=zB0 qA0;obtain ⟨ad296,e296,bV⟩:=Kd.a2D HR0.out aA p296 q296;cases e296;replace bV:=a0E HB.out bV;replace p296:=eq_true p296;replace q296:=eq_true q296;have p301:0≤(aA:Int):=zB0 qA0;have q301:aA < (l0.length:Int):=zB0 qA0;obtain ⟨ad301,e301,dI⟩:=Kd.a2D HR0.out aA p301 q301;obtain rfl:ad296 = ad301:=(by injection e301);replace dI:=a0E HB.out dI;replace p301:=eq_true p301;replace q301:=eq_true q301) | ((with_reducible refine a1H (b:=.append) (xs:=#[.tmp 35,.tmp 40]) rfl ?_);at_builtin;refine Kd.a2Q Kd.string (w0:=w) w.heap.size rfl (.tmp 35) (.tmp 40) 25 9 (.string ⟨#[]⟩) 16 rfl Tryz.underlying25 a8M rfl qF0 qD0 v294 y293 (rdOf ByteArray.empty l0 aA) [.string (rdOf ByteArray.empty l0 aA)] (fun _ =>True) (fun _ =>False) rfl rfl ?aP (fun _ hk =>hk.elim) ?aF ?aO ?aB ?aS ?aL ?_;(case aP =>exact rfl);(case aB =>exact qB0);(case aF =>exact (fun _ _ =>trivial));(case aO =>exact qD2);(case aS =>exact (a0R qB0));(case aL =>have:=LMc17.out;omega);intro v303 w19 ho hb hg hat;rw [← Ny302.out] at ho;have aX:=a0C.mk (hb);have aY:=a0C.mk (ho);clear HB;clear HO295;have HB:=aX;have HO304:=aY;clear aX aY;clear ho hb hg hat));go_roundg kj5
            case measure =>have:=HK1.out;have:=HJ5.out;omega
            case rel =>exact ⟨(y302),(true),(wrap64 (aA + 1)),qE0,qE0,H',⟨by have:=HK1.out;have:=HJ5.out;omega⟩,⟨by (with_reducible repeat (first | apply Kd.a0T | apply Kd.a0S | apply Kd.a1B));exact HO304.out⟩,⟨by repeat (first | (with_reducible first | exact HB.out | apply a0B | apply a0A | apply a0D) | exact HB.out)⟩⟩
           ·rw [if_neg c17] at H;exact absurd H qG0
         ·rw [if_neg c12] at H;exact absurd H qG0
        ·rw [if_neg c11] at H;exact absurd H qG0
       ·rw [if_neg c10] at H;exact absurd H qG0
      ·replace c9:=Bool.eq_false_iff.mpr c9;subst c9;rw [if_neg (show ¬ (false = true) by decide)] at H;by_cases c20:0≤aA
       ·rw [if_pos c20] at H;have c20b0:decide (0≤aA) = true:=zC0 c20;clear c20;by_cases c21:aA < (l0.length:Int)
        ·rw [if_pos c21] at H;have c21b0:decide (aA < (l0.length:Int)) = true:=zC0 c21;clear c21;by_cases c22:a1.toList = (rdOf ByteArray.empty l0 aA).toList
         ·rw [if_pos c22] at H;have c22b0:(a1.toList == (rdOf ByteArray.empty l0 aA).toList) = true:=beq_iff_eq.mpr c22;have c22b1:(a1.toList != (rdOf ByteArray.empty l0 aA).toList) = false:=bne_eq_false_iff_eq.mpr c22;clear c22;by_cases c23:aQ.length < 8796093022208
          ·rw [if_pos c23] at H;have LMc23:=a0C.mk c23;clear c23;obtain ⟨y307,hy307⟩:∃ y_:List ByteArray,y_ = (aQ ++ [rdOf ByteArray.empty l0 aA]):=⟨_,rfl⟩;replace H:(r14_With.l0 kj5 l0 a1 y307 true (wrap64 (aA + 1))) = some r:=by first | (rw [hy307];with_reducible exact H) | (have H2_:=(zK0 _ _).symm.trans H;rw [hy307];with_reducible exact H2_) | (have H2_:=(zK0 _ _).symm.trans H;with_reducible exact H2_) | with_reducible exact H | (rw [hy307];exact H) | exact H
           have Ny307:=a0C.mk hy307;clear hy307;have H':=a0C.mk H;clear H;have p305:0≤(aA:Int):=zB0 qA0;have q305:aA < (l0.length:Int):=zB0 qA0;obtain ⟨ad305,e305,bW⟩:=Kd.a2D HR0.out aA p305 q305;cases e305;replace bW:=a0E HB.out bW;replace p305:=eq_true p305;replace q305:=eq_true q305;have p306:0≤(aA:Int):=zB0 qA0;have q306:aA < (l0.length:Int):=zB0 qA0;obtain ⟨ad306,e306,dJ⟩:=Kd.a2D HR0.out aA p306 q306;obtain rfl:ad305 = ad306:=(by injection e306);replace dJ:=a0E HB.out dJ;replace p306:=eq_true p306;replace q306:=eq_true q306;go_wp2_with (first | ((with_reducible refine a1H (b:=.append) (xs:=#[.tmp 35,.tmp 40]) rfl ?_);at_builtin;refine Kd.a2Q Kd.string (w0:=w) w.heap.size rfl (.tmp 35) (.tmp 40) 25 9 (.string ⟨#[]⟩) 16 rfl Tryz.underlying25 a8M rfl qF0 qD0 u5 aQ (rdOf ByteArray.empty l0 aA) [.string (rdOf ByteArray.empty l0 aA)] (fun _ =>True) (fun _ =>False) rfl rfl ?aP (fun _ hk =>hk.elim) ?aF ?aO ?aB ?aS ?aL ?_;(case aP =>exact rfl);(case aB =>exact qB0);(case aF =>exact (fun _ _ =>trivial));(case aO =>exact qO0);(case aS =>exact (a0R qB0));(case aL =>have:=LMc23.out;omega);intro v308 w24 ho hb hg hat;rw [← Ny307.out] at ho;have aX:=a0C.mk (hb);have aY:=a0C.mk (ho);clear HB;clear aI;have HB:=aX;have HO309:=aY;clear aX aY;clear ho hb hg hat));go_roundg kj5
           case measure =>have:=HK1.out;have:=HJ5.out;omega
           case rel =>exact ⟨(y307),(true),(wrap64 (aA + 1)),qE0,qE0,H',⟨by have:=HK1.out;have:=HJ5.out;omega⟩,⟨by (with_reducible repeat (first | apply Kd.a0T | apply Kd.a0S | apply Kd.a1B));exact HO309.out⟩,⟨by repeat (first | (with_reducible first | exact HB.out | apply a0B | apply a0A | apply a0D) | exact HB.out)⟩⟩
          ·rw [if_neg c23] at H;exact absurd H qG0
         ·rw [if_neg c22] at H;have c22b0:(a1.toList == (rdOf ByteArray.empty l0 aA).toList) = false:=beq_eq_false_iff_ne.mpr c22;have c22b1:(a1.toList != (rdOf ByteArray.empty l0 aA).toList) = true:=bne_iff_ne.mpr c22;by_cases c25:aQ.length < 8796093022208
          ·rw [if_pos c25] at H;have LMc25:=a0C.mk c25;clear c25;obtain ⟨y311,hy311⟩:∃ y_:List ByteArray,y_ = (aQ ++ [rdOf ByteArray.empty l0 aA]):=⟨_,rfl⟩;replace H:(r14_With.l0 kj5 l0 a1 y311 bD (wrap64 (aA + 1))) = some r:=by first | (rw [hy311];with_reducible exact H) | (have H2_:=(zK0 _ _).symm.trans H;rw [hy311];with_reducible exact H2_) | (have H2_:=(zK0 _ _).symm.trans H;with_reducible exact H2_) | with_reducible exact H | (rw [hy311];exact H) | exact H
           have Ny311:=a0C.mk hy311;clear hy311;have H':=a0C.mk H;clear H;have p305:0≤(aA:Int):=zB0 qA0;have q305:aA < (l0.length:Int):=zB0 qA0;obtain ⟨ad305,e305,bW⟩:=Kd.a2D HR0.out aA p305 q305;cases e305;replace bW:=a0E HB.out bW;replace p305:=eq_true p305;replace q305:=eq_true q305;have p310:0≤(aA:Int):=zB0 qA0;have q310:aA < (l0.length:Int):=zB0 qA0;obtain ⟨ad310,e310,dK⟩:=Kd.a2D HR0.out aA p310 q310;obtain rfl:ad305 = ad310:=(by injection e310);replace dK:=a0E HB.out dK;replace p310:=eq_true p310;replace q310:=eq_true q310;go_wp2_with (first | ((with_reducible refine a1H (b:=.append) (xs:=#[.tmp 35,.tmp 40]) rfl ?_);at_builtin;refine Kd.a2Q Kd.string (w0:=w) w.heap.size rfl (.tmp 35) (.tmp 40) 25 9 (.string ⟨#[]⟩) 16 rfl Tryz.underlying25 a8M rfl qF0 qD0 u5 aQ (rdOf ByteArray.empty l0 aA) [.string (rdOf ByteArray.empty l0 aA)] (fun _ =>True) (fun _ =>False) rfl rfl ?aP (fun _ hk =>hk.elim) ?aF ?aO ?aB ?aS ?aL ?_;(case aP =>exact rfl);(case aB =>exact qB0);(case aF =>exact (fun _ _ =>trivial));(case aO =>exact qO0);(case aS =>exact (a0R qB0));(case aL =>have:=LMc25.out;omega);intro v312 w26 ho hb hg hat;rw [← Ny311.out] at ho;have aX:=a0C.mk (hb);have aY:=a0C.mk (ho);clear HB;clear aI;have HB:=aX;have HO313:=aY;clear aX aY;clear ho hb hg hat));go_roundg kj5
           case measure =>have:=HK1.out;have:=HJ5.out;omega
           case rel =>exact ⟨(y311),(bD),(wrap64 (aA + 1)),qE0,qE0,H',⟨by have:=HK1.out;have:=HJ5.out;omega⟩,⟨by (with_reducible repeat (first | apply Kd.a0T | apply Kd.a0S | apply Kd.a1B));exact HO313.out⟩,⟨by repeat (first | (with_reducible first | exact HB.out | apply a0B | apply a0A | apply a0D) | exact HB.out)⟩⟩
          ·rw [if_neg c25] at H;exact absurd H qG0
        ·rw [if_neg c21] at H;exact absurd H qG0
       ·rw [if_neg c20] at H;exact absurd H qG0
   ·rw [if_neg c5] at H;have c5b0:decide (aA < (l0.length:Int)) = false:=zL0 c5;clear c5;by_cases c27:bD = true
    ·subst c27;rw [if_pos rfl] at H;obtain rfl:=zD0 H;go_wp2;go_ret;exact qW3
    ·replace c27:=Bool.eq_false_iff.mpr c27;subst c27;rw [if_neg (show ¬ (false = true) by decide)] at H;by_cases c28:aQ.length < 8796093022208
     ·rw [if_pos c28] at H;have LMc28:=a0C.mk c28;clear c28;obtain ⟨y289,hy289⟩:∃ y_:List ByteArray,y_ = (aQ ++ [a1]):=⟨_,rfl⟩;replace H:(some y289) = some r:=by first | (rw [hy289];with_reducible exact H) | (have H2_:=(zK0 _ _).symm.trans H;rw [hy289];with_reducible exact H2_) | (have H2_:=(zK0 _ _).symm.trans H;with_reducible exact H2_) | with_reducible exact H | (rw [hy289];exact H) | exact H
      have Ny289:=a0C.mk hy289;clear hy289;obtain rfl:=zD0 H;go_wp2_with (first | ((with_reducible refine a1H (b:=.append) (xs:=#[.tmp 44,.tmp 46]) rfl ?_);at_builtin;refine Kd.a2Q Kd.string (w0:=w) w.heap.size rfl (.tmp 44) (.tmp 46) 25 9 (.string ⟨#[]⟩) 16 rfl Tryz.underlying25 a8M rfl qF0 qD0 u5 aQ a1 [.string a1] (fun _ =>True) (fun _ =>False) rfl rfl ?aP (fun _ hk =>hk.elim) ?aF ?aO ?aB ?aS ?aL ?_;(case aP =>exact rfl);(case aB =>exact qB0);(case aF =>exact (fun _ _ =>trivial));(case aO =>exact qO0);(case aS =>exact (a0R qB0));(case aL =>have:=LMc28.out;omega);intro v290 w29 ho hb hg hat;rw [← Ny289.out] at ho;have aX:=a0C.mk (hb);have aY:=a0C.mk (ho);clear HB;clear aI;have HB:=aX;have HO291:=aY;clear aX aY;clear ho hb hg hat));go_ret;exact ⟨_,by first | rfl | (simp [a0N,a0M] <;> rfl) | (simp [*,a0N,a0M] <;> rfl),by (with_reducible repeat (first | apply Kd.a0T | apply Kd.a0S | apply Kd.a1B));exact HO291.out,by repeat (first | (with_reducible first | exact HB.out | apply a0B | apply a0A | apply a0D) | exact HB.out)⟩
     ·rw [if_neg c28] at H;exact absurd H qG0
mutual
def r14_Union.l0:Nat→List ByteArray→List ByteArray→List ByteArray→Int→Option (List ByteArray)
 | 0,_,_,_,_ =>none
 | k + 1,x0,x1,x5,x6 =>if x6 < (x0.length:Int) then (if 0≤x6 then ((r14_With.f k x5 (rdOf ByteArray.empty x0 x6)).bind fun t318 =>(r14_Union.l0 k x0 x1 t318 (wrap64 (x6 + 1)))) else (none)) else (r14_Union.l1 k x1 x5 0)
def r14_Union.l1:Nat→List ByteArray→List ByteArray→Int→Option (List ByteArray)
 | 0,_,_,_ =>none
 | k + 1,x1,x5,x7 =>if x7 < (x1.length:Int) then (if 0≤x7 then ((r14_With.f k x5 (rdOf ByteArray.empty x1 x7)).bind fun t322 =>(r14_Union.l1 k x1 t322 (wrap64 (x7 + 1)))) else (none)) else (some x5)
end
def r14_Union.f (k:Nat) (l0:List ByteArray) (l1:List ByteArray):Option (List ByteArray):=r14_Union.l0 k l0 l1 (([]:List ByteArray)) 0
set_option maxHeartbeats 8000000 in
set_option maxRecDepth 100000 in
theorem r14_Union.calls (k:Nat) (A0:Option Addr) (c0:Nat) (l0:List ByteArray) (A1:Option Addr) (c1:Nat) (l1:List ByteArray) (r:List ByteArray) (w:World) (hr0:Kd.C Kd.string w A0 l0.length l0) (hc0:l0.length≤c0) (hr1:Kd.C Kd.string w A1 l1.length l1) (hc1:l1.length≤c1) (h:r14_Union.f k l0 l1 = some r) :
    Calls Tryz.prog 16 #[.slice A0 l0.length c0,.slice A1 l1.length c1] w fun e w' =>∃ v0_:Value,e = .returned (v0_)∧Kd.R Kd.string 9 w' w.heap.size (fun _ =>True) v0_ r∧Below w.heap.size w w':=by
 have HR0:=a0C.mk hr0;have HC0:=a0C.mk hc0;clear hr0 hc0;have HR1:=a0C.mk hr1;have HC1:=a0C.mk hc1;clear hr1 hc1;have HB:=a0C.mk (zJ0 w.heap.size w);have H:(r14_Union.l0 k l0 l1 (([]:List ByteArray)) 0) = some r:=h;clear h;obtain ⟨y314,hy314⟩:∃ y_:List ByteArray,y_ = (([]:List ByteArray)):=⟨_,rfl⟩;replace H:(r14_Union.l0 k l0 l1 y314 0) = some r:=by first | (rw [hy314];with_reducible exact H) | (have H2_:=(zK0 _ _).symm.trans H;rw [hy314];with_reducible exact H2_) | (have H2_:=(zK0 _ _).symm.trans H;with_reducible exact H2_) | with_reducible exact H | (rw [hy314];exact H) | exact H
 have Ny314:=a0C.mk hy314;clear hy314;have H':=a0C.mk H;clear H;go_enter Tryz.func16,Tryz.ntmps16
 go_wp2_with (first | ((with_reducible refine a0V (N:=8) rfl ?_);refine Kd.a9T Kd.string _ 9 ?hg (N:=8) ?hd (xs:=([]:List ByteArray)) (inner:=[]) (ok:=fun _ =>True) (okp:=fun _ =>True) ?hr ?hp (fun _ hk =>hk) trivial (zJ0 _ _) (zG0 _) qG0 ?_;(case hd =>rfl);(case hg =>rfl);(case hr =>first | (go_simp;done) | (go_simp;rfl));(case hp =>exact (Reps.none _ _));intro v315 w3 ho4 hb hg_ hnew_;clear hg_ hnew_;(first | rw [← Ny314.out] at ho4 | (simp only [Int.reduceToNat] at ho4;rw [← Ny314.out] at ho4));have HO316:=a0C.mk (Kd.a2W ho4 (a0R qB0));replace HB:=a0C.mk (a0L qB0 hb);clear hb ho4));go_loopg [5,6] k (fun kq v5 v6 w' =>∃ (aQ:List ByteArray) (bD:Int),v6 = .int .i64 bD∧a0C (r14_Union.l0 kq l0 l1 aQ bD = some r)∧a0C (kq≤k)∧a0C (Kd.R Kd.string 9 w' w.heap.size (fun _ =>True) v5 aQ)∧a0C (Below w.heap.size w w'))
 case atStart =>exact ⟨(y314),(0),qE0,H',⟨zG0 _⟩,⟨by (with_reducible repeat (first | apply Kd.a0T | apply Kd.a0S | apply Kd.a1B));exact HO316.out⟩,⟨by repeat (first | (with_reducible first | exact HB.out | apply a0B | apply a0A | apply a0D) | exact HB.out)⟩⟩
 case round =>
  clear H';obtain ⟨aQ,bD,rfl,HA,HK1,aI,HB⟩:=hrel;cases gk with
  | zero =>exact absurd HA.out (by simp [r14_Union.l0])
  | succ k1 =>
   have H:=HA.out;clear HA;simp only [r14_Union.l0] at H;by_cases c5:bD < (l0.length:Int)
   ·rw [if_pos c5] at H;have c5b0:decide (bD < (l0.length:Int)) = true:=zC0 c5;clear c5;by_cases c6:0≤bD
    ·rw [if_pos c6] at H;have c6b0:decide (0≤bD) = true:=zC0 c6;clear c6;obtain ⟨t318,A7,H⟩:=ob_ H;have H':=a0C.mk H;clear H;have p317:0≤(bD:Int):=zB0 qA0;have q317:bD < (l0.length:Int):=zB0 qA0;obtain ⟨ad317,e317,dL⟩:=Kd.a2D HR0.out bD p317 q317;cases e317;replace dL:=a0E HB.out dL;replace p317:=eq_true p317;replace q317:=eq_true q317;obtain ⟨Ao8,co8,eo8⟩:=Kd.a1V aI.out;subst eo8;go_wp2_with (first | ((with_reducible refine a1A (f:=35) rfl ?_);refine a2B (some 20) rfl rfl Tryz.func35 qH0 rfl #[.slice Ao8 aQ.length co8,.string (rdOf ByteArray.empty l0 bD)] rfl qC0 ?_;(with_reducible refine (r14_With.calls k1 _ _ aQ (rdOf ByteArray.empty l0 bD) t318 _ ?side1 ?side2 A7.out).mono ?_);(case side1 =>repeat (first | exact (Kd.a1J aI.out).2.2 | (with_reducible refine Kd.a1E ?_ _) | (with_reducible refine Kd.a1D ?_ _) | (with_reducible refine Kd.a1I ?_)));(case side2 =>exact (Kd.a1J aI.out).2.1);rintro e w9 ⟨v319,rfl,ho0,hb⟩;refine ⟨_,rfl,?_⟩;have aX:=a0C.mk (Kd.a6U qO0 (Kd.a5C ho0) hb);have aY:=a0C.mk (Kd.a2W (Kd.b2L ho0 (Kd.R_lt qO0)) (a0R qB0));have cA:=a0C.mk (a0L qB0 hb);clear aI;clear HB;have aI:=aX;have HO320:=aY;have HB:=cA;clear aX aY cA;(try clear hb);(try clear ho0)));go_roundg k1
     case measure =>have:=HK1.out;omega
     case rel =>exact ⟨(t318),(wrap64 (bD + 1)),qE0,H',⟨by have:=HK1.out;omega⟩,⟨by (with_reducible repeat (first | apply Kd.a0T | apply Kd.a0S | apply Kd.a1B));exact Kd.a2S HO320.out (fun _ hk =>trivial)⟩,⟨by repeat (first | (with_reducible first | exact HB.out | apply a0B | apply a0A | apply a0D) | exact HB.out)⟩⟩
    ·rw [if_neg c6] at H;exact absurd H qG0
   ·rw [if_neg c5] at H;have c5b0:decide (bD < (l0.length:Int)) = false:=zL0 c5;clear c5;have H':=a0C.mk H;clear H;go_wp2;go_loopg [5,7] k1 (fun kq v5 v7 w' =>∃ (bM:List ByteArray) (bX:Int),v7 = .int .i64 bX∧a0C (r14_Union.l1 kq l1 bM bX = some r)∧a0C (kq≤k1)∧a0C (Kd.R Kd.string 9 w' w.heap.size (fun _ =>True) v5 bM)∧a0C (Below w.heap.size w w'))
    case atStart =>exact ⟨(aQ),(0),qE0,H',⟨zG0 _⟩,⟨by (with_reducible repeat (first | apply Kd.a0T | apply Kd.a0S | apply Kd.a1B));exact aI.out⟩,⟨by repeat (first | (with_reducible first | exact HB.out | apply a0B | apply a0A | apply a0D) | exact HB.out)⟩⟩
    case round =>
     clear H';obtain ⟨bM,bX,rfl,HA,HK2,aI,HB⟩:=hrel;cases gk with
     | zero =>exact absurd HA.out (by simp [r14_Union.l1])
     | succ k2 =>
      have H:=HA.out;clear HA;simp only [r14_Union.l1] at H;by_cases c10:bX < (l1.length:Int)
      ·rw [if_pos c10] at H;have c10b0:decide (bX < (l1.length:Int)) = true:=zC0 c10;clear c10;by_cases c11:0≤bX
       ·rw [if_pos c11] at H;have c11b0:decide (0≤bX) = true:=zC0 c11;clear c11;obtain ⟨t322,A12,H⟩:=ob_ H;have H':=a0C.mk H;clear H;have p321:0≤(bX:Int):=zB0 qA0;have q321:bX < (l1.length:Int):=zB0 qA0;obtain ⟨ad321,e321,dM⟩:=Kd.a2D HR1.out bX p321 q321;cases e321;replace dM:=a0E HB.out dM;replace p321:=eq_true p321;replace q321:=eq_true q321;obtain ⟨Ao13,co13,eo13⟩:=Kd.a1V aI.out;subst eo13;go_wp2_with (first | ((with_reducible refine a1A (f:=35) rfl ?_);refine a2B (some 32) rfl rfl Tryz.func35 qH0 rfl #[.slice Ao13 bM.length co13,.string (rdOf ByteArray.empty l1 bX)] rfl qC0 ?_;(with_reducible refine (r14_With.calls k2 _ _ bM (rdOf ByteArray.empty l1 bX) t322 _ ?side1 ?side2 A12.out).mono ?_);(case side1 =>repeat (first | exact (Kd.a1J aI.out).2.2 | (with_reducible refine Kd.a1E ?_ _) | (with_reducible refine Kd.a1D ?_ _) | (with_reducible refine Kd.a1I ?_)));(case side2 =>exact (Kd.a1J aI.out).2.1);rintro e w14 ⟨v323,rfl,ho0,hb⟩;refine ⟨_,rfl,?_⟩;have aX:=a0C.mk (Kd.a6U qO0 (Kd.a5C ho0) hb);have aY:=a0C.mk (Kd.a2W (Kd.b2L ho0 (Kd.R_lt qO0)) (a0R qB0));have cA:=a0C.mk (a0L qB0 hb);clear aI;clear HB;have aI:=aX;have HO324:=aY;have HB:=cA;clear aX aY cA;(try clear hb);(try clear ho0)));go_roundg k2
        case measure =>have:=HK1.out;have:=HK2.out;omega
        case rel =>exact ⟨(t322),(wrap64 (bX + 1)),qE0,H',⟨by have:=HK1.out;have:=HK2.out;omega⟩,⟨by (with_reducible repeat (first | apply Kd.a0T | apply Kd.a0S | apply Kd.a1B));exact Kd.a2S HO324.out (fun _ hk =>trivial)⟩,⟨by repeat (first | (with_reducible first | exact HB.out | apply a0B | apply a0A | apply a0D) | exact HB.out)⟩⟩
       ·rw [if_neg c11] at H;exact absurd H qG0
      ·rw [if_neg c10] at H;have c10b0:decide (bX < (l1.length:Int)) = false:=zL0 c10;clear c10;obtain rfl:=zD0 H;go_wp2;go_ret;exact qW3
end Go.Proofs.YthhgfncliffggaaGreat.Pr
namespace Go.Proofs.YthhgfncliffggaaGreat.Man
open Go.RowKit Go.Proofs.YthhgfncliffggaaGreat.Pr Go.Proofs.YthhgfncliffggaaGreatW.PrintWords Go.Proofs.YthhgfncliffggaaGreat.Tarj
def ints (N:Nat) (f:Nat→Nat):Array Value:=((List.range N).map fun x =>Value.int .i64 (f x:Nat)).toArray
def bls (N:Nat) (f:Nat→Bool):Array Value:=((List.range N).map fun x =>Value.bool (f x)).toArray
theorem b0W {α:Type} (f:Nat→α) (N n:Nat) (v:α):((List.range N).map f).set n v = (List.range N).map (Tarj.upd f n v):=by
 apply zF2;intro i;rw [List.getElem?_set];by_cases h:n = i
 ·subst h;by_cases hn:n < N
  ·simp [hn,Tarj.upd]
  ·simp [hn]
 ·rw [if_neg h,List.getElem?_map,List.getElem?_map];by_cases hi:i < N
  ·simp [hi,Tarj.upd,Ne.symm h]
  ·simp [hi]
theorem a6Q (N:Nat) (f:Nat→Nat) (n v:Nat):(ints N f).setIfInBounds n (.int .i64 (v:Nat)) = ints N (Tarj.upd f n v):=by
 unfold ints;rw [zN0,b0W]
 congr 2
 funext x
 simp only [Tarj.upd]
 split <;> rfl
theorem bls_set (N:Nat) (f:Nat→Bool) (n:Nat) (v:Bool):(bls N f).setIfInBounds n (.bool v) = bls N (Tarj.upd f n v):=by
 unfold bls;rw [zN0,b0W]
 congr 2
 funext x
 simp only [Tarj.upd]
 split <;> rfl
theorem a3B {N n:Nat} (f:Nat→Nat) (h:n < N):(ints N f)[n]? = some (.int .i64 (f n:Nat)):=by simp [ints,h]
theorem bls_get {N n:Nat} (f:Nat→Bool) (h:n < N):(bls N f)[n]? = some (.bool (f n)):=by simp [bls,h]
abbrev kI:Kd Int:=Kd.int .i64
abbrev kL:Kd (List Int):=Kd.slice 3 (Kd.int .i64)
def toI (l:List Nat):List Int:=l.map Int.ofNat
structure FS (B F b1 b2 b4:Nat) (A:Option Addr) (c:Nat) (g:List (List Int)) (s:St) (vs vk:Value) (W:World):Prop where
 f:W.heap[F]? = some (.cells #[.slice A g.length c,.slice (some ⟨b1,0,none⟩) g.length g.length,.slice (some ⟨b2,0,none⟩) g.length g.length,vs,.slice (some ⟨b4,0,none⟩) g.length g.length,.int .i64 (s.next:Nat),vk] 83 (0,0))
 x:W.heap[b1]? = some (.cells (ints g.length s.index) 3 (0,0))
 l:W.heap[b2]? = some (.cells (ints g.length s.low) 3 (0,0))
 o:W.heap[b4]? = some (.cells (bls g.length s.on) 4 (0,0))
 st:kI.R 3 W B (fun k =>k≠b1∧k≠b2) vs (toI s.stack)
 kn:Kd.N kL 43 W B (fun k =>B≤k∧k≠F∧k≠b1∧k≠b2∧k≠b4∧some k≠vs.ownBlock) vk (s.knots.map toI)
 gF:Kd.F kL W (fun k =>k < B) A g.length g
 b:B≤F∧B≤b1∧B≤b2∧B≤b4
 ne:b1≠b2
section
variable {B F b1 b2 b4:Nat} {A:Option Addr} {c:Nat} {g:List (List Int)} {s:St} {vs vk:Value} {W W1:World}
theorem FS.nF1 (h:FS B F b1 b2 b4 A c g s vs vk W):F≠b1:=a7J h.f h.x qF0
theorem FS.nF2 (h:FS B F b1 b2 b4 A c g s vs vk W):F≠b2:=a7J h.f h.l qF0
theorem FS.nF4 (h:FS B F b1 b2 b4 A c g s vs vk W):F≠b4:=a7J h.f h.o qF0
theorem FS.n14 (h:FS B F b1 b2 b4 A c g s vs vk W):b1≠b4:=a7J h.x h.o qF0
theorem FS.n24 (h:FS B F b1 b2 b4 A c g s vs vk W):b2≠b4:=a7J h.l h.o qF0
theorem FS.nsF (h:FS B F b1 b2 b4 A c g s vs vk W):some F≠vs.ownBlock:=Kd.R_ne h.st h.f qF0
theorem FS.ns4 (h:FS B F b1 b2 b4 A c g s vs vk W):some b4≠vs.ownBlock:=Kd.R_ne h.st h.o qF0
theorem FS.ns1 (h:FS B F b1 b2 b4 A c g s vs vk W):some b1≠vs.ownBlock:=fun e =>(h.st.1 b1 e.symm).1 rfl
theorem FS.ns2 (h:FS B F b1 b2 b4 A c g s vs vk W):some b2≠vs.ownBlock:=fun e =>(h.st.1 b2 e.symm).2 rfl
theorem FS.below (h:FS B F b1 b2 b4 A c g s vs vk W) (hb:Below W.heap.size W W1):FS B F b1 b2 b4 A c g s vs vk W1 :=
 ⟨a0U h.f hb,a0U h.x hb,a0U h.l hb,a0U h.o hb,Kd.a3L h.st hb,Kd.a2J h.kn hb,Kd.a1U h.gF hb,h.b,h.ne⟩
theorem FS.far (h:FS B F b1 b2 b4 A c g s vs vk W) (q i:Nat) (hq:q = F∨q = b1∨q = b2∨q = b4) (u:Value) :
  kI.R 3 (W.setCell ⟨q,i,none⟩ u) B (fun k =>k≠b1∧k≠b2) vs (toI s.stack) ∧
  Kd.N kL 43 (W.setCell ⟨q,i,none⟩ u) B (fun k =>B≤k∧k≠F∧k≠b1∧k≠b2∧k≠b4∧some k≠vs.ownBlock) vk (s.knots.map toI) ∧
  Kd.F kL (W.setCell ⟨q,i,none⟩ u) (fun k =>k < B) A g.length g∧Below B W (W.setCell ⟨q,i,none⟩ u):=by
 have hb:=h.b;have hn:some q≠vs.ownBlock:=by
  rcases hq with rfl | rfl | rfl | rfl
  ·exact h.nsF
  ·exact h.ns1
  ·exact h.ns2
  ·exact h.ns4
 have hge:B≤q:=by rcases hq with rfl | rfl | rfl | rfl <;> omega
 refine ⟨Kd.a2S (Kd.b3Y (p:=⟨q,i,none⟩) (Kd.a2S (Kd.a6J (ok:=fun k =>some k = vs.ownBlock) rfl h.st (fun k hk =>hk.symm)) (fun _ hk =>hk)) (fun k hk e =>hn (by rw [← hk];exact congrArg some e.symm)) u) (fun k hk =>h.st.1 k hk.symm),
  Kd.c4C (p:=⟨q,i,none⟩) h.kn (fun k hk e =>?_) u,Kd.a9U (p:=⟨q,i,none⟩) h.gF (fun k hk e =>?_) u,(zJ0 B W).setCell (p:=⟨q,i,none⟩) hge u⟩
 ·obtain ⟨_,k1,k2,k3,k4,_⟩:=hk;have e':k = q:=e;subst e';rcases hq with rfl | rfl | rfl | rfl
  ·exact k1 rfl
  ·exact k2 rfl
  ·exact k3 rfl
  ·exact k4 rfl
 ·have e':k = q:=e;omega
theorem FS.setNext (h:FS B F b1 b2 b4 A c g s vs vk W) (v:Nat):FS B F b1 b2 b4 A c g { s with next:=v } vs vk (W.setCell ⟨F,5,none⟩ (.int .i64 (v:Nat))):=by
 obtain ⟨a1,a2,a3,_⟩:=h.far F 5 (.inl rfl) (.int .i64 (v:Nat));exact ⟨a3A h.f 5 _ rfl,a2F h.x (Ne.symm h.nF1) _,a2F h.l (Ne.symm h.nF2) _,a2F h.o (Ne.symm h.nF4) _,a1,a2,a3,h.b,h.ne⟩
theorem FS.setIndex (h:FS B F b1 b2 b4 A c g s vs vk W) (n v:Nat):FS B F b1 b2 b4 A c g { s with index:=Tarj.upd s.index n v } vs vk (W.setCell ⟨b1,n,none⟩ (.int .i64 (v:Nat))):=by
 obtain ⟨a1,a2,a3,_⟩:=h.far b1 n (.inr (.inl rfl)) (.int .i64 (v:Nat));exact ⟨a2F h.f h.nF1 _,a3A h.x n _ (a6Q _ _ _ _),a2F h.l (Ne.symm h.ne) _,a2F h.o (Ne.symm h.n14) _,a1,a2,a3,h.b,h.ne⟩
theorem FS.setLow (h:FS B F b1 b2 b4 A c g s vs vk W) (n v:Nat):FS B F b1 b2 b4 A c g { s with low:=Tarj.upd s.low n v } vs vk (W.setCell ⟨b2,n,none⟩ (.int .i64 (v:Nat))):=by
 obtain ⟨a1,a2,a3,_⟩:=h.far b2 n (.inr (.inr (.inl rfl))) (.int .i64 (v:Nat));exact ⟨a2F h.f h.nF2 _,a2F h.x h.ne _,a3A h.l n _ (a6Q _ _ _ _),a2F h.o (Ne.symm h.n24) _,a1,a2,a3,h.b,h.ne⟩
theorem FS.setOn (h:FS B F b1 b2 b4 A c g s vs vk W) (n:Nat) (v:Bool):FS B F b1 b2 b4 A c g { s with on:=Tarj.upd s.on n v } vs vk (W.setCell ⟨b4,n,none⟩ (.bool v)):=by
 obtain ⟨a1,a2,a3,_⟩:=h.far b4 n (.inr (.inr (.inr rfl))) (.bool v);exact ⟨a2F h.f h.nF4 _,a2F h.x h.n14 _,a2F h.l h.n24 _,a3A h.o n _ (bls_set _ _ _ _),a1,a2,a3,h.b,h.ne⟩
theorem FS.setStack (h:FS B F b1 b2 b4 A c g s vs vk W) {vs1:Value} {st1:List Nat} (hr:kI.R 3 W1 B (fun k =>k≠b1∧k≠b2) vs1 (toI st1)) (hg:W.grownBy W1 vs.ownBlock) (hat:vs1.ownBlock = vs.ownBlock∨∃ b,vs1.ownBlock = some b∧W.heap.size≤b) (hbb:Below B W W1) :
  FS B F b1 b2 b4 A c g { s with stack:=st1 } vs1 vk (W1.setCell ⟨F,3,none⟩ vs1)∧Below B W (W1.setCell ⟨F,3,none⟩ vs1):=by
 have hb:=h.b;have hf:=a1O h.f hg h.nsF;have n1:some F≠vs1.ownBlock:=Kd.R_ne hr hf qF0;have hk:Kd.N kL 43 W1 B (fun k =>B≤k∧k≠F∧k≠b1∧k≠b2∧k≠b4∧some k≠vs1.ownBlock) vk (s.knots.map toI) :=
  Kd.a3F (Kd.c4D (ok:=fun k =>B≤k∧k≠F∧k≠b1∧k≠b2∧k≠b4) (Kd.a3F h.kn (fun k hk =>⟨⟨hk.1,hk.2.1,hk.2.2.1,hk.2.2.2.1,hk.2.2.2.2.1⟩,hk.2.2.2.2.2⟩)) hg hat) (fun k hk =>⟨hk.1.1,hk.1.2.1,hk.1.2.2.1,hk.1.2.2.2.1,hk.1.2.2.2.2,hk.2⟩)
 have hgF:Kd.F kL W1 (fun k =>k < B) A g.length g:=Kd.a5W h.gF (fun k hk _ =>hbb.block k hk);refine ⟨⟨a3A hf 3 _ rfl,a2F (a1O h.x hg h.ns1) (Ne.symm h.nF1) _,a2F (a1O h.l hg h.ns2) (Ne.symm h.nF2) _,a2F (a1O h.o hg h.ns4) (Ne.symm h.nF4) _,?_,Kd.c4C (p:=⟨F,3,none⟩) hk (fun k hk =>hk.2.1) _,Kd.a9U (p:=⟨F,3,none⟩) hgF (fun k hk e =>by (have e':k = F:=e);omega) _,h.b,h.ne⟩,hbb.setCell (p:=⟨F,3,none⟩) hb.1 _⟩;exact Kd.a2S (Kd.b3Y (p:=⟨F,3,none⟩) (Kd.a6J (ok:=fun k =>some k = vs1.ownBlock) rfl hr (fun k hk =>hk.symm)) (fun k hk e =>n1 (by rw [← hk];exact congrArg some (show F = k from e.symm))) _) (fun k hk =>hr.1 k hk.symm)
theorem FS.setKnots (h:FS B F b1 b2 b4 A c g s vs vk W) {vk1:Value} {kn1:List (List Nat)} (hk:Kd.N kL 43 W1 B (fun k =>B≤k∧k≠F∧k≠b1∧k≠b2∧k≠b4∧some k≠vs.ownBlock) vk1 (kn1.map toI)) (hg:W.grownBy W1 vk.ownBlock) (hbb:Below B W W1) :
  FS B F b1 b2 b4 A c g { s with knots:=kn1 } vs vk1 (W1.setCell ⟨F,6,none⟩ vk1)∧Below B W (W1.setCell ⟨F,6,none⟩ vk1):=by
 have hb:=h.b;have m1:∀ q,(q = F∨q = b1∨q = b2∨q = b4)→some q≠vk.ownBlock:=fun q hq e =>by
  obtain ⟨_,k1,k2,k3,k4,_⟩:=h.kn.1 q e.symm;rcases hq with rfl | rfl | rfl | rfl
  ·exact k1 rfl
  ·exact k2 rfl
  ·exact k3 rfl
  ·exact k4 rfl
 have hf:=a1O h.f hg (m1 F (.inl rfl));have hst:kI.R 3 W1 B (fun k =>k≠b1∧k≠b2) vs (toI s.stack):=Kd.a2S (Kd.c4A (Kd.a6J (ok:=fun k =>some k = vs.ownBlock) rfl h.st (fun k hk =>hk.symm)) hg (fun k hk e =>(h.kn.1 k e.symm).2.2.2.2.2 hk)) (fun k hk =>h.st.1 k hk.symm);have hgF:Kd.F kL W1 (fun k =>k < B) A g.length g:=Kd.a5W h.gF (fun k hk _ =>hbb.block k hk);refine ⟨⟨a3A hf 6 _ rfl,a2F (a1O h.x hg (m1 b1 (.inr (.inl rfl)))) (Ne.symm h.nF1) _,a2F (a1O h.l hg (m1 b2 (.inr (.inr (.inl rfl))))) (Ne.symm h.nF2) _,a2F (a1O h.o hg (m1 b4 (.inr (.inr (.inr rfl))))) (Ne.symm h.nF4) _,?_,Kd.c4C (p:=⟨F,6,none⟩) hk (fun k hk =>hk.2.1) _,Kd.a9U (p:=⟨F,6,none⟩) hgF (fun k hk e =>by (have e':k = F:=e);omega) _,h.b,h.ne⟩,hbb.setCell (p:=⟨F,6,none⟩) hb.1 _⟩;exact Kd.a2S (Kd.b3Y (p:=⟨F,6,none⟩) (Kd.a6J (ok:=fun k =>some k = vs.ownBlock) rfl hst (fun k hk =>hk.symm)) (fun k hk e =>h.nsF (by rw [← hk];exact congrArg some (show F = k from e.symm))) _) (fun k hk =>h.st.1 k hk.symm)
theorem FS.cf (h:FS B F b1 b2 b4 A c g s vs vk W):(W.cell? ⟨F,0,none⟩ = some (.slice A g.length c)∧W.cell? ⟨F,1,none⟩ = some (.slice (some ⟨b1,0,none⟩) g.length g.length)∧W.cell? ⟨F,2,none⟩ = some (.slice (some ⟨b2,0,none⟩) g.length g.length)∧W.cell? ⟨F,3,none⟩ = some vs∧W.cell? ⟨F,4,none⟩ = some (.slice (some ⟨b4,0,none⟩) g.length g.length)∧W.cell? ⟨F,5,none⟩ = some (.int .i64 (s.next:Nat))∧W.cell? ⟨F,6,none⟩ = some vk) ∧
  (W.frozen? ⟨F,3,none⟩ = false∧W.frozen? ⟨F,5,none⟩ = false∧W.frozen? ⟨F,6,none⟩ = false) :=
 ⟨⟨(a0O h.f 0).trans rfl,(a0O h.f 1).trans rfl,(a0O h.f 2).trans rfl,(a0O h.f 3).trans rfl,(a0O h.f 4).trans rfl,(a0O h.f 5).trans rfl,(a0O h.f 6).trans rfl⟩,a0Q h.f 3,a0Q h.f 5,a0Q h.f 6⟩
theorem FS.cn (h:FS B F b1 b2 b4 A c g s vs vk W) {n:Nat} (hn:n < g.length):(W.cell? ⟨b1,n,none⟩ = some (.int .i64 (s.index n:Nat))∧W.cell? ⟨b2,n,none⟩ = some (.int .i64 (s.low n:Nat))∧W.cell? ⟨b4,n,none⟩ = some (.bool (s.on n))) ∧
  (W.frozen? ⟨b1,n,none⟩ = false∧W.frozen? ⟨b2,n,none⟩ = false∧W.frozen? ⟨b4,n,none⟩ = false) :=
 ⟨⟨(a0O h.x n).trans (a3B _ hn),(a0O h.l n).trans (a3B _ hn),(a0O h.o n).trans (bls_get _ hn)⟩,a0Q h.x n,a0Q h.l n,a0Q h.o n⟩
end
def cnt (N:Nat) (s:St):Nat:=s.next + whites N s
def tot (s:St):Nat:=s.knots.flatten.length + s.stack.length
theorem a9G {N:Nat} {s:St} {n:Nat} (hn:n < N) (h0:s.index n = 0):whites N (enterF n s) + 1 = whites N s:=by
 unfold whites;have key:∀ l:List Nat,l.Nodup→(n ∈ l→l.countP (fun x =>decide ((enterF n s).index x = 0)) + 1 = l.countP (fun x =>decide (s.index x = 0)))∧(n ∉ l→l.countP (fun x =>decide ((enterF n s).index x = 0)) = l.countP (fun x =>decide (s.index x = 0))):=by
  intro l
  induction l with
  | nil =>intro _;exact ⟨fun h =>(by cases h),fun _ =>rfl⟩
  | cons a r ih =>
   intro hd;obtain ⟨hd1,hd2⟩:=List.nodup_cons.1 hd;obtain ⟨i1,i2⟩:=ih hd2;simp only [List.countP_cons];refine ⟨fun hm =>?_,fun hm =>?_⟩
   ·by_cases ha:a = n
    ·subst ha;rw [i2 hd1];simp [enterF,Tarj.upd,h0]
    ·have:=i1 ((zO0.1 hm).resolve_left (fun e =>ha e.symm));simp only [enterF,Tarj.upd,if_neg ha] at this ⊢;omega
   ·have ha:a≠n:=fun e =>hm (e ▸ zP0)
    have:=i2 (fun h =>hm (zQ0 _ h));simp only [enterF,Tarj.upd,if_neg ha] at this ⊢;omega
 exact (key _ List.nodup_range).1 (zW0.2 hn)
theorem a8G (l:List Nat):(sortN l).length = l.length:=List.length_mergeSort _
theorem b7Z (n:Nat) (s:St):tot (knotF n s) = tot s∧(knotF n s).next = s.next∧(knotF n s).index = s.index:=by
 refine ⟨?_,rfl,rfl⟩;simp only [tot,knotF,List.flatten_append,zR0,List.flatten_cons,List.flatten_nil,zO2,a8G,zG1,zZ1];have:=List.idxOf_le_length (a:=n) (l:=s.stack);omega
theorem b0M {adj:Nat→List Nat} {N:Nat} (hN:∀ x,x < N→∀ y,y ∈ adj x→y < N):∀ (k:Nat) (n:Nat) (s:St),n < N→s.index n = 0→cnt N (visitF adj k n s) = cnt N s∧(tot s = s.next→tot (visitF adj k n s) = (visitF adj k n s).next):=by
 intro k
 induction k with
 | zero =>intro n s _ _;exact ⟨rfl,fun h =>h⟩
 | succ k ih =>
  intro n s hn h0;have fold:∀ (l:List Nat) (t:St),(∀ y,y ∈ l→y < N)→cnt N (l.foldl (stepF (visitF adj k) n) t) = cnt N t∧(tot t = t.next→tot (l.foldl (stepF (visitF adj k) n) t) = (l.foldl (stepF (visitF adj k) n) t).next):=by
   intro l
   induction l with
   | nil =>intro t _;exact ⟨rfl,fun h =>h⟩
   | cons m r ihl =>
    intro t hl;obtain ⟨a,b⟩:=ihl (stepF (visitF adj k) n t m) (fun y hy =>hl y (zQ0 _ hy));have hs:cnt N (stepF (visitF adj k) n t m) = cnt N t∧(tot t = t.next→tot (stepF (visitF adj k) n t m) = (stepF (visitF adj k) n t m).next):=by
     unfold stepF
     split
     ·next hm =>
      obtain ⟨c1,c3⟩:=ih m t (hl m zP0) hm;exact ⟨c1,c3⟩
     ·split <;> exact ⟨rfl,fun h =>h⟩
    exact ⟨a.trans hs.1,fun h =>b (hs.2 h)⟩
  obtain ⟨a,b⟩:=fold (adj n) (enterF n s) (fun y hy =>hN n hn y hy);have he:cnt N (enterF n s) = cnt N s:=by
   have:=a9G hn h0;unfold cnt;show s.next + 1 + _ = _;omega
  have ht:tot s = s.next→tot (enterF n s) = (enterF n s).next:=fun h =>by
   simp only [tot,enterF,zR0,zT0,zN1] at h ⊢;omega
  obtain ⟨t,htt⟩:∃ t,t = (adj n).foldl (stepF (visitF adj k) n) (enterF n s):=⟨_,rfl⟩;have hv:visitF adj (k + 1) n s = leaveF n t:=by rw [htt];rfl
  rw [← htt] at a b;have hl1:cnt N (leaveF n t) = cnt N t:=by
   unfold leaveF;split
   ·obtain ⟨_,q2,q3⟩:=b7Z n t;unfold cnt whites;rw [q2,q3]
   ·rfl
  have hl2:tot t = t.next→tot (leaveF n t) = (leaveF n t).next:=fun h =>by
   unfold leaveF;split
   ·obtain ⟨q1,q2,_⟩:=b7Z n t;rw [q1,q2,h]
   ·exact h
  rw [hv];exact ⟨hl1.trans (a.trans he),fun h =>hl2 (b (ht h))⟩
open Go.Shelf Go.Proofs.YthhgfncliffggaaGreatW.PrintMore
theorem b9Q (l:List Int) (A:Option Addr) (c:Nat) (w:World) (hC:kI.C w A l.length l) (hl:l.length≤1000000000) :
  Calls Tryz.prog 103 #[.slice A l.length c] w fun e w' =>∃ v',e = .returned v'∧w'.ownsRow w.heap.size 3 1 v' l.length (l.map (Value.int .i64))∧Below w.heap.size w w':=by
 cases A with
 | none =>
  have hy:l = []:=by
   rcases zP1 l.length with h0 | h0
   ·exact List.length_eq_zero_iff.1 h0
   ·obtain ⟨ad,e,_⟩:=Kd.a1Q hC 0 qD0 qD0;cases e
  subst hy;refine (Tryz.slices_Clone_int_nil 0 c w).mono ?_;rintro e w' ⟨rfl,rfl⟩;exact ⟨_,rfl,World.ownsRow_nil _ _ _ _,zJ0 _ _⟩
 | some ad =>
  rcases zP1 l.length with h0 | h0
  ·have hy:l = []:=List.length_eq_zero_iff.1 h0;subst hy;refine (Tryz.slices_Clone_int_zero ad c w).mono ?_;rintro e w' ⟨v',rfl,h1,_,hb⟩;exact ⟨v',rfl,h1,hb⟩
  ·have hall:∀ j,j < l.length→w.cell? (ad.add j) = some (.int .i64 (l.getD j 0)):=by
    intro j hj;obtain ⟨ad',e,hc⟩:=Kd.a1Q hC (j:Int) (zI0 j) (zS1.2 hj);cases e;rw [zM0] at hc;rw [hc];unfold rd;rw [zM0]
   have hsp:ad.spot = none:=World.cell?_spot (hall 0 h0);obtain ⟨b,off,sp⟩:=ad;simp only at hsp;subst hsp;refine (Tryz.slices_Clone_int b off l.length c l w (zG0 _) qD0 (fun j hj =>by rw [← a5J];exact hall j hj)).mono ?_;rintro e w' ⟨v',rfl,h1,_,hb⟩;rw [zH1] at h1;exact ⟨v',rfl,h1,hb⟩
theorem a7A (l:List Nat) (j:Nat) (h:j < l.length):(toI l).getD j 0 = (l[j]:Int):=by
 simp [toI,zF0,h]
theorem a1P (l:List Nat):(toI l).length = l.length:=zO1 _
theorem c2U (l:List Nat) (n:Nat) (h:n ∈ l):Go.Lib.idxOf (toI l) (n:Int) = (l.idxOf n:Nat):=by
 have hlt:=List.idxOf_lt_length_of_mem h
 have:=Go.Lib.idxOf_hit (toI l) (toI l).length (l.idxOf n) (n:Int) (by rw [a1P];exact hlt) (zG0 _) (by rw [a7A _ _ hlt,List.getElem_idxOf]) (fun j hj e =>by
  rw [a7A _ _ qD0] at e;have:=List.not_of_lt_findIdx (p:=(· == n)) (xs:=l) (i:=j) hj;have e':l[j]'qD0 = n:=by exact_mod_cast e
  simp [e'] at this)
 rwa [zH1] at this
theorem b9K (l:List Nat) (n:Nat) (hn:n ∈ l) (A:Option Addr) (c:Nat) (w:World) (hC:kI.C w A (toI l).length (toI l)) (hl:l.length≤1000000000) :
  Calls Tryz.prog 102 #[.slice A (toI l).length c,.int .i64 (n:Nat)] w fun e w' =>e = .returned (.int .i64 (l.idxOf n:Nat))∧w' = w:=by
 have h0:0 < (toI l).length:=by rw [a1P];exact List.length_pos_of_mem hn
 obtain ⟨ad,e,_⟩:=Kd.a1Q hC 0 qD0 qD0;subst e;have hall:∀ j,j < (toI l).length→w.cell? (ad.add j) = some (.int .i64 ((toI l).getD j 0)):=by
  intro j hj;obtain ⟨ad',e,hc⟩:=Kd.a1Q hC (j:Int) (zI0 j) (zS1.2 hj);cases e;rw [zM0] at hc;rw [hc];unfold rd;rw [zM0]
 have hsp:ad.spot = none:=World.cell?_spot (hall 0 h0);obtain ⟨b,off,sp⟩:=ad;simp only at hsp;subst hsp;refine (Tryz.slices_Index_int b off (toI l).length c (toI l) n w (zG0 _) qQ2 (fun j hj =>by rw [← a5J];exact hall j hj)).mono ?_;rintro e w' ⟨rfl,rfl⟩;rw [zH1,c2U l n hn];exact ⟨rfl,rfl⟩
theorem b2U (l:List Nat):srt (toI l) = toI (sortN l):=by
 unfold srt toI sortN;rw [List.map_mergeSort];intro a _ b _;simp
theorem a9S:(Tryz.prog.info? 3).map (fun i =>(i.zero,i.size,i.bytes)) = some (some (.int .i64 0),1,8):=by kernel_rfl
theorem infoL:(Tryz.prog.info? 43).map (fun i =>(i.zero,i.size,i.bytes)) = some (some (.slice none 0 0),1,24):=by kernel_rfl
structure FSN (N B F b1 b2 b4:Nat) (A:Option Addr) (c:Nat) (g:List (List Int)) (s:St) (vs vk:Value) (W:World):Prop where
 h:FS B F b1 b2 b4 A c g s vs vk W
 kn:Kd.N kL 43 W B (fun k =>(B≤k∧k≠F∧k≠b1∧k≠b2∧k≠b4∧some k≠vs.ownBlock)∧k < N) vk (s.knots.map toI)
 lt:F < N∧b1 < N∧b2 < N∧b4 < N
 sl:∀ k,vs.ownBlock = some k→k < N
 bn:B≤N
section
variable {N B F b1 b2 b4:Nat} {A:Option Addr} {c:Nat} {g:List (List Int)} {s:St} {vs vk:Value} {W W1:World}
theorem FS.lay (h:FS B F b1 b2 b4 A c g s vs vk W) (hb:Below W.heap.size W W1) (hB:B≤W.heap.size):FSN W.heap.size B F b1 b2 b4 A c g s vs vk W1 :=
 ⟨h.below hb,Kd.N_old h.kn hb,⟨a1K h.f,a1K h.x,a1K h.l,a1K h.o⟩,fun k hk =>by
  obtain ⟨cells,hc⟩:=a2N (Kd.a2Y h.st) k hk
  exact a1K hc,hB⟩
theorem FSN.setOn (h:FSN N B F b1 b2 b4 A c g s vs vk W) (n:Nat) (v:Bool):FSN N B F b1 b2 b4 A c g { s with on:=Tarj.upd s.on n v } vs vk (W.setCell ⟨b4,n,none⟩ (.bool v)) :=
 ⟨h.h.setOn n v,Kd.c4C (p:=⟨b4,n,none⟩) h.kn (fun k hk e =>hk.1.2.2.2.2.1 e) _,h.lt,h.sl,h.bn⟩
theorem FSN.cut {b3 cap m:Nat} (h:FSN N B F b1 b2 b4 A c g s (.slice (some ⟨b3,0,none⟩) (toI s.stack).length cap) vk W) (hm:m≤s.stack.length) :
  FSN N B F b1 b2 b4 A c g { s with stack:=s.stack.take m } (.slice (some ⟨b3,0,none⟩) m cap) vk (W.setCell ⟨F,3,none⟩ (.slice (some ⟨b3,0,none⟩) m cap)):=by
 have ho:=a9Z (Kd.a2Y h.h.st) (show m≤(toI s.stack).length by rw [a1P];exact hm);have hr:kI.R 3 W B (fun k =>k≠b1∧k≠b2) (.slice (some ⟨b3,0,none⟩) m cap) (toI (s.stack.take m)) :=
  Kd.a3M (by
   have hl:(toI (s.stack.take m)).length = m:=by rw [a1P,zG1];omega
   rw [hl];have he:encs (Value.int .i64) (toI (s.stack.take m)) = (encs (Value.int .i64) (toI s.stack)).take (m * 1):=by simp [encs,toI,List.map_take]
   rw [he];exact ho) (fun k hk =>h.h.st.1 k (by simpa [Value.ownBlock] using hk))
 obtain ⟨h1,_⟩:=h.h.setStack hr ⟨rfl,rfl,rfl,zG0 _,fun _ _ _ =>rfl⟩ (.inl rfl) (zJ0 _ _);exact ⟨h1,Kd.c4C (p:=⟨F,3,none⟩) (Kd.a3F h.kn (fun k hk =>⟨⟨hk.1.1,hk.1.2.1,hk.1.2.2.1,hk.1.2.2.2.1,hk.1.2.2.2.2.1,by simpa [Value.ownBlock] using hk.1.2.2.2.2.2⟩,hk.2⟩)) (fun k hk e =>hk.1.2.1 e) _,h.lt,fun k hk =>h.sl k (by simpa [Value.ownBlock] using hk),h.bn⟩
theorem FSN.step (h:FSN N B F b1 b2 b4 A c g s vs vk W) (hk:∀ k,k < N→W1.heap[k]? = W.heap[k]?):FSN N B F b1 b2 b4 A c g s vs vk W1 :=
 ⟨⟨(hk F h.lt.1).trans h.h.f,(hk b1 h.lt.2.1).trans h.h.x,(hk b2 h.lt.2.2.1).trans h.h.l,(hk b4 h.lt.2.2.2).trans h.h.o,
  Kd.a2S (Kd.a9P (Kd.a6J (ok:=fun k =>some k = vs.ownBlock) rfl h.h.st (fun k hk =>hk.symm)) (fun k ho _ =>hk k (h.sl k ho.symm))) (fun k hk =>h.h.st.1 k hk.symm),
  Kd.a3F (Kd.b1O h.kn (fun k ho _ =>hk k ho.2)) (fun _ hk =>hk.1),Kd.a5W h.h.gF (fun k hq _ =>hk k (zF1 hq h.bn)),h.h.b,h.h.ne⟩,
  Kd.b1O h.kn (fun k ho _ =>hk k ho.2),h.lt,h.sl,h.bn⟩
end
def offs (f:Nat→Bool) (l:List Nat) (j:Nat):Nat→Bool:=fun x =>if x ∈ l.take j then false else f x
theorem c1Y (f:Nat→Bool) (l:List Nat):offs f l 0 = f:=by funext x;simp [offs]
theorem offs_all (f:Nat→Bool) (l:List Nat):offs f l l.length = fun x =>if x ∈ l then false else f x:=by funext x;simp [offs]
theorem c1Z (f:Nat→Bool) (l:List Nat) (j:Nat) (h:j < l.length):offs f l (j + 1) = Tarj.upd (offs f l j) l[j] false:=by
 funext x
 simp only [offs,Tarj.upd,zV0 h,zU0,zC1];by_cases hx:x = l[j]
 ·simp [hx]
 ·simp [hx]
attribute [local go_sem] Oper.semAt_some
theorem pzK (n:Nat) (h:n≤1000):wrap64 ((n:Int) + 1) = ((n + 1:Nat):Int):=by simp only [wrap64];omega
structure KL (N B F b1 b2 b4:Nat) (A:Option Addr) (c:Nat) (g:List (List Int)) (s:St) (l:List Nat) (vs vk v5:Value) (W0:World) (j:Nat) (W:World):Prop where
 fs:FSN N B F b1 b2 b4 A c g { s with on:=offs s.on l j } vs vk W
 own:W.ownsRow N 3 1 v5 l.length ((toI l).map (Value.int .i64))
 be:Below B W0 W
 n:N≤W.heap.size
theorem own_FK {W:World} {N g5 c5 n:Nat} {xs:List Int} (h:W.ownsRow N 3 1 (.slice (some ⟨g5,0,none⟩) n c5) n (xs.map (Value.int .i64))) (hn:xs.length = n) (hc:n≤c5) :
  Kd.FK kL W (fun k =>k = g5) xs [.slice (some ⟨g5,0,none⟩) n c5]:=by
 subst hn;exact Kd.b7E hc (Kd.N_F (Kd.R_N (base:=N) (e:=3) (ok:=fun k =>k = g5) (Kd.a3M h (fun k hk =>by simp only [Value.ownBlock,Option.some.injEq] at hk;exact hk.symm))))
theorem okp_g5 {N B F b1 b2 b4:Nat} {A:Option Addr} {c:Nat} {g:List (List Int)} {s:St} {vs vk:Value} {W:World} {g5 c5 n:Nat} {xs:List Value} (h:FSN N B F b1 b2 b4 A c g s vs vk W) (ho:W.ownsRow N 3 1 (.slice (some ⟨g5,0,none⟩) n c5) n xs) :
  ∀ k,k = g5→(B≤k∧k≠F∧k≠b1∧k≠b2∧k≠b4∧some k≠vs.ownBlock)∧some k≠vk.ownBlock:=by
 rintro k rfl;have h0:N≤k:=a2G ho k rfl;obtain ⟨l1,l2,l3,l4⟩:=h.lt;have hb:=h.bn;refine ⟨⟨by omega,by omega,by omega,by omega,by omega,fun e =>?_⟩,fun e =>?_⟩
 ·have:=h.sl k e.symm;omega
 ·have:=(h.kn.1 k e.symm).2;omega
theorem b8D {N B F b1 b2 b4:Nat} {A:Option Addr} {c:Nat} {g:List (List Int)} {s:St} {vs vk:Value} {W:World} (h:FSN N B F b1 b2 b4 A c g s vs vk W) :
  ∀ k,W.heap.size≤k→B≤k∧k≠F∧k≠b1∧k≠b2∧k≠b4∧some k≠vs.ownBlock:=by
 intro k hk;have hF:=a1K h.h.f;have h1:=a1K h.h.x;have h2:=a1K h.h.l;have h4:=a1K h.h.o;have hb:=h.h.b;refine ⟨by omega,by omega,by omega,by omega,by omega,fun e =>?_⟩;obtain ⟨cells,hc⟩:=a2N (Kd.a2Y h.h.st) k e.symm;have:=a1K hc;omega
set_option maxRecDepth 100000 in
set_option maxHeartbeats 8000000 in
theorem knot_any (g:List (List Int)) (A:Option Addr) (c B F b1 b2 b4:Nat) (s:St) (n:Nat) (vs vk:Value) (W:World)
  (hfs:FS B F b1 b2 b4 A c g s vs vk W) (hn:n ∈ s.stack) (hlt:∀ x,x ∈ s.stack→x < g.length) (hs:s.stack.length≤1000) (hk:s.knots.length≤1000) (hB:B≤W.heap.size) :
  Calls Tryz.prog 75 #[.pointer (some ⟨F,0,none⟩),.int .i64 (n:Nat)] W fun e W' =>e = .returned (.tuple #[])∧(∃ vs' vk',FS B F b1 b2 b4 A c g (knotF n s) vs' vk' W')∧Below B W W':=by
 have hpos:0 < (toI s.stack).length:=by rw [a1P];exact List.length_pos_of_mem hn
 obtain ⟨b3,cap,rfl,hcap⟩:∃ b3 cap,vs = .slice (some ⟨b3,0,none⟩) (toI s.stack).length cap∧(toI s.stack).length≤cap:=by
  rcases (Kd.a2Y hfs.st).2 with ⟨_,h0⟩ | ⟨g',cap',cur,hv,_,_,hnc,_⟩
  ·omega
  ·exact ⟨g',cap',hv,hnc⟩
 obtain ⟨a,ha⟩:∃ a,a = s.stack.idxOf n:=⟨_,rfl⟩;have halt:a < s.stack.length:=ha ▸ List.idxOf_lt_length_of_mem hn;obtain ⟨l,hl⟩:∃ l,l = s.stack.drop a:=⟨_,rfl⟩;have hll:l.length = s.stack.length - a:=by rw [hl,zZ1]
 have hCs:kI.C W (some ⟨b3,0,none⟩) (toI s.stack).length (toI s.stack):=by
  obtain ⟨A',c',e,_,h⟩:=Kd.a3T hfs.st;injection e with e1 _ _
  rw [e1];exact h
 obtain ⟨i3,hi3,hi3s⟩:=zE1.1 a9S;obtain ⟨A1,hcut,hcr,hcl⟩:=b3D (P:=Tryz.prog) (k:=.i64) 43 3 Tryz.underlying43 hi3 qT2 (some ⟨b3,0,none⟩) cap (toI s.stack) (a:Int) (zI0 a) qQ2 hcap;obtain ⟨htk,_,_⟩:=a7S (P:=Tryz.prog) (k:=.i64) 43 3 Tryz.underlying43 hi3 qT2 (some ⟨b3,0,none⟩) cap (toI s.stack) (a:Int) (zI0 a) qQ2 hcap;have hdr:(toI s.stack).drop ((a:Int)).toNat = toI l:=by rw [zM0,hl];simp [toI,List.map_drop]
 have htl:((toI s.stack).take ((a:Int)).toNat).length = a:=by rw [zM0,zG1,a1P];omega
 rw [hdr] at hcut hcr hcl;rw [htl] at htk;rw [zM0] at hcut hcl;have hCl:kI.C W A1 (toI l).length (toI l):=Kd.a6K (d:=(0:Int)) (hcr W (Kd.a6D (d:=(0:Int)) hCs));have hidx:=b9K s.stack n hn (some ⟨b3,0,none⟩) cap W hCs qD0;rw [← ha] at hidx;have hclone:=b9Q (toI l) A1 (cap - a) W hCl qQ2;have HIDX:=zA0 hidx;have HCLONE:=zA0 hclone;have FS0:=zA0 hfs;have HCS:=zA0 hCs;have HHA:=zA0 ha;have HHL:=zA0 hl;have HLT:=zA0 (show ∀ x,x ∈ l→x < g.length from fun x hx =>hlt x (List.mem_of_mem_drop (hl ▸ hx)));have HB:=zA0 hB;have HHK:=zA0 hk;have HAL:=zA0 halt;have hlp:0 < (toI l).length:=by rw [a1P];omega
 have hl1:l.length≤1000:=by omega
 obtain ⟨n3,hn3⟩:∃ m,m = (toI s.stack).length:=⟨_,rfl⟩;have ck:=hfs.cf;rw [← hn3] at hcut htk ck HIDX hcap;rw [a1P] at hcut hlp HCLONE hcl;clear hidx hclone hfs hCs hCl hcr hlt hB hk hn ha hl hi3 hi3s hdr htl hpos halt hll;have HN3:=zA0 hn3;clear hn3;go_enter Tryz.func75,Tryz.ntmps75
 go_upto_region 1 with (first
  | (go_at_call 102;with_reducible refine HIDX.out.mono ?_;rintro x w1 ⟨rfl,hw1⟩;obtain rfl:W = w1:=hw1.symm))
 go_upto_region 2 with (first
  | (go_at_call 103;with_reducible refine HCLONE.out.mono ?_;rintro x w2 ⟨v5,rfl,hown,hb5⟩;have HOWN:=zA0 hown;have HB5:=zA0 hb5;have FS1:=zA0 (FS0.out.lay hb5 HB.out);clear hown hb5 ck))
 have ck:=FS1.out.h.cf;rw [← HN3.out] at ck;go_upto_region 3 with (fail)
 have fs2:FSN W.heap.size B F b1 b2 b4 A c g { s with stack:=s.stack.take a } (.slice (some ⟨b3,0,none⟩) a cap) vk (w2.setCell ⟨F,3,none⟩ (.slice (some ⟨b3,0,none⟩) a cap)):=FS1.out.cut (zY1 HAL.out)
 have ho2:(w2.setCell ⟨F,3,none⟩ (.slice (some ⟨b3,0,none⟩) a cap)).ownsRow W.heap.size 3 1 v5 l.length ((toI l).map (Value.int .i64)):=a4U HOWN.out (fun k hk =>Below.heap_setCell _ _ _ _ (fun e =>by
  have h1:W.heap.size≤k:=a2G HOWN.out k hk;have h2:=FS1.out.lt.1;have h3:k = F:=e
  omega))
 have hb2:Below B W (w2.setCell ⟨F,3,none⟩ (.slice (some ⟨b3,0,none⟩) a cap)):=(HB5.out.mono HB.out).setCell (p:=⟨F,3,none⟩) FS1.out.h.b.1 _;have hn2:W.heap.size≤(w2.setCell ⟨F,3,none⟩ (.slice (some ⟨b3,0,none⟩) a cap)).heap.size:=hb2.size;clear ck HOWN;generalize w2.setCell ⟨F,3,none⟩ (.slice (some ⟨b3,0,none⟩) a cap) = W3 at fs2 ho2 hb2 hn2 ⊢;obtain ⟨g5,c5,rfl,hc5⟩:∃ g5 c5,v5 = .slice (some ⟨g5,0,none⟩) l.length c5∧l.length≤c5:=by
  rcases ho2.2 with ⟨_,h0⟩ | ⟨g',cap',cur,hv,_,_,hnc,_⟩
  ·omega
  ·exact ⟨g',cap',hv,hnc⟩
 have HV0:=zA0 (show KL W.heap.size B F b1 b2 b4 A c g { s with stack:=s.stack.take a } l (.slice (some ⟨b3,0,none⟩) a cap) vk (.slice (some ⟨g5,0,none⟩) l.length c5) W 0 W3 from ⟨by rw [c1Y];exact fs2,ho2,hb2,hn2⟩);clear fs2 ho2 hb2 hn2 FS1 HCLONE HIDX HCS hcut htk;go_wp2;go_loopg [32,7] l.length (fun kq v32 v7 w' =>∃ (j:Nat),j + kq = l.length∧v32 = .int .i64 (j:Nat)∧Hid (KL W.heap.size B F b1 b2 b4 A c g { s with stack:=s.stack.take a } l (.slice (some ⟨b3,0,none⟩) a cap) vk (.slice (some ⟨g5,0,none⟩) l.length c5) W j w'))
 case atStart =>exact ⟨0,by omega,rfl,HV0⟩
 case round =>
  obtain ⟨j,hj,rfl,HV⟩:=hrel;have ck:=HV.out.fs.h.cf;by_cases hlt:j < l.length
  ·obtain ⟨mm,emm,hmn⟩:∃ mm:Nat,mm = l[j]∧mm < g.length:=⟨_,rfl,HLT.out _ (zD1 hlt)⟩;have hm:wr.cell? ⟨g5,j,none⟩ = some (.int .i64 (mm:Nat)):=by
    obtain ⟨A',c',e,hC⟩:=b5A (enc:=Value.int .i64) (d:=(0:Int)) HV.out.own;injection e with e1 _ _
    subst e1;obtain ⟨ad,e2,h2⟩:=Kd.a1Q (Kd.a6K (d:=(0:Int)) hC) (j:Int) (zI0 j) (zS1.2 hlt);cases e2;rw [zM0,a5J,zG2] at h2;rw [h2];unfold rd;rw [zM0,a7A _ _ hlt,emm]
   have cm:=HV.out.fs.h.cn hmn;have hmm0:(0:Int)≤(mm:Int):=zI0 mm;have hw:=pzK j qD0;have HMM:=zA0 emm;obtain ⟨k1,rfl⟩:∃ k1,gk = k1 + 1:=⟨gk - 1,by omega⟩;clear emm;go_wp2;have hv1:KL W.heap.size B F b1 b2 b4 A c g { s with stack:=s.stack.take a } l (.slice (some ⟨b3,0,none⟩) a cap) vk (.slice (some ⟨g5,0,none⟩) l.length c5) W (j + 1) (wr.setCell ⟨b4,mm,none⟩ (.bool false)):=by
    refine ⟨?_,a4U HV.out.own (fun k hk =>Below.heap_setCell _ _ _ _ (fun e =>by
      have h1:W.heap.size≤k:=a2G HV.out.own k hk;have h2:=HV.out.fs.lt.2.2.2;have h3:k = b4:=e
      omega)),HV.out.be.setCell (p:=⟨b4,mm,none⟩) HV.out.fs.h.b.2.2.2 _,(HV.out.be.setCell (p:=⟨b4,mm,none⟩) HV.out.fs.h.b.2.2.2 _).size⟩
    rw [c1Z _ _ _ hlt,← HMM.out];exact HV.out.fs.setOn mm false
   have HV1:=zA0 hv1;clear hv1 ck cm hm;go_roundg k1
   case measure =>exact zS0 _
   case rel =>exact ⟨j + 1,by rw [zZ0,zM1 1];exact hj,by first | rw [hw] | simp [hw],HV1⟩
  ·have hje:j = l.length:=by omega
   subst hje;obtain ⟨s3,hs3⟩:∃ s3:St,s3 = { s with stack:=s.stack.take a,on:=offs s.on l l.length }:=⟨_,rfl⟩;have fs3:FSN W.heap.size B F b1 b2 b4 A c g s3 (.slice (some ⟨b3,0,none⟩) a cap) vk wr:=by rw [hs3];exact HV.out.fs
   have FS3:=zA0 fs3;have HS3:=zA0 hs3;have hsort:=b2X (toI l) (.slice (some ⟨g5,0,none⟩) l.length c5) W.heap.size wr (by rw [a1P];exact HV.out.own) qQ2;rw [b2U,a1P] at hsort;have HSORT:=zA0 hsort;have hkn:(s3.knots.map toI).length≤1000:=by rw [hs3,zO1];exact HHK.out
   have HKN:=zA0 hkn;clear hkn hsort fs3 hs3 ck
   go_wp2_with (first
    | (go_at_call 47;(with_reducible refine HSORT.out.mono ?_;rintro x w5 ⟨rfl,hown,hg5⟩;have fs4:FSN W.heap.size B F b1 b2 b4 A c g s3 (.slice (some ⟨b3,0,none⟩) a cap) vk w5:=(FS3.out.step (fun k hk =>hg5.block k (zF1 hk HV.out.n) (fun e =>absurd (a2G hown k (show Value.ownBlock _ = some k from e.symm)) (zI1.2 hk))));have HOWN:=zA0 hown;have FS4:=zA0 fs4;have BE4:=zA0 (HV.out.be.grown hg5 (zH0 HB.out HV.out.n) (fun k hk =>zH0 HB.out (a2G hown k hk)));have ck:=fs4.h.cf;have HB5W:=zA0 (zH0 HB.out BE4.out.size);have HLK:=zA0 (show ((s3.knots.map toI).length + 1) * 24≤140737488355328 by have:=HKN.out;omega);have HOKP:=zA0 (okp_g5 fs4 hown);have HFRESH:=zA0 (b8D fs4);have HFK:=zA0 (own_FK hown (by rw [a1P];exact (a8G l)) hc5);clear fs4 hown hg5))
    | ((with_reducible refine a1H (b:=.append) (xs:=#[.tmp 49,.tmp 51]) rfl ?_);at_builtin;(refine Kd.b0G kL B rfl (.tmp 49) (.tmp 51) 39 43 (.slice none 0 0) 24 rfl Tryz.underlying39 infoL rfl qF0 qD0 vk (s3.knots.map toI) (toI (sortN l)) [.slice (some ⟨g5,0,none⟩) l.length c5] (fun k =>B≤k∧k≠F∧k≠b1∧k≠b2∧k≠b4∧some k≠(Value.slice (some ⟨b3,0,none⟩) a cap).ownBlock) (fun k =>k = g5) rfl rfl HFK.out HOKP.out HFRESH.out FS4.out.h.kn (zJ0 B w5) HB5W.out HLK.out ?_;intro v52 w40 hn52 hb hg hat;obtain ⟨A9,c9,e9⟩:=Kd.a4D hn52;obtain ⟨nn,hnn⟩:∃ nn,nn = (s3.knots.map toI ++ [toI (sortN l)]).length:=⟨_,rfl⟩;rw [← hnn] at e9;subst e9;clear hnn;have HN52:=zA0 hn52;have HG:=zA0 hg;have eD:=zA0 hb;have hf40:=a1O FS4.out.h.f hg (Kd.N_ne FS4.out.h.kn FS4.out.h.f qF0);have hfz:=a0Q hf40 6;have hfc:=a0O hf40 6;clear hn52 hb hg hat hf40 ck)))
   have hn52:=HN52.out;rw [show s3.knots.map toI ++ [toI (sortN l)] = (s3.knots ++ [sortN l]).map toI by simp] at hn52;obtain ⟨fs9,be9⟩:=FS4.out.h.setKnots hn52 HG.out eD.out;refine bodyPost_end (results_none rfl _ _ _) rfl ?_;refine ⟨rfl,⟨.slice (some ⟨b3,0,none⟩) a cap,.slice A9 nn c9,?_⟩,BE4.out.trans be9⟩;have e:knotF n s = { s3 with knots:=s3.knots ++ [sortN l] }:=by
    rw [HS3.out];unfold knotF;rw [offs_all,HHL.out,HHA.out]
   rw [e];exact fs9
attribute [local go_sem] Oper.semAt_some a3W a3V a4R a4Q
theorem imin' {a b m:Nat} (h:m = min a b):(if b < a then (b:Int) else (a:Int)) = (m:Int):=by
 split <;> omega
theorem pzS (n:Nat) (h:n≤1000):wrap64 ((n:Int) + 1) = ((n + 1:Nat):Int):=by simp only [wrap64];omega
theorem b7J {adj:Nat→List Nat} {N:Nat} {s:St} {G:List Nat} (h:tot s = s.next) (hc:cnt N s≤N):s.stack.length≤N:=by
 unfold tot at h;unfold cnt at hc;omega
theorem c3C:∀ (L:List (List Nat)),(∀ l,l ∈ L→l≠[])→L.length≤L.flatten.length
 | [],_ =>zG0 _
 | a :: r,h =>by
  have h1:=c3C r (fun l hl =>h l (zQ0 _ hl));have h2:=List.length_pos_iff.2 (h a zP0);simp only [List.flatten_cons,zR0,zT0];omega
theorem b7Y {adj:Nat→List Nat} {N:Nat} {s:St} {G:List Nat} (hi:Inv adj N s G) (h:tot s = s.next) (hc:cnt N s≤N):s.knots.length≤N:=by
 have:=c3C s.knots (fun l hl =>(hi.kcl l hl).1);unfold tot at h;unfold cnt at hc;omega
theorem rowA {W:World} {ok:Nat→Prop} {A:Option Addr} {n:Nat} {g:List (List Int)} (h:Kd.F kL W ok A n g) (i:Nat) (hi:i < n) :
  ∃ ad A0 c0,A = some ad∧W.cell? (ad.add i) = some (.slice A0 (g.getD i []).length c0)∧(g.getD i []).length≤c0∧Kd.F kI W ok A0 (g.getD i []).length (g.getD i []):=by
 obtain ⟨ad',c,e,hcl,hK,hcc,_⟩:=Kd.F_get h [] (i:Int) qD0 qD0;rw [zM0] at hK hcc;obtain ⟨A0,c0,rfl,hle,_⟩:=Kd.a5Z hK;refine ⟨ad',A0,c0,e,by have hq:=hcc 0 _ rfl;simpa [Kd.slice] using hq,hle,fun W' hW =>?_⟩;obtain ⟨A1,c1,e1,_,hC⟩:=hK W' hW;injection e1 with e2 _
 injection e2 with e3 _ _
 rw [e3];exact hC
structure VL (B F b1 b2 b4:Nat) (A:Option Addr) (c:Nat) (g:List (List Int)) (k:Nat) (n:Nat) (s:St) (G:List Nat) (W0:World) (j:Nat) (t:St) (e:List Nat) (vs vk:Value) (W:World):Prop where
 is:t = ((adjF g n).take j).foldl (stepF (visitF (adjF g) k) n) (enterF n s)
 li:LInv (adjF g) g.length n s t G ((adjF g n).take j) e
 fs:FS B F b1 b2 b4 A c g t vs vk W
 be:Below B W0 W
 ct:cnt g.length t≤g.length
 tt:tot t = t.next
 bz:B≤W.heap.size
section
variable {B F b1 b2 b4:Nat} {A:Option Addr} {c:Nat} {g:List (List Int)} {k n:Nat} {s:St} {G:List Nat} {W0 W:World} {j:Nat} {t:St} {e:List Nat} {vs vk:Value}
theorem VL.pre (h:VL B F b1 b2 b4 A c g k n s G W0 j t e vs vk W) (hs:Inv (adjF g) g.length s G) (hn:n < g.length) (hw:whites g.length s≤k + 1) {m:Nat} (hm:m ∈ adjF g n):(∀ z,z ∈ n :: G→Tarj.Rch (adjF g) z m)∧whites g.length t≤k:=by
 refine ⟨fun z hz =>?_,?_⟩
 ·rcases zO0.1 hz with rfl | hz
  ·exact .one hm
  ·refine Tarj.Rch.trans (h.li.inv.frG z (zQ0 _ hz) n (by rw [h.li.ext];simp) ?_) (.one hm);rw [h.li.idn,(h.li.keep z (hs.svis z (h.li.gs z hz))).1];exact Nat.le_succ_of_le (hs.ile z)
 ·have:=b4K (t:=t) hn (fun x hx =>by rw [(h.li.keep x hx).1];exact hx) h.li.nw (by rw [h.li.idn];exact Nat.succ_ne_zero _);omega
theorem VL.next (h:VL B F b1 b2 b4 A c g k n s G W0 j t e vs vk W) (hgo:GOk g) (hs:Inv (adjF g) g.length s G) (hn:n < g.length) (hw:whites g.length s≤k + 1) {m:Nat} (hm:(adjF g n)[j]? = some m) {W1:World} {vs1 vk1:Value}
  (hfs:FS B F b1 b2 b4 A c g (stepF (visitF (adjF g) k) n t m) vs1 vk1 W1) (hb:Below B W W1):∃ e1,VL B F b1 b2 b4 A c g k n s G W0 (j + 1) (stepF (visitF (adjF g) k) n t m) e1 vs1 vk1 W1:=by
 obtain ⟨hj,hje⟩:=List.getElem?_eq_some_iff.1 hm;have hmem:m ∈ adjF g n:=hje ▸ zD1 hj;have htk:(adjF g n).take (j + 1) = (adjF g n).take j ++ [m]:=by rw [zV0 hj,hje]
 obtain ⟨p1,p2⟩:=h.pre hs hn hw hmem;obtain ⟨e1,he1⟩:=c0L (vis:=visitF (adjF g) k) h.li hmem (fun h0 =>b2S hgo.adj k t (n :: G) m h.li.inv h0 (hgo.adj n hn m hmem) p1 p2);have hct:cnt g.length (stepF (visitF (adjF g) k) n t m) = cnt g.length t∧(tot t = t.next→tot (stepF (visitF (adjF g) k) n t m) = (stepF (visitF (adjF g) k) n t m).next):=by
  unfold stepF
  split
  ·next h0 =>exact b0M hgo.adj k m t (hgo.adj n hn m hmem) h0
  ·split <;> exact ⟨rfl,fun h =>h⟩
 exact ⟨e1,by rw [htk,List.foldl_append,← h.is];rfl,by rw [htk];exact he1,hfs,h.be.trans hb,by rw [hct.1];exact h.ct,hct.2 h.tt,zH0 h.bz hb.size⟩
end
set_option maxRecDepth 100000 in
set_option maxHeartbeats 16000000 in
theorem c0E (g:List (List Int)) (hgo:GOk g) (A:Option Addr) (c B F b1 b2 b4:Nat):∀ (k:Nat) (s:St) (G:List Nat) (n:Nat) (vs vk:Value) (W:World),
  FS B F b1 b2 b4 A c g s vs vk W→Inv (adjF g) g.length s G→cnt g.length s≤g.length→tot s = s.next→s.index n = 0→n < g.length→(∀ z,z ∈ G→Tarj.Rch (adjF g) z n)→whites g.length s≤k→B≤W.heap.size →
  Calls Tryz.prog 49 #[.pointer (some ⟨F,0,none⟩),.int .i64 (n:Nat)] W fun e W' =>e = .returned (.tuple #[])∧(∃ vs' vk',FS B F b1 b2 b4 A c g (visitF (adjF g) k n s) vs' vk' W')∧Below B W W':=by
 intro k
 induction k with
 | zero =>
  intro s G n vs vk W hfs hinv hc ht h0 hn hG hw hB;exfalso;have:whites g.length s = 0:=Nat.le_zero.1 hw;unfold whites at this;rw [List.countP_eq_zero] at this;exact this n (zW0.2 hn) (by simpa using h0)
 | succ k ih =>
  intro s G n vs vk W hfs hinv hc ht h0 hn hG hw hB;have hn0:(0:Int)≤(n:Int):=zI0 n;have hsn:s.next≤1000:=by have:=hgo.len;unfold cnt at hc;omega
  have hnx:wrap64 ((s.next:Int) + 1) = ((s.next + 1:Nat):Int):=by simp only [wrap64];omega
  have LST:=zA0 (show ((toI s.stack).length + 1) * 8≤140737488355328 by have:=b7J (adj:=adjF g) (G:=G) ht hc;have:=hgo.len;simp only [toI,zO1];omega);have IH:=zA0 ih;have GO:=zA0 hgo;have FS0:=zA0 hfs;have INV:=zA0 hinv;have HC:=zA0 hc;have HT:=zA0 ht;have H0:=zA0 h0;have HGR:=zA0 hG;have HW:=zA0 hw;have HBW:=zA0 hB;have ck:=hfs.cf;clear ih hgo hfs hinv hc ht h0 hG hw hB;go_enter Tryz.func49,Tryz.ntmps49
  go_upto_region 1 with (fail)
  have h1:FS B F b1 b2 b4 A c g { s with next:=s.next + 1 } vs vk (W.setCell ⟨F,5,none⟩ (.int .i64 ((s.next:Int) + 1))):=FS0.out.setNext (s.next + 1);have hb1:=(FS0.out.far F 5 (.inl rfl) (.int .i64 ((s.next:Int) + 1))).2.2.2;clear ck;generalize W.setCell ⟨F,5,none⟩ (.int .i64 ((s.next:Int) + 1)) = W1 at h1 hb1 ⊢;have HB1:=zA0 hb1;clear hb1;refine (wpIn_wide (n:=5)).1 ?_;refine wpIn_region_any mixedO ?_;refine a6Y _ (fun ix_ =>match ix_ with | 0 =>.pointer (some ⟨F,0,none⟩) | 1 =>.pointer (some ⟨F,0,none⟩) | 2 =>.pointer (some ⟨F,1,none⟩) | 3 =>.slice (some ⟨b1,0,none⟩) g.length g.length | 4 =>.int .i64 (n:Nat) | 5 =>.pointer (some ⟨F,0,none⟩) | 6 =>.pointer (some ⟨F,0,none⟩) | 7 =>.pointer (some ⟨F,2,none⟩) | 8 =>.slice (some ⟨b2,0,none⟩) g.length g.length | 9 =>.int .i64 (n:Nat) | 10 =>.pointer (some ⟨F,0,none⟩) | 11 =>.pointer (some ⟨F,0,none⟩) | 12 =>.pointer (some ⟨F,5,none⟩) | 13 =>.int .i64 ((s.next + 1:Nat):Int) | 14 =>.pointer (some ⟨F,0,none⟩) | 15 =>.pointer (some ⟨F,0,none⟩) | 16 =>.pointer (some ⟨F,5,none⟩) | 17 =>.int .i64 ((s.next + 1:Nat):Int) | 18 =>.pointer (some ⟨b1,n,none⟩) | 19 =>undef | 20 =>.pointer (some ⟨b2,n,none⟩) | 21 =>undef | _ =>undef) (fun done Z =>FS B F b1 b2 b4 A c g ({ s with next:=s.next + 1,index:=if done 19 = true then Tarj.upd s.index n (s.next + 1) else s.index,low:=if done 21 = true then Tarj.upd s.low n (s.next + 1) else s.low }) vs vk Z∧Below B W1 Z) rfl qH0 _ ?hzr1 ?str1 ?enr1
  case hzr1 =>exact ⟨h1.below (a1X (zJ0 _ _)),a1X (zJ0 _ _)⟩
  case str1 =>
   intro m op done a Z ho hdn hdep hag hS K2 hK2;have hm:m < 22:=by
    by_cases h:m < 22
    ·exact h
    ·rw [Array.getElem?_eq_none qA1] at ho;cases ho
   obtain ⟨⟨zf0,zf1,zf2,zf3,zf4,zf5,zf6⟩,zr3,zr5,zr6⟩:=hS.1.cf;obtain ⟨⟨zn1,zn2,zn4⟩,zg1,zg2,zg4⟩:=hS.1.cn hn;obtain rfl | rfl | rfl | rfl | rfl | rfl | rfl | rfl | rfl | rfl | rfl | rfl | rfl | rfl | rfl | rfl | rfl | rfl | rfl | rfl | rfl | rfl:m = 0∨m = 1∨m = 2∨m = 3∨m = 4∨m = 5∨m = 6∨m = 7∨m = 8∨m = 9∨m = 10∨m = 11∨m = 12∨m = 13∨m = 14∨m = 15∨m = 16∨m = 17∨m = 18∨m = 19∨m = 20∨m = 21:=by omega
   ·cases ho;have e0:a.eval (.tmp 0) = .pointer (some ⟨F,0,none⟩):=hag.keep 0 rfl;refine a0F (i:=0) rfl rfl (fun c h =>by cases h) rfl ?_ (hK2 Z hS);have ec:∀ v,a.eval (.const v) = v:=fun _ =>rfl
    generalize a.eval = ev at *;simp [execOp,go_sem,ec,e0]
   ·cases ho;have e13:=hag.val_ (j:=0) (t:=13) rfl (hdep ⟨0,.data⟩ qG0 rfl);refine a0F (i:=1) rfl rfl (fun c h =>by cases h) rfl ?_ (hK2 Z hS);have ec:∀ v,a.eval (.const v) = v:=fun _ =>rfl
    generalize a.eval = ev at *;simp [execOp,go_sem,ec,e13]
   ·cases ho;have e14:=hag.val_ (j:=1) (t:=14) rfl (hdep ⟨1,.data⟩ qG0 rfl);refine a0F (i:=2) rfl rfl (fun c h =>by cases h) rfl ?_ (hK2 Z hS);have ec:∀ v,a.eval (.const v) = v:=fun _ =>rfl
    generalize a.eval = ev at *;simp [execOp,go_sem,ec,e14]
   ·cases ho;have e15:=hag.val_ (j:=2) (t:=15) rfl (hdep ⟨2,.data⟩ qG0 rfl);refine a0F (i:=3) rfl rfl (fun c h =>by cases h) rfl ?_ (hK2 Z hS);have ec:∀ v,a.eval (.const v) = v:=fun _ =>rfl
    generalize a.eval = ev at *;simp [execOp,go_sem,ec,e15,zf1]
   ·cases ho;have e1:a.eval (.tmp 1) = .int .i64 (n:Nat):=hag.keep 1 rfl;refine a0F (i:=4) rfl rfl (fun c h =>by cases h) rfl ?_ (hK2 Z hS);have ec:∀ v,a.eval (.const v) = v:=fun _ =>rfl
    generalize a.eval = ev at *;simp [execOp,go_sem,ec,e1]
   ·cases ho;have e0:a.eval (.tmp 0) = .pointer (some ⟨F,0,none⟩):=hag.keep 0 rfl;refine a0F (i:=5) rfl rfl (fun c h =>by cases h) rfl ?_ (hK2 Z hS);have ec:∀ v,a.eval (.const v) = v:=fun _ =>rfl
    generalize a.eval = ev at *;simp [execOp,go_sem,ec,e0]
   ·cases ho;have e18:=hag.val_ (j:=5) (t:=18) rfl (hdep ⟨5,.data⟩ qG0 rfl);refine a0F (i:=6) rfl rfl (fun c h =>by cases h) rfl ?_ (hK2 Z hS);have ec:∀ v,a.eval (.const v) = v:=fun _ =>rfl
    generalize a.eval = ev at *;simp [execOp,go_sem,ec,e18]
   ·cases ho;have e19:=hag.val_ (j:=6) (t:=19) rfl (hdep ⟨6,.data⟩ qG0 rfl);refine a0F (i:=7) rfl rfl (fun c h =>by cases h) rfl ?_ (hK2 Z hS);have ec:∀ v,a.eval (.const v) = v:=fun _ =>rfl
    generalize a.eval = ev at *;simp [execOp,go_sem,ec,e19]
   ·cases ho;have e20:=hag.val_ (j:=7) (t:=20) rfl (hdep ⟨7,.data⟩ qG0 rfl);refine a0F (i:=8) rfl rfl (fun c h =>by cases h) rfl ?_ (hK2 Z hS);have ec:∀ v,a.eval (.const v) = v:=fun _ =>rfl
    generalize a.eval = ev at *;simp [execOp,go_sem,ec,e20,zf2]
   ·cases ho;have e1:a.eval (.tmp 1) = .int .i64 (n:Nat):=hag.keep 1 rfl;refine a0F (i:=9) rfl rfl (fun c h =>by cases h) rfl ?_ (hK2 Z hS);have ec:∀ v,a.eval (.const v) = v:=fun _ =>rfl
    generalize a.eval = ev at *;simp [execOp,go_sem,ec,e1]
   ·cases ho;have e0:a.eval (.tmp 0) = .pointer (some ⟨F,0,none⟩):=hag.keep 0 rfl;refine a0F (i:=10) rfl rfl (fun c h =>by cases h) rfl ?_ (hK2 Z hS);have ec:∀ v,a.eval (.const v) = v:=fun _ =>rfl
    generalize a.eval = ev at *;simp [execOp,go_sem,ec,e0]
   ·cases ho;have e23:=hag.val_ (j:=10) (t:=23) rfl (hdep ⟨10,.data⟩ qG0 rfl);refine a0F (i:=11) rfl rfl (fun c h =>by cases h) rfl ?_ (hK2 Z hS);have ec:∀ v,a.eval (.const v) = v:=fun _ =>rfl
    generalize a.eval = ev at *;simp [execOp,go_sem,ec,e23]
   ·cases ho;have e24:=hag.val_ (j:=11) (t:=24) rfl (hdep ⟨11,.data⟩ qG0 rfl);refine a0F (i:=12) rfl rfl (fun c h =>by cases h) rfl ?_ (hK2 Z hS);have ec:∀ v,a.eval (.const v) = v:=fun _ =>rfl
    generalize a.eval = ev at *;simp [execOp,go_sem,ec,e24]
   ·cases ho;have e25:=hag.val_ (j:=12) (t:=25) rfl (hdep ⟨12,.data⟩ qG0 rfl);refine a0F (i:=13) rfl rfl (fun c h =>by cases h) rfl ?_ (hK2 Z hS);have ec:∀ v,a.eval (.const v) = v:=fun _ =>rfl
    generalize a.eval = ev at *;simp [execOp,go_sem,ec,e25,zf5]
   ·cases ho;have e0:a.eval (.tmp 0) = .pointer (some ⟨F,0,none⟩):=hag.keep 0 rfl;refine a0F (i:=14) rfl rfl (fun c h =>by cases h) rfl ?_ (hK2 Z hS);have ec:∀ v,a.eval (.const v) = v:=fun _ =>rfl
    generalize a.eval = ev at *;simp [execOp,go_sem,ec,e0]
   ·cases ho;have e27:=hag.val_ (j:=14) (t:=27) rfl (hdep ⟨14,.data⟩ qG0 rfl);refine a0F (i:=15) rfl rfl (fun c h =>by cases h) rfl ?_ (hK2 Z hS);have ec:∀ v,a.eval (.const v) = v:=fun _ =>rfl
    generalize a.eval = ev at *;simp [execOp,go_sem,ec,e27]
   ·cases ho;have e28:=hag.val_ (j:=15) (t:=28) rfl (hdep ⟨15,.data⟩ qG0 rfl);refine a0F (i:=16) rfl rfl (fun c h =>by cases h) rfl ?_ (hK2 Z hS);have ec:∀ v,a.eval (.const v) = v:=fun _ =>rfl
    generalize a.eval = ev at *;simp [execOp,go_sem,ec,e28]
   ·cases ho;have e29:=hag.val_ (j:=16) (t:=29) rfl (hdep ⟨16,.data⟩ qG0 rfl);refine a0F (i:=17) rfl rfl (fun c h =>by cases h) rfl ?_ (hK2 Z hS);have ec:∀ v,a.eval (.const v) = v:=fun _ =>rfl
    generalize a.eval = ev at *;simp [execOp,go_sem,ec,e29,zf5]
   ·cases ho;have e16:=hag.val_ (j:=3) (t:=16) rfl (hdep ⟨3,.data⟩ qG0 rfl);have e17:=hag.val_ (j:=4) (t:=17) rfl (hdep ⟨4,.data⟩ qG0 rfl);refine a0F (i:=18) rfl rfl (fun c h =>by cases h) ?_ ?_ (hK2 Z hS)
    ·generalize a.eval = ev at *;simp [Oper.about,resolve,Target.leads,Sem.run_pure,go_sem,e16,e17,hn,hn0]
    ·have ec:∀ v,a.eval (.const v) = v:=fun _ =>rfl
     generalize a.eval = ev at *;simp [execOp,go_sem,ec,e16,e17,hn,hn0]
   ·cases ho;have e31:=hag.val_ (j:=18) (t:=31) rfl (hdep ⟨18,.data⟩ qG0 rfl);have e26:=hag.val_ (j:=13) (t:=26) rfl (hdep ⟨13,.data⟩ qG0 rfl);refine a3C (i:=19) rfl rfl (fun c h =>by cases h) rfl (w':=Z.setCell ⟨b1,n,none⟩ (.int .i64 ((s.next + 1:Nat):Int))) ?_ (hK2 _ (⟨by simpa [Man.upd,hdn] using hS.1.setIndex n (s.next + 1),hS.2.trans (hS.1.far b1 n (.inr (.inl rfl)) _).2.2.2⟩));have ec:∀ v,a.eval (.const v) = v:=fun _ =>rfl
    generalize a.eval = ev at *;simp [execOp,go_sem,ec,e31,e26,zn1,zg1]
   ·cases ho;have e21:=hag.val_ (j:=8) (t:=21) rfl (hdep ⟨8,.data⟩ qG0 rfl);have e22:=hag.val_ (j:=9) (t:=22) rfl (hdep ⟨9,.data⟩ qG0 rfl);refine a0F (i:=20) rfl rfl (fun c h =>by cases h) ?_ ?_ (hK2 Z hS)
    ·generalize a.eval = ev at *;simp [Oper.about,resolve,Target.leads,Sem.run_pure,go_sem,e21,e22,hn,hn0]
    ·have ec:∀ v,a.eval (.const v) = v:=fun _ =>rfl
     generalize a.eval = ev at *;simp [execOp,go_sem,ec,e21,e22,hn,hn0]
   ·cases ho;have e32:=hag.val_ (j:=20) (t:=32) rfl (hdep ⟨20,.data⟩ qG0 rfl);have e30:=hag.val_ (j:=17) (t:=30) rfl (hdep ⟨17,.data⟩ qG0 rfl);refine a3C (i:=21) rfl rfl (fun c h =>by cases h) rfl (w':=Z.setCell ⟨b2,n,none⟩ (.int .i64 ((s.next + 1:Nat):Int))) ?_ (hK2 _ (⟨by simpa [Man.upd,hdn] using hS.1.setLow n (s.next + 1),hS.2.trans (hS.1.far b2 n (.inr (.inr (.inl rfl))) _).2.2.2⟩));have ec:∀ v,a.eval (.const v) = v:=fun _ =>rfl
    generalize a.eval = ev at *;simp [execOp,go_sem,ec,e32,e30,zn2,zg2]
  case enr1 =>
   intro Z1 done hdn hS;simp only [putTmps,dstOf,zV1,zT0,zN1,Nat.reduceAdd,zB2,zK1,zT1,zK0,zN0,zX0,zY0];obtain ⟨fs1,be1⟩:=hS;simp only [hdn 19 qF0,hdn 21 qF0,if_true] at fs1;have FS1:=zA0 fs1;have BE1:=zA0 (HB1.out.trans be1);have HBZ:=zA0 (show B≤Z1.heap.size from zH0 HBW.out BE1.out.size);have ST1:=zA0 fs1.st;have FR1:=zA0 (show ∀ q,Z1.heap.size≤q→q≠b1∧q≠b2 from fun q hq =>⟨fun x =>absurd (a1K fs1.x) (zG3.2 (x ▸ hq)),fun x =>absurd (a1K fs1.l) (zG3.2 (x ▸ hq))⟩);have ck:=fs1.cf;clear fs1 be1 hdn h1
   go_upto_region 3 with (first
    | ((with_reducible refine a1H (b:=.append) (xs:=#[.tmp 37,.tmp 39]) rfl ?_);at_builtin;refine Kd.a2Q kI B rfl (.tmp 37) (.tmp 39) 43 3 (.int .i64 0) 8 rfl Tryz.underlying43 a9S rfl qF0 qD0 vs (toI s.stack) (n:Int) [.int .i64 (n:Nat)] (fun k =>k≠b1∧k≠b2) (fun _ =>False) rfl rfl ?mk (fun _ h =>h.elim) FR1.out ST1.out (zJ0 B Z1) HBZ.out LST.out ?_;(case mk =>rfl);intro v40 w40 ho hb hg hat;obtain ⟨A9,c9,e9,_,_⟩:=Kd.a3T ho;obtain ⟨nn,hnn⟩:∃ nn,nn = (toI s.stack ++ [(n:Int)]).length:=⟨_,rfl⟩;rw [← hnn] at e9;subst e9;clear hnn;have HO:=zA0 ho;have HG:=zA0 hg;have HAT:=zA0 hat;have eD:=zA0 hb;have hf40:=a1O FS1.out.f hg FS1.out.nsF;have hfz:=a0Q hf40 3;have hfc:=a0O hf40 3;clear ho hb hg hat hf40 ck))
   have ho2:kI.R 3 w40 B (fun q =>q≠b1∧q≠b2) (.slice A9 nn c9) (toI (s.stack ++ [n])):=by have:=HO.out;simpa [toI] using this
   obtain ⟨fs2,be2⟩:=FS1.out.setStack ho2 HG.out HAT.out eD.out;clear hfz hfc ho2;generalize w40.setCell ⟨F,3,none⟩ (.slice A9 nn c9) = W3 at fs2 be2 ⊢;have FS2:=zA0 fs2;have BE2:=zA0 (BE1.out.trans be2);have ck:=fs2.cf;have cn:=fs2.cn hn;clear fs2 be2 HO HG HAT eD ST1 FR1 FS1 LST;go_upto_region 4 with (fail)
   have fs3:FS B F b1 b2 b4 A c g (enterF n s) (.slice A9 nn c9) vk (W3.setCell ⟨b4,n,none⟩ (.bool true)):=FS2.out.setOn n true;have be3:=(FS2.out.far b4 n (.inr (.inr (.inr rfl))) (.bool true)).2.2.2;clear ck cn;generalize W3.setCell ⟨b4,n,none⟩ (.bool true) = W4 at fs3 be3 ⊢;obtain ⟨ad,A0,c0,eA,hrow,hle,hF0⟩:=rowA fs3.gF n hn;subst eA;obtain ⟨row,hrw⟩:∃ r,r = g.getD n []:=⟨_,rfl⟩;rw [← hrw] at hrow hle hF0;have FS3:=zA0 fs3;have BE3:=zA0 (BE2.out.trans be3);have FR:=zA0 hF0;have RW:=zA0 hrw;have hrl:row.length≤1000:=by rw [hrw];exact GO.out.row n
   have ck:=fs3.cf
   have HV0:=zA0 (show VL B F b1 b2 b4 (some ad) c g k n s G W 0 (enterF n s) [] (.slice A9 nn c9) vk W4 from ⟨rfl,by simpa using b8I INV.out H0.out hn HGR.out,FS3.out,BE3.out,by
    have:=a9G hn H0.out;have h2:=HC.out;unfold cnt at h2 ⊢;show s.next + 1 + _≤_;omega,by
    have:=HT.out;simp only [tot,enterF,zR0,zT0,zN1] at this ⊢
    omega,zH0 HBW.out BE3.out.size⟩)
   clear hF0 hrw fs3 be3;go_wp2;clear ck hrow;go_loopg [57,5] row.length (fun kq v57 v5 w' =>∃ (j:Nat) (t:St) (e:List Nat) (vs' vk':Value),j + kq = row.length∧v57 = .int .i64 (j:Nat)∧Hid (VL B F b1 b2 b4 (some ad) c g k n s G W j t e vs' vk' w'))
   case atStart =>exact ⟨0,_,_,_,_,by omega,rfl,HV0⟩
   case round =>
    obtain ⟨j,t,e,vs2,vk2,hj,rfl,HV⟩:=hrel;have FW:=zA0 (Kd.a5W (W1:=wr) FR.out (fun q hq _ =>(HV.out.be.block q hq).trans (BE3.out.block q hq).symm));have ck:=HV.out.fs.cf;have cn:=HV.out.fs.cn hn;by_cases hlt:j < row.length
    ·obtain ⟨ad0,eA0,hm⟩:=Kd.a1Q (Kd.a5K FW.out) (j:Int) (zI0 j) (zS1.2 hlt);subst eA0;rw [zM0] at hm;obtain ⟨mm,emm,hmn,hmj⟩:∃ mm:Nat,rd row (j:Int) = (mm:Int)∧mm < g.length∧(adjF g n)[j]? = some mm:=by
      have RW':=RW.out;have hlt':j < (g.getD n []).length:=by rw [← RW'];exact hlt
      obtain ⟨m0,m1⟩:=GO.out.ent n hn _ (zD1 hlt');refine ⟨((g.getD n [])[j]).toNat,?_,by omega,by unfold adjF;rw [List.getElem?_map,zE0 hlt'];rfl⟩;unfold rd;rw [RW',zM0,zF0 (l:=g.getD n []),zE0 hlt',zP2];omega
     rw [emm] at hm;clear emm;have HMJ:=zA0 hmj;have hmm0:(0:Int)≤(mm:Int):=zI0 mm;have cm:=HV.out.fs.cn hmn;have hw:=pzS j (zH0 (zY1 hlt) hrl);obtain ⟨k1,rfl⟩:∃ k1,gk = k1 + 1:=⟨gk - 1,by omega⟩;have hmem:mm ∈ adjF g n:=by obtain ⟨a,b⟩:=List.getElem?_eq_some_iff.1 hmj;exact b ▸ zD1 a
     clear hmj;by_cases hi0:t.index mm = 0
     ·have hib:((t.index mm:Int) == 0) = true:=by rw [hi0];rfl
      obtain ⟨p1,p2⟩:=HV.out.pre INV.out hn HW.out hmem;have hcall:=IH.out t (n :: G) mm vs2 vk2 wr HV.out.fs HV.out.li.inv HV.out.ct HV.out.tt hi0 hmn p1 p2 HV.out.bz;obtain ⟨t2,ht2⟩:∃ t2,t2 = visitF (adjF g) k mm t:=⟨_,rfl⟩;rw [← ht2] at hcall;have HCALL:=zA0 hcall;have HI0:=zA0 hi0;have HT2:=zA0 ht2;clear hcall p1 p2 ht2 hi0 hmem
      go_upto_region 9 with (first
       | (go_at_call 49;with_reducible refine HCALL.out.mono ?_;rintro x w2 ⟨rfl,⟨vs3,vk3,hfs3⟩,hbe3⟩;clear ck cn cm;have FS4:=zA0 hfs3;have BE4:=zA0 hbe3;have ck:=hfs3.cf;have cn:=hfs3.cn hn;have cm:=hfs3.cn hmn;clear hfs3 hbe3))
      obtain ⟨mv,hmv⟩:∃ mv,mv = min (t2.low n) (t2.low mm):=⟨_,rfl⟩;have hmin:=imin' hmv;have HMV:=zA0 hmv;clear hmv
      go_still_tail 21,mixedO
      change wpList _ _ _ _ _ (World.drew w2);have fs5:=FS4.out.below (a1X (zJ0 w2.heap.size w2));have be5:=BE4.out.trans (a1X (zJ0 B w2));clear ck cn cm;generalize World.drew w2 = w5 at fs5 be5 ⊢;have ck:=fs5.cf;have cn:=fs5.cn hn;have FS5:=zA0 fs5;have BE5:=zA0 be5;clear fs5 be5;go_wp2;have fs6:FS B F b1 b2 b4 (some ad) c g (stepF (visitF (adjF g) k) n t mm) vs3 vk3 (w5.setCell ⟨b2,n,none⟩ (.int .i64 (mv:Nat))):=by
       unfold stepF;rw [if_pos HI0.out,← HT2.out,← HMV.out];exact FS5.out.setLow n _
      obtain ⟨e1,hv1⟩:=HV.out.next GO.out INV.out hn HW.out HMJ.out fs6 (BE5.out.trans (FS5.out.far b2 n (.inr (.inr (.inl rfl))) _).2.2.2);have HV1:=zA0 hv1;clear hv1 fs6 hmin ck cn;go_roundg k1
      case measure =>exact zS0 _
      case rel =>exact ⟨j + 1,_,e1,_,_,by rw [zZ0,zM1 1];exact hj,by first | rw [hw] | simp [hw],HV1⟩
     ·have hib:((t.index mm:Int) == 0) = false:=by simpa using hi0
      have HI0:=zA0 hi0;clear hi0 hmem;by_cases hon:t.on mm = true
      ·have HON:=zA0 hon;rw [hon] at cm;clear hon;go_upto_region 11 with (fail)
       obtain ⟨mv,hmv⟩:∃ mv,mv = min (t.low n) (t.index mm):=⟨_,rfl⟩;have hmin:=imin' hmv;have HMV:=zA0 hmv;clear hmv
       go_still_tail 21,mixedO
       change wpList _ _ _ _ _ (World.drew wr);have fs5:=HV.out.fs.below (a1X (zJ0 wr.heap.size wr));have be5:=a1X (zJ0 B wr);clear ck cn cm hm;generalize World.drew wr = w5 at fs5 be5 ⊢;have ck:=fs5.cf;have cn:=fs5.cn hn;have FS5:=zA0 fs5;have BE5:=zA0 be5;clear fs5 be5;go_wp2;have fs6:FS B F b1 b2 b4 (some ad) c g (stepF (visitF (adjF g) k) n t mm) vs2 vk2 (w5.setCell ⟨b2,n,none⟩ (.int .i64 (mv:Nat))):=by
        unfold stepF;rw [if_neg HI0.out,if_pos HON.out,← HMV.out];exact FS5.out.setLow n _
       obtain ⟨e1,hv1⟩:=HV.out.next GO.out INV.out hn HW.out HMJ.out fs6 (BE5.out.trans (FS5.out.far b2 n (.inr (.inr (.inl rfl))) _).2.2.2);have HV1:=zA0 hv1;clear hv1 fs6 hmin ck cn;go_roundg k1
       case measure =>exact zS0 _
       case rel =>exact ⟨j + 1,_,e1,_,_,by rw [zZ0,zM1 1];exact hj,by first | rw [hw] | simp [hw],HV1⟩
      ·have HON:=zA0 hon;have honf:t.on mm = false:=by simpa using hon
       rw [honf] at cm;clear hon honf;go_wp2;have fs6:FS B F b1 b2 b4 (some ad) c g (stepF (visitF (adjF g) k) n t mm) vs2 vk2 wr:=by
        unfold stepF;rw [if_neg HI0.out,if_neg HON.out];exact HV.out.fs
       obtain ⟨e1,hv1⟩:=HV.out.next GO.out INV.out hn HW.out HMJ.out fs6 (zJ0 B wr);have HV1:=zA0 hv1;clear hv1 fs6 ck cn cm hm;go_roundg k1
       case measure =>exact zS0 _
       case rel =>exact ⟨j + 1,_,e1,_,_,by rw [zZ0,zM1 1];exact hj,by first | rw [hw] | simp [hw],HV1⟩
    ·have hje:j = row.length:=by omega
     have hlen:(adjF g n).length = row.length:=by rw [RW.out];simp [adjF]
     have hli:LInv (adjF g) g.length n s t G (adjF g n) e:=by have:=HV.out.li;rwa [hje,← hlen,zH1] at this
     have hst:n ∈ t.stack:=by rw [hli.ext];simp
     have hvs:visitF (adjF g) (k + 1) n s = leaveF n t:=by
      show leaveF n ((adjF g n).foldl (stepF (visitF (adjF g) k) n) (enterF n s)) = _;rw [HV.out.is,hje,← hlen,zH1]
     have HVS:=zA0 hvs;have HST:=zA0 hst;clear hli hvs hst hlen hje;by_cases hl:t.low n = t.index n
     ·have hlb:((t.low n:Int) == (t.index n:Int)) = true:=by rw [hl];simp
      have HLF:=zA0 (show leaveF n t = knotF n t by unfold leaveF;rw [if_pos hl]);clear hl;go_upto_region 13 with (fail)
      go_quiet (fail)
      have fs5:=HV.out.fs.below (a0A (zJ0 wr.heap.size wr) nq);have be5:=a0A (zJ0 B wr) nq;have FS5:=zA0 fs5;have BE5:=zA0 be5;clear ck cn fs5 be5;have hkc:=knot_any g (some ad) c B F b1 b2 b4 t n vs2 vk2 (wr.drewN nq) FS5.out HST.out (fun x hx =>HV.out.li.inv.vlt x (HV.out.li.inv.svis x hx)) (by have:=b7J (adj:=adjF g) (G:=G) HV.out.tt HV.out.ct;have:=GO.out.len;omega) (by have:=b7Y HV.out.li.inv HV.out.tt HV.out.ct;have:=GO.out.len;omega) (zH0 HV.out.bz BE5.out.size);rw [← HLF.out,← HVS.out] at hkc;have HKC:=zA0 hkc;clear hkc
      go_wp2_with (first
       | (go_at_call 75;with_reducible refine HKC.out.mono ?_;rintro x w6 ⟨rfl,hfin,hbe6⟩;have HFIN:=zA0 hfin;have BE6:=zA0 hbe6;clear hfin hbe6))
      refine bodyPost_end (results_none rfl _ _ _) rfl ?_;exact ⟨rfl,HFIN.out,(HV.out.be.trans BE5.out).trans BE6.out⟩
     ·have hlb:((t.low n:Int) == (t.index n:Int)) = false:=by simpa using (fun h =>hl qD0)
      have HLF:=zA0 (show leaveF n t = t by unfold leaveF;rw [if_neg hl]);clear hl;go_upto_region 13 with (fail)
      go_quiet (fail)
      have fs5:=HV.out.fs.below (a0A (zJ0 wr.heap.size wr) nq);have be5:=a0A (zJ0 B wr) nq;have FS5:=zA0 fs5;have BE5:=zA0 be5;clear ck cn fs5 be5;go_wp2;refine bodyPost_end (results_none rfl _ _ _) rfl ?_;exact ⟨rfl,⟨vs2,vk2,by rw [HVS.out,HLF.out];exact FS5.out⟩,HV.out.be.trans BE5.out⟩
def vals (N:Nat) (f:Nat→Value):Array Value:=((List.range N).map f).toArray
theorem b7H (N:Nat) (f:Nat→Value) (n:Nat) (v:Value):(vals N f).setIfInBounds n v = vals N (Tarj.upd f n v):=by
 unfold vals;rw [zN0,b0W]
theorem a7O {N n:Nat} (f:Nat→Value) (h:n < N):(vals N f)[n]? = some (f n):=by simp [vals,h]
structure FD (B bo M:Nat) (v:Nat→Value) (r:Nat→List Nat) (W:World):Prop where
 o:W.heap[bo]? = some (.cells (vals M v) 43 (0,0))
 r:∀ i,i < M→kI.R 3 W B (fun k =>k≠bo) (v i) (toI (r i))
 d:∀ i j,i < M→j < M→i≠j→∀ k,(v i).ownBlock = some k→(v j).ownBlock≠some k
 b:B≤bo
section
variable {B bo M:Nat} {v:Nat→Value} {r:Nat→List Nat} {W W1:World}
theorem FD.below (h:FD B bo M v r W) (hb:Below W.heap.size W W1):FD B bo M v r W1 :=
 ⟨a0U h.o hb,fun i hi =>Kd.a3L (h.r i hi) hb,h.d,h.b⟩
theorem FD.lt (h:FD B bo M v r W) {i:Nat} (hi:i < M):∀ k,(v i).ownBlock = some k→B≤k∧k < W.heap.size:=fun k hk =>by
 have ho:=Kd.a2Y (h.r i hi);obtain ⟨cells,hc⟩:=a2N ho k hk;exact ⟨a2G ho k hk,a1K hc⟩
theorem FD.ne (h:FD B bo M v r W) {i:Nat} (hi:i < M):some bo≠(v i).ownBlock:=fun e =>(h.r i hi).1 bo e.symm rfl
theorem FD.put (h:FD B bo M v r W) {i:Nat} (hi:i < M) {v1:Value} {xs:List Nat} (hr:kI.R 3 W1 B (fun k =>k≠bo) v1 (toI xs)) (hg:W.grownBy W1 (v i).ownBlock) (hat:v1.ownBlock = (v i).ownBlock∨∃ b,v1.ownBlock = some b∧W.heap.size≤b) :
  FD B bo M (Tarj.upd v i v1) (Tarj.upd r i xs) (W1.setCell ⟨bo,i,none⟩ v1):=by
 have ho:=a1O h.o hg (h.ne hi);refine ⟨a3A ho i _ (b7H _ _ _ _),fun j hj =>?_,fun a b ha hb hne k hk =>?_,h.b⟩
 ·by_cases e:j = i
  ·subst e;simp only [Tarj.upd,if_true];exact Kd.b3Y (p:=⟨bo,j,none⟩) hr (fun k hk =>hk) _
  ·simp only [Tarj.upd,if_neg e];refine Kd.b3Y (p:=⟨bo,i,none⟩) ?_ (fun k hk =>hk) _;refine Kd.a2S (Kd.c4A (Kd.a6J (ok:=fun k =>some k = (v j).ownBlock) rfl (h.r j hj) (fun k hk =>hk.symm)) hg (fun k hk e2 =>h.d j i hj hi e k hk.symm e2.symm)) (fun k hk =>(h.r j hj).1 k hk.symm)
 ·simp only [Tarj.upd] at hk ⊢
  split at hk
  ·next ea =>
   subst ea;rw [if_neg (fun e =>hne e.symm)];rcases hat with hat | ⟨q,hq,hle⟩
   ·rw [hat] at hk;exact h.d a b ha hb hne k hk
   ·rw [hq] at hk;intro e;have:=(h.lt hb k e).2;injection hk with hk
    omega
  ·next ea =>
   by_cases eb:b = i
   ·subst eb;rw [if_pos rfl];rcases hat with hat | ⟨q,hq,hle⟩
    ·rw [hat];exact h.d a b ha hb hne k hk
    ·rw [hq];intro e;have:=(h.lt ha k hk).2;injection e with e
     omega
   ·rw [if_neg eb];exact h.d a b ha hb hne k hk
theorem FD.b4Y (h:FD B bo M v r W) {i:Nat} (hi:i < M) (v1:Value) (hg:W.grownBy W1 (v i).ownBlock) (hbb:Below B W W1):Below B W (W1.setCell ⟨bo,i,none⟩ v1):=hbb.setCell (p:=⟨bo,i,none⟩) h.b _
theorem FD.reads (h:FD B bo M v r W) (hM:M≤1000):kL.C W (some ⟨bo,0,none⟩) M ((List.range M).map fun i =>toI (r i)):=by
 refine ⟨by simp,by omega,fun hp =>⟨⟨bo,0,none⟩,rfl,fun j x hx =>?_⟩⟩;obtain ⟨hj,rfl⟩:=List.getElem?_eq_some_iff.1 hx;have hj':j < M:=by simpa using hj
 obtain ⟨A,c,e,hl,hC⟩:=Kd.a3T (h.r j hj');simp only [List.getElem_map,List.getElem_range];refine ⟨[v j],rfl,⟨A,c,by rw [e],hl,hC⟩,fun i u hu =>?_⟩
 match i,hu with
 | 0,hu =>
  simp only [zK1,Option.some.injEq] at hu;subst hu;rw [a5J];have:0 + (j * kL.sz + 0) = j:=by show 0 + (j * 1 + 0) = j;omega
  rw [this];exact (a0O h.o j).trans (a7O _ hj')
theorem FD.cell (h:FD B bo M v r W) {i:Nat} (hi:i < M):W.cell? ⟨bo,i,none⟩ = some (v i)∧W.frozen? ⟨bo,i,none⟩ = false:=⟨(a0O h.o i).trans (a7O _ hi),a0Q h.o i⟩
theorem FD.made (hB:B≤W.heap.size):FD B W.heap.size M (fun _ =>.slice none 0 0) (fun _ =>[]) (W.alloc (.cells (vals M (fun _ =>.slice none 0 0)) 43)) :=
 ⟨World.alloc_heap_new W _,fun i _ =>Kd.a9A _ _ _ _ _,fun i j _ _ _ k hk =>by simp [Value.ownBlock] at hk,hB⟩
end
structure RS (B R bl K:Nat) (lw:Nat→Nat) (v:Value) (l:List Nat) (W:World):Prop where
 r:W.heap[R]? = some (.cells #[v,.slice (some ⟨bl,0,none⟩) K K] 88 (0,0))
 lo:W.heap[bl]? = some (.cells (ints K lw) 3 (0,0))
 st:kI.R 3 W B (fun _ =>True) v (toI l)
 mem:∀ x,x ∈ l→x < K
 b:B≤R
 bl:bl < B
 len:l.length≤1000
structure Ht (B R:Nat) (W:World) (v:Value) (W':World) (v':Value):Prop where
 be:Below B W W'
 bk:∀ k,k < W.heap.size→k≠R→some k≠v.ownBlock→W'.heap[k]? = W.heap[k]?
 at_:v'.ownBlock = v.ownBlock∨∃ b,v'.ownBlock = some b∧W.heap.size≤b
section
variable {B R bl K:Nat} {lw:Nat→Nat} {v v1 v2:Value} {l:List Nat} {W W1 W2:World}
theorem Ht.refl (B R:Nat) (W:World) (v:Value):Ht B R W v W v:=⟨zJ0 _ _,fun _ _ _ _ =>rfl,.inl rfl⟩
theorem Ht.trans (h:Ht B R W v W1 v1) (k:Ht B R W1 v1 W2 v2):Ht B R W v W2 v2:=by
 refine ⟨h.be.trans k.be,fun i hi hR hv =>(k.bk i (zF1 hi h.be.size) hR (fun e =>?_)).trans (h.bk i hi hR hv),?_⟩
 ·rcases h.at_ with a | ⟨b,a,hb⟩
  ·rw [a] at e;exact hv e
  ·rw [a] at e;injection e with e;omega
 ·rcases k.at_ with a | ⟨b,a,hb⟩
  ·rw [a];exact h.at_
  ·exact .inr ⟨b,a,zH0 h.be.size hb⟩
theorem Ht.drew (h:Ht B R W v W1 v1) (n:Nat):Ht B R W v (W1.drewN n) v1:=h.trans ⟨a0A (zJ0 _ _) n,fun _ _ _ _ =>rfl,.inl rfl⟩
theorem RS.below (h:RS B R bl K lw v l W) (hb:Below W.heap.size W W1):RS B R bl K lw v l W1 :=
 ⟨a0U h.r hb,a0U h.lo hb,Kd.a3L h.st hb,h.mem,h.b,h.bl,h.len⟩
theorem RS.drew (h:RS B R bl K lw v l W) (n:Nat):RS B R bl K lw v l (W.drewN n):=h.below (a0A (zJ0 _ _) n)
theorem RS.nR (h:RS B R bl K lw v l W):some R≠v.ownBlock:=Kd.R_ne h.st h.r qF0
theorem RS.nl (h:RS B R bl K lw v l W):some bl≠v.ownBlock:=fun e =>by
 have:=a2G (Kd.a2Y h.st) bl e.symm;have:=h.bl;omega
theorem RS.cf (h:RS B R bl K lw v l W):W.cell? ⟨R,0,none⟩ = some v∧W.cell? ⟨R,1,none⟩ = some (.slice (some ⟨bl,0,none⟩) K K)∧W.frozen? ⟨R,0,none⟩ = false :=
 ⟨(a0O h.r 0).trans rfl,(a0O h.r 1).trans rfl,a0Q h.r 0⟩
theorem RS.lwc (h:RS B R bl K lw v l W) {x:Nat} (hx:x < K):W.cell? ⟨bl,x,none⟩ = some (.int .i64 (lw x:Nat)):=(a0O h.lo x).trans (a3B _ hx)
theorem RS.form (h:RS B R bl K lw v l W) (hp:0 < l.length):∃ g cap,v = .slice (some ⟨g,0,none⟩) l.length cap∧l.length≤cap∧(∀ i (hi:i < l.length),W.cell? ⟨g,i,none⟩ = some (.int .i64 (l[i]:Nat))∧W.frozen? ⟨g,i,none⟩ = false):=by
 have ho:=Kd.a2Y h.st;rcases ho.2 with ⟨rfl,h0⟩ | ⟨g,cap,cur,rfl,hb,hh,hn,hc,ht⟩
 ·rw [a1P] at h0;omega
 ·rw [a1P] at hn;refine ⟨g,cap,by rw [a1P],hn,fun i hi =>⟨?_,a0Q hh i⟩⟩;obtain ⟨A,c,e,_,hC⟩:=Kd.a3T h.st;injection e with e1 _ _
  subst e1;obtain ⟨ad,e2,hm⟩:=Kd.a1Q hC (i:Int) (zI0 i) (by rw [a1P];exact zS1.2 hi);cases e2;rw [zM0,a5J,zG2] at hm;rw [hm];unfold rd;rw [zM0,a7A _ _ hi]
theorem RS.turn (h:RS B R bl K lw v l W) {l1:List Nat} (hr:kI.R 3 W1 B (fun _ =>True) v1 (toI l1)) (hg:W.grownBy W1 v.ownBlock) (hat:v1.ownBlock = v.ownBlock∨∃ b,v1.ownBlock = some b∧W.heap.size≤b) (hbb:Below B W W1) (hm:∀ x,x ∈ l1→x < K) (hl:l1.length≤1000) :
  RS B R bl K lw v1 l1 (W1.setCell ⟨R,0,none⟩ v1)∧Ht B R W v (W1.setCell ⟨R,0,none⟩ v1) v1:=by
 have hb:=h.b;have hlt:=h.bl;have hf:=a1O h.r hg h.nR;have n1:some R≠v1.ownBlock:=Kd.R_ne hr hf qF0;refine ⟨⟨a3A hf 0 _ rfl,a2F (a1O h.lo hg h.nl) (show bl≠R by omega) _,?_,hm,h.b,h.bl,hl⟩,hbb.setCell (p:=⟨R,0,none⟩) hb _,fun k hk hR hv =>?_,hat⟩
 ·exact Kd.a2S (Kd.b3Y (p:=⟨R,0,none⟩) (Kd.a6J (ok:=fun k =>some k = v1.ownBlock) rfl hr (fun k hk =>hk.symm)) (fun k hk e =>n1 (by rw [← hk];exact congrArg some (show R = k from e.symm))) _) (fun _ _ =>trivial)
 ·rw [Below.heap_setCell _ _ _ _ hR];exact hg.block k hk hv
end
end Go.Proofs.YthhgfncliffggaaGreat.Man
