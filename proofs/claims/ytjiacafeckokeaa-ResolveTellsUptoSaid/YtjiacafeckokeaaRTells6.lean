/- A part of the proof that ResolveTells returns true for every argument. No conditions beyond the given statement's own. -/
import Derived.Test.YtjiacafeckokeaaRTells2
set_option linter.unusedVariables false
set_option linter.unusedSimpArgs false
namespace Go.Proofs.Ytjiacafeckokeaa.Pr
open Go.RowKit Go.Proofs.YtjiacafeckokeaaW.PrintWords Go.Proofs.YtjiacafeckokeaaW.PrintLast Go.Proofs.YtjiacafeckokeaaW.PrintMore
attribute [local go_sem] a4B a3Z a4W a4V a3G a3F a4A a3Y   -- for this text's walks alone
theorem a3X (t:TypeId) (a b:ByteArray):binOp .leq t (.string a) (.string b) = pure (.bool (!(Op.bytesLess b.toList a.toList))):=by
 have key:∀ x y:List UInt8,(Op.bytesLess x y || x == y) = !(Op.bytesLess y x):=by
  intro x
  induction x with
  | nil =>intro y;cases y <;> simp [Op.bytesLess]
  | cons p x ih =>
   intro y
   cases y with
   | nil =>simp [Op.bytesLess]
   | cons q y =>
    simp only [Op.bytesLess]
    rcases Nat.lt_trichotomy p.toNat q.toNat with h | h | h
    ·have h1:p < q:=UInt8.lt_iff_toNat_lt.2 h
     have h2:¬ q < p:=fun e =>by have:=UInt8.lt_iff_toNat_lt.1 e;omega
     have h3:¬ q = p:=fun e =>by rw [e] at h;omega
     simp [h1,h2,h3]
    ·obtain rfl:p = q:=UInt8.toNat_inj.1 h
     have h2:¬ p < p:=fun e =>by have:=UInt8.lt_iff_toNat_lt.1 e;omega
     have:=ih y
     simp [h2] at this ⊢
     exact this
    ·have h1:q < p:=UInt8.lt_iff_toNat_lt.2 h
     have h2:¬ p < q:=fun e =>by have:=UInt8.lt_iff_toNat_lt.1 e;omega
     have h3:¬ p = q:=fun e =>by rw [e] at h;omega
     simp [h1,h2,h3]
 simp [binOp,Op.stringOp,key]
attribute [local go_sem] a3X
theorem a3M (t:TypeId) (a b:ByteArray):binOp .geq t (.string a) (.string b) = pure (.bool (!(Op.bytesLess a.toList b.toList))):=by simp [binOp,Op.stringOp]
attribute [local go_sem] a3M
def r05_Fun.l0:Nat→ByteArray→Int→List (S32)→Option (Int)
 | 0,_,_,_ =>none
 | k + 1,x1,x5,x165000 =>if x5 < (x165000.length:Int) then (if 0≤x5 then (if ((a0P x165000 x5).f0).toList = x1.toList then (some x5) else (r05_Fun.l0 k x1 (wrap64 (x5 + 1)) x165000)) else (none)) else (some (-1))
def r05_Fun.f (k:Nat) (aI:List (S32)) (a1:ByteArray):Option (Int):=r05_Fun.l0 k a1 0 aI
theorem r05_Fun.a3E:∀ k,(∀ y0 y1 y2,LeO (r05_Fun.l0 k y0 y1 y2) (r05_Fun.l0 (k + 1) y0 y1 y2))
 | 0 =>fun _ _ _ r h =>by simp [r05_Fun.l0] at h
 | k + 1 =>by
  have ih0:=r05_Fun.a3E k
  ·intro y0 y1 y2
   unfold r05_Fun.l0
   repeat' first
   | (with_reducible exact ih0 _ _ _)
   | (with_reducible exact LeO.refl _)
   | (with_reducible exact LeO.none _)
   | (with_reducible refine LeO.ite ?_ ?_)
   | (with_reducible refine LeO.bind ?_ (fun _ =>?_))
   | exact ih0 _ _ _
   | exact LeO.none _
   | refine LeO.ite ?_ ?_
   | refine LeO.bind ?_ (fun _ =>?_)
theorem r05_Fun.mono:∀ a0 a1 k,LeO (r05_Fun.f k a0 a1) (r05_Fun.f (k + 1) a0 a1):=by
 intro a0 a1 k
 have ih0:=r05_Fun.a3E k
 unfold r05_Fun.f
 repeat' first
   | (with_reducible exact ih0 _ _ _)
   | (with_reducible exact LeO.refl _)
   | (with_reducible exact LeO.none _)
   | (with_reducible refine LeO.ite ?_ ?_)
   | (with_reducible refine LeO.bind ?_ (fun _ =>?_))
   | exact ih0 _ _ _
   | exact LeO.none _
   | refine LeO.ite ?_ ?_
   | refine LeO.bind ?_ (fun _ =>?_)
set_option maxHeartbeats 8000000 in
set_option maxRecDepth 100000 in
theorem r05_Fun.calls (k:Nat) (fY:Option Addr) (cY:Nat) (aI:List (S32)) (a1:ByteArray) (r:Int) (w:World) (rD:Kd.C k32 w fY aI.length aI) (rE:aI.length≤cY) (h:r05_Fun.f k aI a1 = some r) :
    Calls Try.prog 16 #[.agg #[.slice fY aI.length cY],.string a1] w fun e w' =>e = .returned (.int .i64 r)∧Below w.heap.size w w':=by
 have hu24:=Try.underlying24
 have rM:=a0A.mk rD
 have aU8:=a0A.mk rE
 clear rD rE
 have HB:=a0A.mk (Below.refl w.heap.size w)
 have H:(r05_Fun.l0 k a1 0 aI) = some r:=h
 clear h
 have H':=a0A.mk H
 clear H
 go_enter Try.func16,Try.ntmps16
 go_wp2_with (first | ((with_reducible refine a1C (N:=2) rfl ?_);refine a1A ?hg (N:=2) ?hd (cs:=#[.slice fY aI.length cY]) (t:=24) ?hr ?_;(case hd =>rfl);(case hg =>rfl);(case hr =>first | (go_simp;done) | (go_simp;rfl));intro mY hg w3 hbox hb;have bD:=a0A.mk (a0H (by repeat (first | (with_reducible first | exact HB.out | apply a0D | apply a0B | apply a0E) | exact HB.out)) hb);have bE:=a0A.mk (hbox);have bT:=a0A.mk ((by rw [hg];exact (a0V (by repeat (first | (with_reducible first | exact HB.out | apply a0D | apply a0B | apply a0E) | exact HB.out))):w.heap.size≤mY));have cI:=a0A.mk ((by rw [hg];exact (a0V (by repeat (first | (with_reducible first | exact HB.out | apply a0D | apply a0B | apply a0E) | exact HB.out))):w.heap.size≤mY));clear HB;have HB:=bD;have gB:=bE;have GW164:=bT;have rN:=cI;clear bD bE bT cI;clear hb hbox hg))
 go_loopg [5] k (fun kq v5 w' =>∃ (aW:Int),v5 = .int .i64 aW∧a0A (r05_Fun.l0 kq a1 aW aI = some r)∧a0A (kq≤k)∧a0A (w'.heap[mY]? = some (.cells #[(.slice fY aI.length cY)] 24 (0,0)))∧a0A (Below w.heap.size w w'))
 case atStart =>exact ⟨(0),(by first | rfl | (simp;done) | (simp [*];done)),H',⟨Nat.le_refl _⟩,⟨by (with_reducible repeat (first | refine a0L ?_ _ | refine a0M ?_ | refine a0K ?_ _));exact gB.out⟩,⟨by repeat (first | (with_reducible first | exact HB.out | apply a0D | apply a0B | apply a0E | refine a0I ?_ rN.out) | exact HB.out)⟩⟩
 case round =>
  clear H'
  try clear c1
  try clear p2
  obtain ⟨aW,rfl,HA,HK1,gB,HB⟩:=hrel
  cases gk with
  | zero =>exact absurd HA.out (by simp [r05_Fun.l0])
  | succ k1 =>
   have H:=HA.out
   clear HA
   simp only [r05_Fun.l0] at H
   by_cases c4:aW < (aI.length:Int)
   ·rw [if_pos c4] at H
    have c4b0:decide (aW < (aI.length:Int)) = true:=decide_eq_true c4
    clear c4
    by_cases c5:0≤aW
    ·rw [if_pos c5] at H
     have c5b0:decide (0≤aW) = true:=decide_eq_true c5
     clear c5
     by_cases c6:((a0P aI aW).f0).toList = a1.toList
     ·rw [if_pos c6] at H
      have c6b0:(((a0P aI aW).f0).toList == a1.toList) = true:=beq_iff_eq.mpr c6
      have c6b1:(((a0P aI aW).f0).toList != a1.toList) = false:=bne_eq_false_iff_eq.mpr c6
      clear c6
      obtain rfl:=Option.some.inj H
      have bL5:wr.cell? ⟨mY,0,none⟩ = some (.slice fY aI.length cY):=(a0G gB.out 0).trans rfl
      have bL6:=a0F gB.out 0
      have p165:0≤(aW:Int):=of_decide_eq_true (by first | (with_reducible assumption) | assumption)
      have q165:aW < (aI.length:Int):=of_decide_eq_true (by first | (with_reducible assumption) | assumption)
      obtain ⟨ad165,aO8,aO9,aP0,aP1,e165,gC,gD,gE,gF,gG,gH,gI⟩:=a3N rM.out aW p165 q165
      cases e165
      replace gC:=a0C HB.out gC
      replace gD:=a0C HB.out gD
      replace gE:=a0C HB.out gE
      have aG9:=a0A.mk gG
      have aH0:=a0A.mk gF
      clear gG gF
      have aH1:=a0A.mk gI
      have aH2:=a0A.mk gH
      clear gI gH
      replace p165:=eq_true p165
      replace q165:=eq_true q165
      go_wp2
      go_ret
      exact ⟨by first | rfl | (simp [a0T,a0S] <;> rfl) | (simp [*,a0T,a0S] <;> rfl),by repeat (first | (with_reducible first | exact HB.out | apply a0D | apply a0B | apply a0E | refine a0I ?_ rN.out) | exact HB.out)⟩
     ·rw [if_neg c6] at H
      have c6b0:(((a0P aI aW).f0).toList == a1.toList) = false:=beq_eq_false_iff_ne.mpr c6
      have c6b1:(((a0P aI aW).f0).toList != a1.toList) = true:=bne_iff_ne.mpr c6
      have H':=a0A.mk H
      clear H
      have fG:wr.cell? ⟨mY,0,none⟩ = some (.slice fY aI.length cY):=(a0G gB.out 0).trans rfl
      have fH:=a0F gB.out 0
      have p165:0≤(aW:Int):=of_decide_eq_true (by first | (with_reducible assumption) | assumption)
      have q165:aW < (aI.length:Int):=of_decide_eq_true (by first | (with_reducible assumption) | assumption)
      obtain ⟨ad165,aO8,aO9,aP0,aP1,e165,gC,gD,gE,gF,gG,gH,gI⟩:=a3N rM.out aW p165 q165
      cases e165
      replace gC:=a0C HB.out gC
      replace gD:=a0C HB.out gD
      replace gE:=a0C HB.out gE
      have aG9:=a0A.mk gG
      have aH0:=a0A.mk gF
      clear gG gF
      have aH1:=a0A.mk gI
      have aH2:=a0A.mk gH
      clear gI gH
      replace p165:=eq_true p165
      replace q165:=eq_true q165
      go_wp2
      go_roundg k1
      case measure =>have:=HK1.out;omega
      case rel =>exact ⟨(wrap64 (aW + 1)),(by first | rfl | (simp;done) | (simp [*];done)),H',⟨by have:=HK1.out;omega⟩,⟨by (with_reducible repeat (first | refine a0L ?_ _ | refine a0M ?_ | refine a0K ?_ _));exact gB.out⟩,⟨by repeat (first | (with_reducible first | exact HB.out | apply a0D | apply a0B | apply a0E | refine a0I ?_ rN.out) | exact HB.out)⟩⟩
    ·rw [if_neg c5] at H
     exact absurd H (by simp)
   ·rw [if_neg c4] at H
    have c4b0:decide (aW < (aI.length:Int)) = false:=decide_eq_false c4
    clear c4
    obtain rfl:=Option.some.inj H
    have bL7:wr.cell? ⟨mY,0,none⟩ = some (.slice fY aI.length cY):=(a0G gB.out 0).trans rfl
    have bL8:=a0F gB.out 0
    go_wp2
    go_ret
    exact ⟨by first | rfl | (simp [a0T,a0S] <;> rfl) | (simp [*,a0T,a0S] <;> rfl),by repeat (first | (with_reducible first | exact HB.out | apply a0D | apply a0B | apply a0E | refine a0I ?_ rN.out) | exact HB.out)⟩
mutual
def r05_With.l0:Nat→List ByteArray→ByteArray→List ByteArray→Bool→Int→Option (List ByteArray)
 | 0,_,_,_,_,_ =>none
 | k + 1,x0,x1,x5,x6,x7 =>if x7 < (x0.length:Int) then (if x6 = true then (r05_With.j1 k x0 x1 x5 x6 x7 false) else (if 0≤x7 then (r05_With.j1 k x0 x1 x5 x6 x7 (!(Op.bytesLess ((rdOf ByteArray.empty x0 x7).toList) x1.toList))) else (none))) else (if x6 = true then (some x5) else (if x5.length < 8796093022208 then (some (x5 ++ [x1])) else (none)))
def r05_With.j1:Nat→List ByteArray→ByteArray→List ByteArray→Bool→Int→Bool→Option (List ByteArray)
 | 0,_,_,_,_,_,_ =>none
 | k + 1,x0,x1,x5,x6,x7,x26 =>if x26 = true then (if 0≤x7 then (if x7 < (x0.length:Int) then (if (Op.bytesLess x1.toList ((rdOf ByteArray.empty x0 x7).toList)) = true then (if x5.length < 8796093022208 then ((some (x5 ++ [x1]:List ByteArray)).bind fun y174 =>(if y174.length < 8796093022208 then (r05_With.l0 k x0 x1 (y174 ++ [rdOf ByteArray.empty x0 x7]) true (wrap64 (x7 + 1))) else (none))) else (none)) else (if x5.length < 8796093022208 then (r05_With.l0 k x0 x1 (x5 ++ [rdOf ByteArray.empty x0 x7]) true (wrap64 (x7 + 1))) else (none))) else (none)) else (none)) else (if 0≤x7 then (if x7 < (x0.length:Int) then (if x5.length < 8796093022208 then (r05_With.l0 k x0 x1 (x5 ++ [rdOf ByteArray.empty x0 x7]) x6 (wrap64 (x7 + 1))) else (none)) else (none)) else (none))
end
def r05_With.f (k:Nat) (l0:List ByteArray) (a1:ByteArray):Option (List ByteArray):=r05_With.l0 k l0 a1 (([]:List ByteArray)) (a1.toList == ([]:List UInt8)) 0
theorem r05_With.a3E:∀ k,(∀ y0 y1 y2 y3 y4,LeO (r05_With.l0 k y0 y1 y2 y3 y4) (r05_With.l0 (k + 1) y0 y1 y2 y3 y4))∧(∀ y0 y1 y2 y3 y4 y5,LeO (r05_With.j1 k y0 y1 y2 y3 y4 y5) (r05_With.j1 (k + 1) y0 y1 y2 y3 y4 y5))
 | 0 =>⟨fun _ _ _ _ _ r h =>by simp [r05_With.l0] at h,fun _ _ _ _ _ _ r h =>by simp [r05_With.j1] at h⟩
 | k + 1 =>by
  obtain ⟨ih0,ih1⟩:=r05_With.a3E k
  refine ⟨?_,?_⟩
  ·intro y0 y1 y2 y3 y4
   unfold r05_With.l0
   repeat' first
   | (with_reducible exact ih0 _ _ _ _ _)
   | (with_reducible exact ih1 _ _ _ _ _ _)
   | (with_reducible exact LeO.refl _)
   | (with_reducible exact LeO.none _)
   | (with_reducible refine LeO.ite ?_ ?_)
   | (with_reducible refine LeO.bind ?_ (fun _ =>?_))
   | exact ih0 _ _ _ _ _
   | exact ih1 _ _ _ _ _ _
   | exact LeO.none _
   | refine LeO.ite ?_ ?_
   | refine LeO.bind ?_ (fun _ =>?_)
  ·intro y0 y1 y2 y3 y4 y5
   unfold r05_With.j1
   repeat' first
   | (with_reducible exact ih0 _ _ _ _ _)
   | (with_reducible exact ih1 _ _ _ _ _ _)
   | (with_reducible exact LeO.refl _)
   | (with_reducible exact LeO.none _)
   | (with_reducible refine LeO.ite ?_ ?_)
   | (with_reducible refine LeO.bind ?_ (fun _ =>?_))
   | exact ih0 _ _ _ _ _
   | exact ih1 _ _ _ _ _ _
   | exact LeO.none _
   | refine LeO.ite ?_ ?_
   | refine LeO.bind ?_ (fun _ =>?_)
theorem r05_With.mono:∀ a0 a1 k,LeO (r05_With.f k a0 a1) (r05_With.f (k + 1) a0 a1):=by
 intro a0 a1 k
 obtain ⟨ih0,ih1⟩:=r05_With.a3E k
 unfold r05_With.f
 repeat' first
   | (with_reducible exact ih0 _ _ _ _ _)
   | (with_reducible exact ih1 _ _ _ _ _ _)
   | (with_reducible exact LeO.refl _)
   | (with_reducible exact LeO.none _)
   | (with_reducible refine LeO.ite ?_ ?_)
   | (with_reducible refine LeO.bind ?_ (fun _ =>?_))
   | exact ih0 _ _ _ _ _
   | exact ih1 _ _ _ _ _ _
   | exact LeO.none _
   | refine LeO.ite ?_ ?_
   | refine LeO.bind ?_ (fun _ =>?_)
set_option maxHeartbeats 8000000 in
set_option maxRecDepth 100000 in
theorem r05_With.calls (k:Nat) (A0:Option Addr) (c0:Nat) (l0:List ByteArray) (a1:ByteArray) (r:List ByteArray) (w:World) (hr0:Kd.C Kd.string w A0 l0.length l0) (hc0:l0.length≤c0) (h:r05_With.f k l0 a1 = some r) :
    Calls Try.prog 19 #[.slice A0 l0.length c0,.string a1] w fun e w' =>∃ v0_:Value,e = .returned (v0_)∧Kd.R Kd.string 9 w' w.heap.size (fun _ =>True) v0_ r∧Below w.heap.size w w':=by
 have HR0:=a0A.mk hr0
 have HC0:=a0A.mk hc0
 clear hr0 hc0
 have HB:=a0A.mk (Below.refl w.heap.size w)
 have H:(r05_With.l0 k l0 a1 (([]:List ByteArray)) (a1.toList == ([]:List UInt8)) 0) = some r:=h
 clear h
 obtain ⟨y166,hy166⟩:∃ y_:List ByteArray,y_ = (([]:List ByteArray)):=⟨_,rfl⟩
 replace H:(r05_With.l0 k l0 a1 y166 (a1.toList == ([]:List UInt8)) 0) = some r:=by first | (rw [hy166];with_reducible exact H) | (have H2_:=(Option.bind_some _ _).symm.trans H;rw [hy166];with_reducible exact H2_) | (have H2_:=(Option.bind_some _ _).symm.trans H;with_reducible exact H2_) | with_reducible exact H | (rw [hy166];exact H) | exact H
 have Ny166:=a0A.mk hy166
 clear hy166
 have H':=a0A.mk H
 clear H
 go_enter Try.func19,Try.ntmps19
 go_wp2_with (first | ((with_reducible refine a1C (N:=8) rfl ?_);refine Kd.b4F Kd.string _ 9 ?hg (N:=8) ?hd (xs:=([]:List ByteArray)) (inner:=[]) (ok:=fun _ =>True) (okp:=fun _ =>True) ?hr ?hp (fun _ hk =>hk) trivial (Below.refl _ _) (Nat.le_refl _) (by simp) ?_;(case hd =>rfl);(case hg =>rfl);(case hr =>first | (go_simp;done) | (go_simp;rfl));(case hp =>exact (Reps.none _ _));intro v167 w3 ho4 hb hg_ hnew_;clear hg_ hnew_;(first | rw [← Ny166.out] at ho4 | (simp only [Int.reduceToNat] at ho4;rw [← Ny166.out] at ho4));have bD:=a0A.mk (Kd.a2Y ho4 (a0V (by repeat (first | (with_reducible first | exact HB.out | apply a0D | apply a0B | apply a0E) | exact HB.out))));have bE:=a0A.mk (a0H (by repeat (first | (with_reducible first | exact HB.out | apply a0D | apply a0B | apply a0E) | exact HB.out)) hb);clear HB;have HO168:=bD;have HB:=bE;clear bD bE;clear hb ho4))
 go_loopg [5,6,7] k (fun kq v5 v6 v7 w' =>∃ (aW:List ByteArray) (mZ:Bool) (aG:Int),v6 = .bool mZ∧v7 = .int .i64 aG∧a0A (r05_With.l0 kq l0 a1 aW mZ aG = some r)∧a0A (kq≤k)∧a0A (Kd.R Kd.string 9 w' w.heap.size (fun _ =>True) v5 aW)∧a0A (Below w.heap.size w w'))
 case atStart =>exact ⟨(y166),((a1.toList == ([]:List UInt8))),(0),(by first | rfl | (simp;done) | (simp [*];done)),(by first | rfl | (simp;done) | (simp [*];done)),H',⟨Nat.le_refl _⟩,⟨by (with_reducible repeat (first | apply Kd.a1N | apply Kd.a1M | apply Kd.a1S));exact HO168.out⟩,⟨by repeat (first | (with_reducible first | exact HB.out | apply a0D | apply a0B | apply a0E) | exact HB.out)⟩⟩
 case round =>
  clear H'
  try clear c1
  try clear p2
  obtain ⟨aW,mZ,aG,rfl,rfl,HA,HK1,aD,HB⟩:=hrel
  cases gk with
  | zero =>exact absurd HA.out (by simp [r05_With.l0])
  | succ k1 =>
   have H:=HA.out
   clear HA
   simp only [r05_With.l0] at H
   by_cases c5:aG < (l0.length:Int)
   ·rw [if_pos c5] at H
    have c5b0:decide (aG < (l0.length:Int)) = true:=decide_eq_true c5
    clear c5
    have HC6:=a0A.mk H
    clear H
    go_upto_region 6 with (fail)
    go_cut [26] (fun v26 wc =>∃ (kq:Nat) (rO:Bool),v26 = .bool rO∧a0A (r05_With.j1 kq l0 a1 aW mZ aG rO = some r)∧a0A (kq≤k1)∧a0A (Kd.R Kd.string 9 wc w.heap.size (fun _ =>True) u5 aW)∧a0A (Below w.heap.size w wc))
    case first =>
     have H:=HC6.out
     clear HC6
     by_cases c7:mZ = true
     ·subst c7
      have H1:(r05_With.j1 k1 l0 a1 aW true aG false) = some r:=by rw [if_pos rfl] at H;exact H
      clear H
      have H:=H1
      clear H1
      have H':=a0A.mk H
      clear H
      go_wp2
      go_meet
      case rel =>exact ⟨_,(false),(by first | rfl | (simp;done) | (simp [*];done)),H',⟨by have:=HK1.out;first | omega | exact Nat.le_refl _⟩,⟨by (with_reducible repeat (first | apply Kd.a1N | apply Kd.a1M | apply Kd.a1S));exact aD.out⟩,⟨by repeat (first | (with_reducible first | exact HB.out | apply a0D | apply a0B | apply a0E) | exact HB.out)⟩⟩
     ·replace c7:=Bool.eq_false_iff.mpr c7
      subst c7
      have H1:(if 0≤aG then (r05_With.j1 k1 l0 a1 aW false aG (!(Op.bytesLess ((rdOf ByteArray.empty l0 aG).toList) a1.toList))) else (none)) = some r:=by rw [if_neg (show ¬ (false = true) by decide)] at H;exact H
      clear H
      have H:=H1
      clear H1
      by_cases c8:0≤aG
      ·rw [if_pos c8] at H
       have c8b0:decide (0≤aG) = true:=decide_eq_true c8
       clear c8
       (first | rw [c8b0] | (simp only [a0X,a0Y];rw [c8b0]) | skip)
       have H':=a0A.mk H
       clear H
       have p172:0≤(aG:Int):=of_decide_eq_true (by first | (with_reducible assumption) | assumption)
       have q172:aG < (l0.length:Int):=of_decide_eq_true (by first | (with_reducible assumption) | assumption)
       obtain ⟨ad172,e172,nA⟩:=Kd.a2D HR0.out aG p172 q172
       cases e172
       replace nA:=a0C HB.out nA
       replace p172:=eq_true p172
       replace q172:=eq_true q172
       go_wp2
       go_meet
       case rel =>exact ⟨_,(!(Op.bytesLess ((rdOf ByteArray.empty l0 aG).toList) a1.toList)),(by first | rfl | (simp;done) | (simp [*];done)),H',⟨by have:=HK1.out;first | omega | exact Nat.le_refl _⟩,⟨by (with_reducible repeat (first | apply Kd.a1N | apply Kd.a1M | apply Kd.a1S));exact aD.out⟩,⟨by repeat (first | (with_reducible first | exact HB.out | apply a0D | apply a0B | apply a0E) | exact HB.out)⟩⟩
      ·rw [if_neg c8] at H
       exact absurd H (by simp)
    case rest =>
     clear HC6
     try clear c1
     try clear p1
     try clear q1
     try clear hx1
     try clear p2
     try clear c5
     try clear c5b0
     try clear c7
     try clear c8
     try clear c8b0
     try clear nA
     try clear p172
     try clear p2
     try clear q172
     obtain ⟨kq,rO,rfl,HA,HJ5,aD,HB⟩:=hcut
     cases kq with
     | zero =>exact absurd HA.out (by simp [r05_With.j1])
     | succ kj5 =>
      have H:=HA.out
      clear HA
      simp only [r05_With.j1] at H
      by_cases c9:rO = true
      ·subst c9
       have H1:(if 0≤aG then (if aG < (l0.length:Int) then (if (Op.bytesLess a1.toList ((rdOf ByteArray.empty l0 aG).toList)) = true then (if aW.length < 8796093022208 then ((some (aW ++ [a1]:List ByteArray)).bind fun y174 =>(if y174.length < 8796093022208 then (r05_With.l0 kj5 l0 a1 (y174 ++ [rdOf ByteArray.empty l0 aG]) true (wrap64 (aG + 1))) else (none))) else (none)) else (if aW.length < 8796093022208 then (r05_With.l0 kj5 l0 a1 (aW ++ [rdOf ByteArray.empty l0 aG]) true (wrap64 (aG + 1))) else (none))) else (none)) else (none)) = some r:=by rw [if_pos rfl] at H;exact H
       clear H
       have H:=H1
       clear H1
       by_cases c10:0≤aG
       ·rw [if_pos c10] at H
        have c10b0:decide (0≤aG) = true:=decide_eq_true c10
        clear c10
        by_cases c11:aG < (l0.length:Int)
        ·rw [if_pos c11] at H
         have c11b0:decide (aG < (l0.length:Int)) = true:=decide_eq_true c11
         clear c11
         by_cases c12:(Op.bytesLess a1.toList ((rdOf ByteArray.empty l0 aG).toList)) = true
         ·rw [if_pos c12] at H
          have c12b0:(Op.bytesLess a1.toList ((rdOf ByteArray.empty l0 aG).toList)) = true:=c12
          clear c12
          by_cases c13:aW.length < 8796093022208
          ·rw [if_pos c13] at H
           have LMc13:=a0A.mk c13
           clear c13
           obtain ⟨y174,hy174⟩:∃ y_:List ByteArray,y_ = (aW ++ [a1]):=⟨_,rfl⟩
           replace H:(if y174.length < 8796093022208 then (r05_With.l0 kj5 l0 a1 (y174 ++ [rdOf ByteArray.empty l0 aG]) true (wrap64 (aG + 1))) else (none)) = some r:=by first | (rw [hy174];with_reducible exact H) | (have H2_:=(Option.bind_some _ _).symm.trans H;rw [hy174];with_reducible exact H2_) | (have H2_:=(Option.bind_some _ _).symm.trans H;with_reducible exact H2_) | with_reducible exact H | (rw [hy174];exact H) | exact H
           have Ny174:=a0A.mk hy174
           clear hy174
           by_cases c14:y174.length < 8796093022208
           ·rw [if_pos c14] at H
            have LMc14:=a0A.mk c14
            clear c14
            obtain ⟨y178,hy178⟩:∃ y_:List ByteArray,y_ = (y174 ++ [rdOf ByteArray.empty l0 aG]):=⟨_,rfl⟩
            replace H:(r05_With.l0 kj5 l0 a1 y178 true (wrap64 (aG + 1))) = some r:=by first | (rw [hy178];with_reducible exact H) | (have H2_:=(Option.bind_some _ _).symm.trans H;rw [hy178];with_reducible exact H2_) | (have H2_:=(Option.bind_some _ _).symm.trans H;with_reducible exact H2_) | with_reducible exact H | (rw [hy178];exact H) | exact H
            have Ny178:=a0A.mk hy178
            clear hy178
            have H':=a0A.mk H
            clear H
            have p173:0≤(aG:Int):=of_decide_eq_true (by first | (with_reducible assumption) | assumption)
            have q173:aG < (l0.length:Int):=of_decide_eq_true (by first | (with_reducible assumption) | assumption)
            obtain ⟨ad173,e173,gJ⟩:=Kd.a2D HR0.out aG p173 q173
            cases e173
            replace gJ:=a0C HB.out gJ
            replace p173:=eq_true p173
            replace q173:=eq_true q173
            go_wp2_with (first | ((with_reducible refine a2C (b:=.append) (xs:=#[.tmp 33,.tmp 35]) rfl ?_);at_builtin;refine Kd.a4G Kd.string (w0:=w) w.heap.size rfl (.tmp 33) (.tmp 35) 28 9 (.string ⟨#[]⟩) 16 rfl Try.underlying28 b1K rfl (by decide) (by omega) u5 aW a1 [.string a1] (fun _ =>True) (fun _ =>False) rfl rfl ?aP (fun _ hk =>hk.elim) ?aF ?aO ?aB ?aS ?aL ?_;(case aP =>exact rfl);(case aB =>exact (by repeat (first | (with_reducible first | exact HB.out | apply a0D | apply a0B | apply a0E) | exact HB.out)));(case aF =>exact (fun _ _ =>trivial));(case aO =>exact (by (with_reducible repeat (first | apply Kd.a1N | apply Kd.a1M | apply Kd.a1S));exact aD.out));(case aS =>exact (a0V (by repeat (first | (with_reducible first | exact HB.out | apply a0D | apply a0B | apply a0E) | exact HB.out))));(case aL =>have:=LMc13.out;omega);intro v175 w15 ho hb hg hat;rw [← Ny174.out] at ho;have bD:=a0A.mk (hb);have bE:=a0A.mk (ho);clear HB;clear aD;have HB:=bD;have HO176:=bE;clear bD bE;clear ho hb hg hat;have p177:0≤(aG:Int):=of_decide_eq_true (by first | (with_reducible assumption) | assumption);have q177:aG < (l0.length:Int):=of_decide_eq_true (by first | (with_reducible assumption) | assumption);obtain ⟨ad177,e177,rP⟩:=Kd.a2D HR0.out aG p177 q177;obtain rfl:ad173 = ad177:=(by injection e177);replace rP:=a0C HB.out rP;replace p177:=eq_true p177;replace q177:=eq_true q177) | ((with_reducible refine a2C (b:=.append) (xs:=#[.tmp 37,.tmp 42]) rfl ?_);at_builtin;refine Kd.a4G Kd.string (w0:=w) w.heap.size rfl (.tmp 37) (.tmp 42) 28 9 (.string ⟨#[]⟩) 16 rfl Try.underlying28 b1K rfl (by decide) (by omega) v175 y174 (rdOf ByteArray.empty l0 aG) [.string (rdOf ByteArray.empty l0 aG)] (fun _ =>True) (fun _ =>False) rfl rfl ?aP (fun _ hk =>hk.elim) ?aF ?aO ?aB ?aS ?aL ?_;(case aP =>exact rfl);(case aB =>exact (by repeat (first | (with_reducible first | exact HB.out | apply a0D | apply a0B | apply a0E) | exact HB.out)));(case aF =>exact (fun _ _ =>trivial));(case aO =>exact (by (with_reducible repeat (first | apply Kd.a1N | apply Kd.a1M | apply Kd.a1S));exact HO176.out));(case aS =>exact (a0V (by repeat (first | (with_reducible first | exact HB.out | apply a0D | apply a0B | apply a0E) | exact HB.out))));(case aL =>have:=LMc14.out;omega);intro v179 w16 ho hb hg hat;rw [← Ny178.out] at ho;have bD:=a0A.mk (hb);have bE:=a0A.mk (ho);clear HB;clear HO176;have HB:=bD;have HO180:=bE;clear bD bE;clear ho hb hg hat))
            go_roundg kj5
            case measure =>have:=HK1.out;have:=HJ5.out;omega
            case rel =>exact ⟨(y178),(true),(wrap64 (aG + 1)),(by first | rfl | (simp;done) | (simp [*];done)),(by first | rfl | (simp;done) | (simp [*];done)),H',⟨by have:=HK1.out;have:=HJ5.out;omega⟩,⟨by (with_reducible repeat (first | apply Kd.a1N | apply Kd.a1M | apply Kd.a1S));exact HO180.out⟩,⟨by repeat (first | (with_reducible first | exact HB.out | apply a0D | apply a0B | apply a0E) | exact HB.out)⟩⟩
           ·rw [if_neg c14] at H
            exact absurd H (by simp)
          ·rw [if_neg c13] at H
           exact absurd H (by simp)
         ·rw [if_neg c12] at H
          have c12b0:(Op.bytesLess a1.toList ((rdOf ByteArray.empty l0 aG).toList)) = false:=by simpa using c12
          clear c12
          by_cases c17:aW.length < 8796093022208
          ·rw [if_pos c17] at H
           have LMc17:=a0A.mk c17
           clear c17
           obtain ⟨y182,hy182⟩:∃ y_:List ByteArray,y_ = (aW ++ [rdOf ByteArray.empty l0 aG]):=⟨_,rfl⟩
           replace H:(r05_With.l0 kj5 l0 a1 y182 true (wrap64 (aG + 1))) = some r:=by first | (rw [hy182];with_reducible exact H) | (have H2_:=(Option.bind_some _ _).symm.trans H;rw [hy182];with_reducible exact H2_) | (have H2_:=(Option.bind_some _ _).symm.trans H;with_reducible exact H2_) | with_reducible exact H | (rw [hy182];exact H) | exact H
           have Ny182:=a0A.mk hy182
           clear hy182
           have H':=a0A.mk H
           clear H
           have p173:0≤(aG:Int):=of_decide_eq_true (by first | (with_reducible assumption) | assumption)
           have q173:aG < (l0.length:Int):=of_decide_eq_true (by first | (with_reducible assumption) | assumption)
           obtain ⟨ad173,e173,gJ⟩:=Kd.a2D HR0.out aG p173 q173
           cases e173
           replace gJ:=a0C HB.out gJ
           replace p173:=eq_true p173
           replace q173:=eq_true q173
           have p181:0≤(aG:Int):=of_decide_eq_true (by first | (with_reducible assumption) | assumption)
           have q181:aG < (l0.length:Int):=of_decide_eq_true (by first | (with_reducible assumption) | assumption)
           obtain ⟨ad181,e181,rQ⟩:=Kd.a2D HR0.out aG p181 q181
           obtain rfl:ad173 = ad181:=(by injection e181)
           replace rQ:=a0C HB.out rQ
           replace p181:=eq_true p181
           replace q181:=eq_true q181
           go_wp2_with (first | ((with_reducible refine a2C (b:=.append) (xs:=#[.tmp 37,.tmp 42]) rfl ?_);at_builtin;refine Kd.a4G Kd.string (w0:=w) w.heap.size rfl (.tmp 37) (.tmp 42) 28 9 (.string ⟨#[]⟩) 16 rfl Try.underlying28 b1K rfl (by decide) (by omega) u5 aW (rdOf ByteArray.empty l0 aG) [.string (rdOf ByteArray.empty l0 aG)] (fun _ =>True) (fun _ =>False) rfl rfl ?aP (fun _ hk =>hk.elim) ?aF ?aO ?aB ?aS ?aL ?_;(case aP =>exact rfl);(case aB =>exact (by repeat (first | (with_reducible first | exact HB.out | apply a0D | apply a0B | apply a0E) | exact HB.out)));(case aF =>exact (fun _ _ =>trivial));(case aO =>exact (by (with_reducible repeat (first | apply Kd.a1N | apply Kd.a1M | apply Kd.a1S));exact aD.out));(case aS =>exact (a0V (by repeat (first | (with_reducible first | exact HB.out | apply a0D | apply a0B | apply a0E) | exact HB.out))));(case aL =>have:=LMc17.out;omega);intro v183 w18 ho hb hg hat;rw [← Ny182.out] at ho;have bD:=a0A.mk (hb);have bE:=a0A.mk (ho);clear HB;clear aD;have HB:=bD;have HO184:=bE;clear bD bE;clear ho hb hg hat))
           go_roundg kj5
           case measure =>have:=HK1.out;have:=HJ5.out;omega
           case rel =>exact ⟨(y182),(true),(wrap64 (aG + 1)),(by first | rfl | (simp;done) | (simp [*];done)),(by first | rfl | (simp;done) | (simp [*];done)),H',⟨by have:=HK1.out;have:=HJ5.out;omega⟩,⟨by (with_reducible repeat (first | apply Kd.a1N | apply Kd.a1M | apply Kd.a1S));exact HO184.out⟩,⟨by repeat (first | (with_reducible first | exact HB.out | apply a0D | apply a0B | apply a0E) | exact HB.out)⟩⟩
          ·rw [if_neg c17] at H
           exact absurd H (by simp)
        ·rw [if_neg c11] at H
         exact absurd H (by simp)
       ·rw [if_neg c10] at H
        exact absurd H (by simp)
      ·replace c9:=Bool.eq_false_iff.mpr c9
       subst c9
       have H1:(if 0≤aG then (if aG < (l0.length:Int) then (if aW.length < 8796093022208 then (r05_With.l0 kj5 l0 a1 (aW ++ [rdOf ByteArray.empty l0 aG]) mZ (wrap64 (aG + 1))) else (none)) else (none)) else (none)) = some r:=by rw [if_neg (show ¬ (false = true) by decide)] at H;exact H
       clear H
       have H:=H1
       clear H1
       by_cases c19:0≤aG
       ·rw [if_pos c19] at H
        have c19b0:decide (0≤aG) = true:=decide_eq_true c19
        clear c19
        by_cases c20:aG < (l0.length:Int)
        ·rw [if_pos c20] at H
         have c20b0:decide (aG < (l0.length:Int)) = true:=decide_eq_true c20
         clear c20
         by_cases c21:aW.length < 8796093022208
         ·rw [if_pos c21] at H
          have LMc21:=a0A.mk c21
          clear c21
          obtain ⟨y186,hy186⟩:∃ y_:List ByteArray,y_ = (aW ++ [rdOf ByteArray.empty l0 aG]):=⟨_,rfl⟩
          replace H:(r05_With.l0 kj5 l0 a1 y186 mZ (wrap64 (aG + 1))) = some r:=by first | (rw [hy186];with_reducible exact H) | (have H2_:=(Option.bind_some _ _).symm.trans H;rw [hy186];with_reducible exact H2_) | (have H2_:=(Option.bind_some _ _).symm.trans H;with_reducible exact H2_) | with_reducible exact H | (rw [hy186];exact H) | exact H
          have Ny186:=a0A.mk hy186
          clear hy186
          have H':=a0A.mk H
          clear H
          have p185:0≤(aG:Int):=of_decide_eq_true (by first | (with_reducible assumption) | assumption)
          have q185:aG < (l0.length:Int):=of_decide_eq_true (by first | (with_reducible assumption) | assumption)
          obtain ⟨ad185,e185,rR⟩:=Kd.a2D HR0.out aG p185 q185
          cases e185
          replace rR:=a0C HB.out rR
          replace p185:=eq_true p185
          replace q185:=eq_true q185
          go_wp2_with (first | ((with_reducible refine a2C (b:=.append) (xs:=#[.tmp 37,.tmp 42]) rfl ?_);at_builtin;refine Kd.a4G Kd.string (w0:=w) w.heap.size rfl (.tmp 37) (.tmp 42) 28 9 (.string ⟨#[]⟩) 16 rfl Try.underlying28 b1K rfl (by decide) (by omega) u5 aW (rdOf ByteArray.empty l0 aG) [.string (rdOf ByteArray.empty l0 aG)] (fun _ =>True) (fun _ =>False) rfl rfl ?aP (fun _ hk =>hk.elim) ?aF ?aO ?aB ?aS ?aL ?_;(case aP =>exact rfl);(case aB =>exact (by repeat (first | (with_reducible first | exact HB.out | apply a0D | apply a0B | apply a0E) | exact HB.out)));(case aF =>exact (fun _ _ =>trivial));(case aO =>exact (by (with_reducible repeat (first | apply Kd.a1N | apply Kd.a1M | apply Kd.a1S));exact aD.out));(case aS =>exact (a0V (by repeat (first | (with_reducible first | exact HB.out | apply a0D | apply a0B | apply a0E) | exact HB.out))));(case aL =>have:=LMc21.out;omega);intro v187 w22 ho hb hg hat;rw [← Ny186.out] at ho;have bD:=a0A.mk (hb);have bE:=a0A.mk (ho);clear HB;clear aD;have HB:=bD;have HO188:=bE;clear bD bE;clear ho hb hg hat))
          go_roundg kj5
          case measure =>have:=HK1.out;have:=HJ5.out;omega
          case rel =>exact ⟨(y186),(mZ),(wrap64 (aG + 1)),(by first | rfl | (simp;done) | (simp [*];done)),(by first | rfl | (simp;done) | (simp [*];done)),H',⟨by have:=HK1.out;have:=HJ5.out;omega⟩,⟨by (with_reducible repeat (first | apply Kd.a1N | apply Kd.a1M | apply Kd.a1S));exact HO188.out⟩,⟨by repeat (first | (with_reducible first | exact HB.out | apply a0D | apply a0B | apply a0E) | exact HB.out)⟩⟩
         ·rw [if_neg c21] at H
          exact absurd H (by simp)
        ·rw [if_neg c20] at H
         exact absurd H (by simp)
       ·rw [if_neg c19] at H
        exact absurd H (by simp)
   ·rw [if_neg c5] at H
    have c5b0:decide (aG < (l0.length:Int)) = false:=decide_eq_false c5
    clear c5
    by_cases c23:mZ = true
    ·subst c23
     have H1:(some aW) = some r:=by rw [if_pos rfl] at H;exact H
     clear H
     have H:=H1
     clear H1
     obtain rfl:=Option.some.inj H
     go_wp2
     go_ret
     exact ⟨_,by first | rfl | (simp [a0T,a0S] <;> rfl) | (simp [*,a0T,a0S] <;> rfl),by (with_reducible repeat (first | apply Kd.a1N | apply Kd.a1M | apply Kd.a1S));exact aD.out,by repeat (first | (with_reducible first | exact HB.out | apply a0D | apply a0B | apply a0E) | exact HB.out)⟩
    ·replace c23:=Bool.eq_false_iff.mpr c23
     subst c23
     have H1:(if aW.length < 8796093022208 then (some (aW ++ [a1])) else (none)) = some r:=by rw [if_neg (show ¬ (false = true) by decide)] at H;exact H
     clear H
     have H:=H1
     clear H1
     by_cases c24:aW.length < 8796093022208
     ·rw [if_pos c24] at H
      have LMc24:=a0A.mk c24
      clear c24
      obtain ⟨y169,hy169⟩:∃ y_:List ByteArray,y_ = (aW ++ [a1]):=⟨_,rfl⟩
      replace H:(some y169) = some r:=by first | (rw [hy169];with_reducible exact H) | (have H2_:=(Option.bind_some _ _).symm.trans H;rw [hy169];with_reducible exact H2_) | (have H2_:=(Option.bind_some _ _).symm.trans H;with_reducible exact H2_) | with_reducible exact H | (rw [hy169];exact H) | exact H
      have Ny169:=a0A.mk hy169
      clear hy169
      obtain rfl:=Option.some.inj H
      go_wp2_with (first | ((with_reducible refine a2C (b:=.append) (xs:=#[.tmp 46,.tmp 48]) rfl ?_);at_builtin;refine Kd.a4G Kd.string (w0:=w) w.heap.size rfl (.tmp 46) (.tmp 48) 28 9 (.string ⟨#[]⟩) 16 rfl Try.underlying28 b1K rfl (by decide) (by omega) u5 aW a1 [.string a1] (fun _ =>True) (fun _ =>False) rfl rfl ?aP (fun _ hk =>hk.elim) ?aF ?aO ?aB ?aS ?aL ?_;(case aP =>exact rfl);(case aB =>exact (by repeat (first | (with_reducible first | exact HB.out | apply a0D | apply a0B | apply a0E) | exact HB.out)));(case aF =>exact (fun _ _ =>trivial));(case aO =>exact (by (with_reducible repeat (first | apply Kd.a1N | apply Kd.a1M | apply Kd.a1S));exact aD.out));(case aS =>exact (a0V (by repeat (first | (with_reducible first | exact HB.out | apply a0D | apply a0B | apply a0E) | exact HB.out))));(case aL =>have:=LMc24.out;omega);intro v170 w25 ho hb hg hat;rw [← Ny169.out] at ho;have bD:=a0A.mk (hb);have bE:=a0A.mk (ho);clear HB;clear aD;have HB:=bD;have HO171:=bE;clear bD bE;clear ho hb hg hat))
      go_ret
      exact ⟨_,by first | rfl | (simp [a0T,a0S] <;> rfl) | (simp [*,a0T,a0S] <;> rfl),by (with_reducible repeat (first | apply Kd.a1N | apply Kd.a1M | apply Kd.a1S));exact HO171.out,by repeat (first | (with_reducible first | exact HB.out | apply a0D | apply a0B | apply a0E) | exact HB.out)⟩
     ·rw [if_neg c24] at H
      exact absurd H (by simp)
mutual
def r04_List.l0:Nat→List (S46)→List (S46)→Int→Option ((List (S46)))
 | 0,_,_,_ =>none
 | k + 1,x0,x3,x4 =>if x4 < (x0.length:Int) then (if 0≤x4 then (if x3.length < 925904528653 then ((some (x3 ++ [(⟨(a0J x0 x4).f0,(a0J x0 x4).f1,(a0J x0 x4).f2,(a0J x0 x4).f3,(a0J x0 x4).f4,(a0J x0 x4).f5,(a0J x0 x4).f6,(a0J x0 x4).f7⟩:S46)]:List (S46))).bind fun y193 =>((r04_List.f k ((a0J x0 x4).f6)).bind fun t197 =>(if y193.length + t197.length < 925904528653 then ((some (y193 ++ t197:List (S46))).bind fun y200 =>((r04_List.f k ((a0J x0 x4).f7)).bind fun t204 =>(if y200.length + t204.length < 925904528653 then (r04_List.l0 k x0 (y200 ++ t204) (wrap64 (x4 + 1))) else (none)))) else (none)))) else (none)) else (none)) else (some x3)
def r04_List.f:Nat→List (S46)→Option ((List (S46)))
 | 0,_ =>none
 | k + 1,l0 =>r04_List.l0 k l0 (([]:List (S46))) 0
end
theorem r04_List.a3E:∀ k,(∀ y0,LeO (r04_List.f k y0) (r04_List.f (k + 1) y0))∧(∀ y0 y1 y2,LeO (r04_List.l0 k y0 y1 y2) (r04_List.l0 (k + 1) y0 y1 y2))
 | 0 =>⟨fun _ r h =>by simp [r04_List.f] at h,fun _ _ _ r h =>by simp [r04_List.l0] at h⟩
 | k + 1 =>by
  obtain ⟨ih0,ih1⟩:=r04_List.a3E k
  refine ⟨?_,?_⟩
  ·intro y0
   unfold r04_List.f
   repeat' first
   | (with_reducible exact ih0 _)
   | (with_reducible exact ih1 _ _ _)
   | (with_reducible exact LeO.refl _)
   | (with_reducible exact LeO.none _)
   | (with_reducible refine LeO.ite ?_ ?_)
   | (with_reducible refine LeO.bind ?_ (fun _ =>?_))
   | exact ih0 _
   | exact ih1 _ _ _
   | exact LeO.none _
   | refine LeO.ite ?_ ?_
   | refine LeO.bind ?_ (fun _ =>?_)
  ·intro y0 y1 y2
   unfold r04_List.l0
   repeat' first
   | (with_reducible exact ih0 _)
   | (with_reducible exact ih1 _ _ _)
   | (with_reducible exact LeO.refl _)
   | (with_reducible exact LeO.none _)
   | (with_reducible refine LeO.ite ?_ ?_)
   | (with_reducible refine LeO.bind ?_ (fun _ =>?_))
   | exact ih0 _
   | exact ih1 _ _ _
   | exact LeO.none _
   | refine LeO.ite ?_ ?_
   | refine LeO.bind ?_ (fun _ =>?_)
theorem r04_List.mono:∀ a0 k,LeO (r04_List.f k a0) (r04_List.f (k + 1) a0):=by
 intro a0 k
 obtain ⟨ih0,ih1⟩:=r04_List.a3E k
 exact ih0 a0
set_option maxHeartbeats 8000000 in
set_option maxRecDepth 100000 in
theorem r04_List.calls (k:Nat):∀ (P0_:Nat→Prop) (A0:Option Addr) (c0:Nat) (l0:List (S46)) (r:List (S46)) (w:World) (hs0:Kd.V k46 46 w w.heap.size (fun k_ =>P0_ k_) (.slice A0 l0.length c0) l0) (h:r04_List.f k l0 = some r),
    Calls Try.prog 28 #[.slice A0 l0.length c0] w fun e w' =>∃ v0_:Value,e = .returned (v0_)∧Kd.N k46 46 w' w.heap.size (fun k_ =>(P0_ k_∨w.heap.size≤k_)) v0_ r∧Below w.heap.size w w':=by
 induction k using Nat.strongRecOn with
 | _ k ih =>
 intro P0_ A0 c0 l0 r w hs0 h
 cases k with
 | zero =>exact absurd h (by simp [r04_List.f])
 | succ k =>
 simp only [r04_List.f] at h
 have hu46:=Try.underlying46
 have HO0:=a0A.mk (show Kd.V k46 46 w w.heap.size (fun k_ =>(P0_ k_∨w.heap.size≤k_)) (.slice A0 l0.length c0) l0 from Kd.a2P hs0 (fun k_ hk =>.inl hk))
 have HB:=a0A.mk (Below.refl w.heap.size w)
 have H:(r04_List.l0 k l0 (([]:List (S46))) 0) = some r:=h
 clear h
 obtain ⟨y189,hy189⟩:∃ y_:List (S46),y_ = (([]:List (S46))):=⟨_,rfl⟩
 replace H:(r04_List.l0 k l0 y189 0) = some r:=by first | (rw [hy189];with_reducible exact H) | (have H2_:=(Option.bind_some _ _).symm.trans H;rw [hy189];with_reducible exact H2_) | (have H2_:=(Option.bind_some _ _).symm.trans H;with_reducible exact H2_) | with_reducible exact H | (rw [hy189];exact H) | exact H
 have Ny189:=a0A.mk hy189
 clear hy189
 have H':=a0A.mk H
 clear H
 go_enter Try.func28,Try.ntmps28
 go_wp2_with (first | ((with_reducible refine a1C (N:=5) rfl ?_);refine Kd.N_lit k46 _ 46 ?hg (N':=5) ?hd (xs:=([]:List (S46))) (inner:=[]) (ok:=(fun k_ =>(P0_ k_∨w.heap.size≤k_))) (okp:=(fun k_ =>(P0_ k_∨w.heap.size≤k_))) ?hr ?hp (fun _ hk =>hk) ((show ∀ k_,w.heap.size≤k_→(fun k_ =>(P0_ k_∨w.heap.size≤k_)) k_ from fun k_ hk =>(.inr (Nat.le_trans (a0V (by repeat (first | (with_reducible first | exact HB.out | apply a0D | apply a0B | apply a0E) | exact HB.out))) hk))) _ (Nat.le_refl _)) (Below.refl _ _) (Nat.le_refl _) (by simp) ?_;(case hd =>rfl);(case hg =>rfl);(case hr =>first | (go_simp;done) | (go_simp;rfl));(case hp =>exact (Reps.none _ _));intro v190 w2 ho3 hb hg_ hnew_;clear hg_ hnew_;(first | rw [← Ny189.out] at ho3 | (simp only [Int.reduceToNat] at ho3;rw [← Ny189.out] at ho3));have bD:=a0A.mk (Kd.a1I (by (with_reducible repeat (first | apply Kd.a1G | apply Kd.a1F | apply Kd.a1J));exact HO0.out) (Kd.a2V ho3) hb);have bE:=a0A.mk (Kd.a7P ho3 (a0V (by repeat (first | (with_reducible first | exact HB.out | apply a0D | apply a0B | apply a0E) | exact HB.out))));have bT:=a0A.mk (a0H (by repeat (first | (with_reducible first | exact HB.out | apply a0D | apply a0B | apply a0E) | exact HB.out)) hb);clear HO0;clear HB;have HO0:=bD;have HO191:=bE;have HB:=bT;clear bD bE bT;clear hb ho3))
 go_loopg [3,4] k (fun kq v3 v4 w' =>∃ (aY:List (S46)) (aC:Int),v4 = .int .i64 aC∧a0A (r04_List.l0 kq l0 aY aC = some r)∧a0A (kq≤k)∧a0A (Kd.V k46 46 w' w.heap.size (fun k_ =>(P0_ k_∨w.heap.size≤k_)∧some k_≠(v3:Value).ownBlock) (.slice A0 l0.length c0) l0)∧a0A (Kd.N k46 46 w' w.heap.size (fun k_ =>(P0_ k_∨w.heap.size≤k_)) v3 aY)∧a0A (Below w.heap.size w w'))
 case atStart =>exact ⟨(y189),(0),(by first | rfl | (simp;done) | (simp [*];done)),H',⟨Nat.le_refl _⟩,⟨by (with_reducible repeat (first | apply Kd.a1G | apply Kd.a1F | apply Kd.a1J));exact HO0.out⟩,⟨by (with_reducible repeat (first | apply Kd.a2A | apply Kd.a1Z | apply Kd.a2I));exact HO191.out⟩,⟨by repeat (first | (with_reducible first | exact HB.out | apply a0D | apply a0B | apply a0E) | exact HB.out)⟩⟩
 case round =>
  clear H'
  try clear c2
  try clear p2
  obtain ⟨aY,aC,rfl,HA,HK1,cH,aE,HB⟩:=hrel
  cases gk with
  | zero =>exact absurd HA.out (by simp [r04_List.l0])
  | succ k1 =>
   have H:=HA.out
   clear HA
   simp only [r04_List.l0] at H
   by_cases c4:aC < (l0.length:Int)
   ·rw [if_pos c4] at H
    have c4b0:decide (aC < (l0.length:Int)) = true:=decide_eq_true c4
    clear c4
    by_cases c5:0≤aC
    ·rw [if_pos c5] at H
     have c5b0:decide (0≤aC) = true:=decide_eq_true c5
     clear c5
     by_cases c6:aY.length < 925904528653
     ·rw [if_pos c6] at H
      have LMc6:=a0A.mk c6
      clear c6
      obtain ⟨y193,hy193⟩:∃ y_:List (S46),y_ = (aY ++ [(⟨(a0J l0 aC).f0,(a0J l0 aC).f1,(a0J l0 aC).f2,(a0J l0 aC).f3,(a0J l0 aC).f4,(a0J l0 aC).f5,(a0J l0 aC).f6,(a0J l0 aC).f7⟩:S46)]):=⟨_,rfl⟩
      replace H:((r04_List.f k1 ((a0J l0 aC).f6)).bind fun t197 =>(if y193.length + t197.length < 925904528653 then ((some (y193 ++ t197:List (S46))).bind fun y200 =>((r04_List.f k1 ((a0J l0 aC).f7)).bind fun t204 =>(if y200.length + t204.length < 925904528653 then (r04_List.l0 k1 l0 (y200 ++ t204) (wrap64 (aC + 1))) else (none)))) else (none))) = some r:=by first | (rw [hy193];with_reducible exact H) | (have H2_:=(Option.bind_some _ _).symm.trans H;rw [hy193];with_reducible exact H2_) | (have H2_:=(Option.bind_some _ _).symm.trans H;with_reducible exact H2_) | with_reducible exact H | (rw [hy193];exact H) | exact H
      have Ny193:=a0A.mk hy193
      clear hy193
      replace H:=Option.bind_eq_some_iff.mp H
      obtain ⟨t197,A70,H⟩:=H
      replace H:(if y193.length + t197.length < 925904528653 then ((some (y193 ++ t197:List (S46))).bind fun y200 =>((r04_List.f k1 ((a0J l0 aC).f7)).bind fun t204 =>(if y200.length + t204.length < 925904528653 then (r04_List.l0 k1 l0 (y200 ++ t204) (wrap64 (aC + 1))) else (none)))) else (none)) = some r:=H
      have A7:=a0A.mk A70
      clear A70
      by_cases c8:y193.length + t197.length < 925904528653
      ·rw [if_pos c8] at H
       have LMc8:=a0A.mk c8
       clear c8
       obtain ⟨y200,hy200⟩:∃ y_:List (S46),y_ = (y193 ++ t197):=⟨_,rfl⟩
       replace H:((r04_List.f k1 ((a0J l0 aC).f7)).bind fun t204 =>(if y200.length + t204.length < 925904528653 then (r04_List.l0 k1 l0 (y200 ++ t204) (wrap64 (aC + 1))) else (none))) = some r:=by first | (rw [hy200];with_reducible exact H) | (have H2_:=(Option.bind_some _ _).symm.trans H;rw [hy200];with_reducible exact H2_) | (have H2_:=(Option.bind_some _ _).symm.trans H;with_reducible exact H2_) | with_reducible exact H | (rw [hy200];exact H) | exact H
       have Ny200:=a0A.mk hy200
       clear hy200
       replace H:=Option.bind_eq_some_iff.mp H
       obtain ⟨t204,A90,H⟩:=H
       replace H:(if y200.length + t204.length < 925904528653 then (r04_List.l0 k1 l0 (y200 ++ t204) (wrap64 (aC + 1))) else (none)) = some r:=H
       have A9:=a0A.mk A90
       clear A90
       by_cases c10:y200.length + t204.length < 925904528653
       ·rw [if_pos c10] at H
        have LMc10:=a0A.mk c10
        clear c10
        obtain ⟨y207,hy207⟩:∃ y_:List (S46),y_ = (y200 ++ t204):=⟨_,rfl⟩
        replace H:(r04_List.l0 k1 l0 y207 (wrap64 (aC + 1))) = some r:=by first | (rw [hy207];with_reducible exact H) | (have H2_:=(Option.bind_some _ _).symm.trans H;rw [hy207];with_reducible exact H2_) | (have H2_:=(Option.bind_some _ _).symm.trans H;with_reducible exact H2_) | with_reducible exact H | (rw [hy207];exact H) | exact H
        have Ny207:=a0A.mk hy207
        clear hy207
        have H':=a0A.mk H
        clear H
        have p192:0≤(aC:Int):=of_decide_eq_true (by first | (with_reducible assumption) | assumption)
        have q192:aC < (l0.length:Int):=of_decide_eq_true (by first | (with_reducible assumption) | assumption)
        obtain ⟨ad192,aP2,aP3,aP4,aP5,aP6,aP7,aP8,aP9,e192,aW7,aW8,aW9,aX0,aH3,aH4,aH5,aH6,rS,rT,rU,rV,rW,rX,rY,rZ⟩:=a3C (Kd.a4J cH.out).2.2 aC p192 q192
        cases e192
        obtain ⟨ce192,aQ0,aQ1,mN⟩:=Kd.V_get cH.out z46 aC p192 (by first | exact q192 | exact of_decide_eq_true (by first | (with_reducible assumption) | assumption) | (have e_:=(Kd.a4J cH.out).1;omega))
        obtain ⟨aX1,aX2,aX3,aX4,aX5,aX6,aX7,aX8,rfl,nB,nC,nD,nE,nG,nH,nI,nJ⟩:=a2H aQ1
        have jU:=mN 4 _ rfl
        rw [a0W _ _ 4 (by omega)] at jU
        replace jU:=Option.some.inj (jU.symm.trans aH3)
        injection jU with hva_ hvn_ hvc_
        rw [hva_] at nC
        rw [hvc_] at nB
        have aZ:=a0A.mk (show Kd.V k56 56 _ w.heap.size _ _ ((a0J l0 aC).f4) from Kd.V_mk nB nC)
        clear hva_ hvn_ hvc_ nC nB
        have jV:=mN 5 _ rfl
        rw [a0W _ _ 5 (by omega)] at jV
        replace jV:=Option.some.inj (jV.symm.trans aH4)
        injection jV with hva_ hvn_ hvc_
        rw [hva_] at nE
        rw [hvc_] at nD
        have bA:=a0A.mk (show Kd.V Kd.string 9 _ w.heap.size _ _ ((a0J l0 aC).f5) from Kd.V_mk nD nE)
        clear hva_ hvn_ hvc_ nE nD
        have jW:=mN 6 _ rfl
        rw [a0W _ _ 6 (by omega)] at jW
        replace jW:=Option.some.inj (jW.symm.trans aH5)
        injection jW with hva_ hvn_ hvc_
        rw [hva_] at nH
        rw [hvc_] at nG
        have bB:=a0A.mk (show Kd.V k46 46 _ w.heap.size _ _ ((a0J l0 aC).f6) from Kd.V_mk nG nH)
        clear hva_ hvn_ hvc_ nH nG
        have jX:=mN 7 _ rfl
        rw [a0W _ _ 7 (by omega)] at jX
        replace jX:=Option.some.inj (jX.symm.trans aH6)
        injection jX with hva_ hvn_ hvc_
        rw [hva_] at nJ
        rw [hvc_] at nI
        have bC:=a0A.mk (show Kd.V k46 46 _ w.heap.size _ _ ((a0J l0 aC).f7) from Kd.V_mk nI nJ)
        clear hva_ hvn_ hvc_ nJ nI
        clear mN aQ0
        have aX9:=a0A.mk rT
        have aY0:=a0A.mk rS
        clear rT rS
        have aY1:=a0A.mk rV
        have aY2:=a0A.mk rU
        clear rV rU
        have aY3:=a0A.mk rX
        have aY4:=a0A.mk rW
        clear rX rW
        have aY5:=a0A.mk rZ
        have aY6:=a0A.mk rY
        clear rZ rY
        replace p192:=eq_true p192
        replace q192:=eq_true q192
        go_wp2_with (first | ((with_reducible refine a2C (b:=.append) (xs:=#[.tmp 12,.tmp 17]) rfl ?_);at_builtin;refine Kd.b0M k46 (w0:=w) w.heap.size rfl (.tmp 12) (.tmp 17) 30 46 (.agg #[(.int .i64 0),(.string ⟨#[]⟩),(.string ⟨#[]⟩),(.string ⟨#[]⟩),(.slice none 0 0),(.slice none 0 0),(.slice none 0 0),(.slice none 0 0)]) 152 rfl Try.underlying30 b3F rfl (by decide) (by omega) u3 aY (⟨(a0J l0 aC).f0,(a0J l0 aC).f1,(a0J l0 aC).f2,(a0J l0 aC).f3,(a0J l0 aC).f4,(a0J l0 aC).f5,(a0J l0 aC).f6,(a0J l0 aC).f7⟩:S46) [.int .i64 ((a0J l0 aC).f0),.string ((a0J l0 aC).f1),.string ((a0J l0 aC).f2),.string ((a0J l0 aC).f3),.slice aP2 ((a0J l0 aC).f4).length aP3,.slice aP4 ((a0J l0 aC).f5).length aP5,.slice aP6 ((a0J l0 aC).f6).length aP7,.slice aP8 ((a0J l0 aC).f7).length aP9] (fun k_ =>(P0_ k_∨w.heap.size≤k_)) (fun k_ =>((fun k_ =>(P0_ k_∨w.heap.size≤k_))) k_∧some k_≠(u3:Value).ownBlock) rfl rfl ?aP (fun _ hk =>hk) ?aF ?aO ?aB ?aS ?aL ?_;(case aP =>exact (b5M _ _ (⟨(a0J l0 aC).f0,(a0J l0 aC).f1,(a0J l0 aC).f2,(a0J l0 aC).f3,(a0J l0 aC).f4,(a0J l0 aC).f5,(a0J l0 aC).f6,(a0J l0 aC).f7⟩:S46) (Kd.a4J (Kd.a2P (ok':=(fun k_ =>((fun k_ =>(P0_ k_∨w.heap.size≤k_))) k_∧some k_≠(u3:Value).ownBlock)) (aZ.out) (fun k_ hk =>⟨hk.1,hk.2⟩))).2.1 (Kd.V_F (Kd.a2P (ok':=(fun k_ =>((fun k_ =>(P0_ k_∨w.heap.size≤k_))) k_∧some k_≠(u3:Value).ownBlock)) (aZ.out) (fun k_ hk =>⟨hk.1,hk.2⟩))) (Kd.a4J (Kd.a2P (ok':=(fun k_ =>((fun k_ =>(P0_ k_∨w.heap.size≤k_))) k_∧some k_≠(u3:Value).ownBlock)) (bA.out) (fun k_ hk =>⟨hk.1,hk.2⟩))).2.1 (Kd.V_F (Kd.a2P (ok':=(fun k_ =>((fun k_ =>(P0_ k_∨w.heap.size≤k_))) k_∧some k_≠(u3:Value).ownBlock)) (bA.out) (fun k_ hk =>⟨hk.1,hk.2⟩))) (Kd.a4J (Kd.a2P (ok':=(fun k_ =>((fun k_ =>(P0_ k_∨w.heap.size≤k_))) k_∧some k_≠(u3:Value).ownBlock)) (bB.out) (fun k_ hk =>⟨hk.1,hk.2⟩))).2.1 (Kd.V_F (Kd.a2P (ok':=(fun k_ =>((fun k_ =>(P0_ k_∨w.heap.size≤k_))) k_∧some k_≠(u3:Value).ownBlock)) (bB.out) (fun k_ hk =>⟨hk.1,hk.2⟩))) (Kd.a4J (Kd.a2P (ok':=(fun k_ =>((fun k_ =>(P0_ k_∨w.heap.size≤k_))) k_∧some k_≠(u3:Value).ownBlock)) (bC.out) (fun k_ hk =>⟨hk.1,hk.2⟩))).2.1 (Kd.V_F (Kd.a2P (ok':=(fun k_ =>((fun k_ =>(P0_ k_∨w.heap.size≤k_))) k_∧some k_≠(u3:Value).ownBlock)) (bC.out) (fun k_ hk =>⟨hk.1,hk.2⟩)))));(case aB =>exact (by repeat (first | (with_reducible first | exact HB.out | apply a0D | apply a0B | apply a0E) | exact HB.out)));(case aF =>exact (fun k_ hk =>(.inr (Nat.le_trans (a0V (by repeat (first | (with_reducible first | exact HB.out | apply a0D | apply a0B | apply a0E) | exact HB.out))) hk))));(case aO =>exact (by (with_reducible repeat (first | apply Kd.a2A | apply Kd.a1Z | apply Kd.a2I));exact aE.out));(case aS =>exact (a0V (by repeat (first | (with_reducible first | exact HB.out | apply a0D | apply a0B | apply a0E) | exact HB.out))));(case aL =>have:=LMc6.out;omega);intro v194 w11 ho hb hg hat;rw [← Ny193.out] at ho;have bD:=a0A.mk (Kd.a2E (ok:=(fun k_ =>(P0_ k_∨w.heap.size≤k_))) (by (with_reducible repeat (first | apply Kd.a1G | apply Kd.a1F | apply Kd.a1J));exact cH.out) hg hat);have bE:=a0A.mk (Kd.a2E (ok:=(fun k_ =>(P0_ k_∨w.heap.size≤k_))) (by (with_reducible repeat (first | apply Kd.a1G | apply Kd.a1F | apply Kd.a1J));exact aZ.out) hg hat);have bT:=a0A.mk (Kd.a2E (ok:=(fun k_ =>(P0_ k_∨w.heap.size≤k_))) (by (with_reducible repeat (first | apply Kd.a1G | apply Kd.a1F | apply Kd.a1J));exact bA.out) hg hat);have cI:=a0A.mk (Kd.a2E (ok:=(fun k_ =>(P0_ k_∨w.heap.size≤k_))) (by (with_reducible repeat (first | apply Kd.a1G | apply Kd.a1F | apply Kd.a1J));exact bB.out) hg hat);have gK:=a0A.mk (Kd.a2E (ok:=(fun k_ =>(P0_ k_∨w.heap.size≤k_))) (by (with_reducible repeat (first | apply Kd.a1G | apply Kd.a1F | apply Kd.a1J));exact bC.out) hg hat);have gL:=a0A.mk (hb);have gM:=a0A.mk (ho);clear cH;clear aZ;clear bA;clear bB;clear bC;clear HB;clear aE;have cH:=bD;have aZ:=bE;have bA:=bT;have bB:=cI;have bC:=gK;have HB:=gL;have HO195:=gM;clear bD bE bT cI gK gL gM;clear ho hb hg hat;have p196:0≤(aC:Int):=of_decide_eq_true (by first | (with_reducible assumption) | assumption);have q196:aC < (l0.length:Int):=of_decide_eq_true (by first | (with_reducible assumption) | assumption);obtain ⟨ad196,bL9,bM0,bM1,bM2,aQ2,aQ3,bM3,bM4,e196,aY7,aY8,aY9,aZ0,aH7,aH8,aH9,aI0,sA,sB,sC,sD,sE,sF,sG,sH⟩:=a3C (Kd.a4J cH.out).2.2 aC p196 q196;obtain rfl:ad192 = ad196:=(by injection e196);obtain ⟨ce196,aQ4,aQ5,mO⟩:=Kd.V_get cH.out z46 aC p196 (by first | exact q196 | exact of_decide_eq_true (by first | (with_reducible assumption) | assumption) | (have e_:=(Kd.a4J cH.out).1;omega));obtain ⟨aZ1,aZ2,aZ3,aZ4,aZ5,aZ6,aZ7,aZ8,rfl,nK,nL,nM,nN,nO,nP,nQ,nR⟩:=a2H aQ5;have jY:=mO 4 _ rfl;rw [a0W _ _ 4 (by omega)] at jY;replace jY:=Option.some.inj (jY.symm.trans aH7);injection jY with hva_ hvn_ hvc_;rw [hva_] at nL;rw [hvc_] at nK;have bO:=a0A.mk (show Kd.V k56 56 _ w.heap.size _ _ ((a0J l0 aC).f4) from Kd.V_mk nK nL);clear hva_ hvn_ hvc_ nL nK;have jZ:=mO 5 _ rfl;rw [a0W _ _ 5 (by omega)] at jZ;replace jZ:=Option.some.inj (jZ.symm.trans aH8);injection jZ with hva_ hvn_ hvc_;rw [hva_] at nN;rw [hvc_] at nM;have bP:=a0A.mk (show Kd.V Kd.string 9 _ w.heap.size _ _ ((a0J l0 aC).f5) from Kd.V_mk nM nN);clear hva_ hvn_ hvc_ nN nM;have kA:=mO 6 _ rfl;rw [a0W _ _ 6 (by omega)] at kA;replace kA:=Option.some.inj (kA.symm.trans aH9);injection kA with hva_ hvn_ hvc_;rw [hva_] at nP;rw [hvc_] at nO;have bK:=a0A.mk (show Kd.V k46 46 _ w.heap.size _ _ ((a0J l0 aC).f6) from Kd.V_mk nO nP);clear hva_ hvn_ hvc_ nP nO;have kB:=mO 7 _ rfl;rw [a0W _ _ 7 (by omega)] at kB;replace kB:=Option.some.inj (kB.symm.trans aI0);injection kB with hva_ hvn_ hvc_;rw [hva_] at nR;rw [hvc_] at nQ;have bQ:=a0A.mk (show Kd.V k46 46 _ w.heap.size _ _ ((a0J l0 aC).f7) from Kd.V_mk nQ nR);clear hva_ hvn_ hvc_ nR nQ;clear mO aQ4;have kC:=a0A.mk sB;have aZ9:=a0A.mk sA;clear sB sA;have kD:=a0A.mk sD;have bA0:=a0A.mk sC;clear sD sC;have kE:=a0A.mk sF;have bA1:=a0A.mk sE;clear sF sE;have kF:=a0A.mk sH;have bA2:=a0A.mk sG;clear sH sG;replace p196:=eq_true p196;replace q196:=eq_true q196) | ((with_reducible refine a1H (f:=28) rfl ?_);refine a2G (some 25) rfl rfl Try.func28 (by kernel_rfl) rfl #[.slice aQ2 ((a0J l0 aC).f6).length aQ3] rfl (by (try simp only [List.map_toArray,List.map_cons,List.map_nil]);first | done | rfl | (simp only [List.length_drop,List.length_take];rfl)) ?_;(with_reducible refine (ih k1 (by have:=HK1.out;omega) (fun k_ =>((P0_ k_∨w.heap.size≤k_)∧some k_≠(v194:Value).ownBlock)) _ _ ((a0J l0 aC).f6) t197 _ ?side1 A7.out).mono ?_);(case side1 =>exact bK.out);rintro e w12 ⟨v198,rfl,ho0,hb⟩;refine ⟨_,rfl,?_⟩;have bD:=a0A.mk (Kd.a1I (by (with_reducible repeat (first | apply Kd.a1G | apply Kd.a1F | apply Kd.a1J));exact cH.out) (Kd.a2V ho0) hb);have bE:=a0A.mk (Kd.a1I (by (with_reducible repeat (first | apply Kd.a1G | apply Kd.a1F | apply Kd.a1J));exact aZ.out) (Kd.a2V ho0) hb);have bT:=a0A.mk (Kd.a1I (by (with_reducible repeat (first | apply Kd.a1G | apply Kd.a1F | apply Kd.a1J));exact bA.out) (Kd.a2V ho0) hb);have cI:=a0A.mk (Kd.a1I (by (with_reducible repeat (first | apply Kd.a1G | apply Kd.a1F | apply Kd.a1J));exact bB.out) (Kd.a2V ho0) hb);have gK:=a0A.mk (Kd.a1I (by (with_reducible repeat (first | apply Kd.a1G | apply Kd.a1F | apply Kd.a1J));exact bC.out) (Kd.a2V ho0) hb);have gL:=a0A.mk (Kd.a5E (by (with_reducible repeat (first | apply Kd.a2A | apply Kd.a1Z | apply Kd.a2I));exact HO195.out) (Kd.a2V ho0) hb);have gM:=a0A.mk (Kd.a1I (by (with_reducible repeat (first | apply Kd.a1G | apply Kd.a1F | apply Kd.a1J));exact bO.out) (Kd.a2V ho0) hb);have jR:=a0A.mk (Kd.a1I (by (with_reducible repeat (first | apply Kd.a1G | apply Kd.a1F | apply Kd.a1J));exact bP.out) (Kd.a2V ho0) hb);have jS:=a0A.mk (Kd.a1I (by (with_reducible repeat (first | apply Kd.a1G | apply Kd.a1F | apply Kd.a1J));exact bK.out) (Kd.a2V ho0) hb);have jT:=a0A.mk (Kd.a1I (by (with_reducible repeat (first | apply Kd.a1G | apply Kd.a1F | apply Kd.a1J));exact bQ.out) (Kd.a2V ho0) hb);have cE:=a0A.mk (Kd.a7P (Kd.a3P (ok':=fun k_ =>(P0_ k_∨w.heap.size≤k_)∧some k_≠(v194:Value).ownBlock) ho0 (fun k_ hk_ =>⟨Or.elim hk_ (fun hs_ =>hs_.1) (fun hn_ =>(.inr (Nat.le_trans (a0V (by repeat (first | (with_reducible first | exact HB.out | apply a0D | apply a0B | apply a0E) | exact HB.out))) hn_))),Or.elim hk_ (fun hs_ =>hs_.2) (fun hn_ =>(Kd.fresh' (Kd.N_lt (by (with_reducible repeat (first | apply Kd.a2A | apply Kd.a1Z | apply Kd.a2I));exact HO195.out)) k_ hn_))⟩)) (a0V (by repeat (first | (with_reducible first | exact HB.out | apply a0D | apply a0B | apply a0E) | exact HB.out))));have cF:=a0A.mk (Kd.a0N (by repeat (first | (with_reducible exact kC.out) | (with_reducible refine Kd.a0R ?_ _) | (with_reducible refine Kd.a0Q ?_ _) | (with_reducible refine Kd.a1B ?_) | exact kC.out)) hb);have cZ:=a0A.mk (Kd.a0N (by repeat (first | (with_reducible exact kD.out) | (with_reducible refine Kd.a0R ?_ _) | (with_reducible refine Kd.a0Q ?_ _) | (with_reducible refine Kd.a1B ?_) | exact kD.out)) hb);have dR:=a0A.mk (Kd.a0N (by repeat (first | (with_reducible exact kE.out) | (with_reducible refine Kd.a0R ?_ _) | (with_reducible refine Kd.a0Q ?_ _) | (with_reducible refine Kd.a1B ?_) | exact kE.out)) hb);have dS:=a0A.mk (Kd.a0N (by repeat (first | (with_reducible exact kF.out) | (with_reducible refine Kd.a0R ?_ _) | (with_reducible refine Kd.a0Q ?_ _) | (with_reducible refine Kd.a1B ?_) | exact kF.out)) hb);have dT:=a0A.mk (a0H (by repeat (first | (with_reducible first | exact HB.out | apply a0D | apply a0B | apply a0E) | exact HB.out)) hb);clear cH;clear aZ;clear bA;clear bB;clear bC;clear HO195;clear bO;clear bP;clear bK;clear bQ;clear kC;clear kD;clear kE;clear kF;clear HB;have cH:=bD;have aZ:=bE;have bA:=bT;have bB:=cI;have bC:=gK;have HO195:=gL;have bO:=gM;have bP:=jR;have bK:=jS;have bQ:=jT;have HO199:=cE;have kC:=cF;have kD:=cZ;have kE:=dR;have kF:=dS;have HB:=dT;clear bD bE bT cI gK gL gM jR jS jT cE cF cZ dR dS dT;(try clear hb);(try clear hb2);(try clear hk);(try clear hi);(try clear ho0);obtain ⟨Ao14,co14,eo14⟩:=Kd.a5B HO199.out;subst eo14) | ((with_reducible refine a2C (b:=.append) (xs:=#[.tmp 19,.tmp 25]) rfl ?_);at_builtin;refine Kd.a7K k46 (w0:=w) w.heap.size rfl (.tmp 19) (.tmp 25) 30 46 (.agg #[(.int .i64 0),(.string ⟨#[]⟩),(.string ⟨#[]⟩),(.string ⟨#[]⟩),(.slice none 0 0),(.slice none 0 0),(.slice none 0 0),(.slice none 0 0)]) 152 rfl Try.underlying30 b3F rfl (by decide) (by omega) v194 y193 t197 _ _ _ (fun k_ =>(P0_ k_∨w.heap.size≤k_)) (fun k_ =>((fun k_ =>(P0_ k_∨w.heap.size≤k_))) k_∧some k_≠(v194:Value).ownBlock) rfl rfl ?aO ?aR (fun _ hk =>hk) ?aF ?aB ?aS ?aL ?_;(case aR =>exact (by skip;exact Kd.N_F (Kd.a3P (ok':=(fun k_ =>((fun k_ =>(P0_ k_∨w.heap.size≤k_))) k_∧some k_≠(v194:Value).ownBlock)) (HO199.out) (fun k_ hk =>⟨hk.1,hk.2⟩))));(case aB =>exact (by repeat (first | (with_reducible first | exact HB.out | apply a0D | apply a0B | apply a0E) | exact HB.out)));(case aF =>exact (fun k_ hk =>(.inr (Nat.le_trans (a0V (by repeat (first | (with_reducible first | exact HB.out | apply a0D | apply a0B | apply a0E) | exact HB.out))) hk))));(case aO =>exact (by (with_reducible repeat (first | apply Kd.a2A | apply Kd.a1Z | apply Kd.a2I));exact Kd.a3P HO195.out (fun _ hk =>hk.1)));(case aS =>exact (a0V (by repeat (first | (with_reducible first | exact HB.out | apply a0D | apply a0B | apply a0E) | exact HB.out))));(case aL =>have:=LMc8.out;omega);intro v201 w13 ho hb hg hat;rw [← Ny200.out] at ho;have bD:=a0A.mk (Kd.a2E (ok:=(fun k_ =>(P0_ k_∨w.heap.size≤k_)∧some k_≠(.slice Ao14 t197.length co14:Value).ownBlock)) (by (with_reducible repeat (first | apply Kd.a1G | apply Kd.a1F | apply Kd.a1J));exact Kd.a2P cH.out (fun _ hk =>⟨⟨hk.1.1,hk.2⟩,hk.1.2⟩)) hg hat);have bE:=a0A.mk (Kd.a2E (ok:=(fun k_ =>(P0_ k_∨w.heap.size≤k_)∧some k_≠(.slice Ao14 t197.length co14:Value).ownBlock)) (by (with_reducible repeat (first | apply Kd.a1G | apply Kd.a1F | apply Kd.a1J));exact Kd.a2P aZ.out (fun _ hk =>⟨⟨hk.1.1,hk.2⟩,hk.1.2⟩)) hg hat);have bT:=a0A.mk (Kd.a2E (ok:=(fun k_ =>(P0_ k_∨w.heap.size≤k_)∧some k_≠(.slice Ao14 t197.length co14:Value).ownBlock)) (by (with_reducible repeat (first | apply Kd.a1G | apply Kd.a1F | apply Kd.a1J));exact Kd.a2P bA.out (fun _ hk =>⟨⟨hk.1.1,hk.2⟩,hk.1.2⟩)) hg hat);have cI:=a0A.mk (Kd.a2E (ok:=(fun k_ =>(P0_ k_∨w.heap.size≤k_)∧some k_≠(.slice Ao14 t197.length co14:Value).ownBlock)) (by (with_reducible repeat (first | apply Kd.a1G | apply Kd.a1F | apply Kd.a1J));exact Kd.a2P bB.out (fun _ hk =>⟨⟨hk.1.1,hk.2⟩,hk.1.2⟩)) hg hat);have gK:=a0A.mk (Kd.a2E (ok:=(fun k_ =>(P0_ k_∨w.heap.size≤k_)∧some k_≠(.slice Ao14 t197.length co14:Value).ownBlock)) (by (with_reducible repeat (first | apply Kd.a1G | apply Kd.a1F | apply Kd.a1J));exact Kd.a2P bC.out (fun _ hk =>⟨⟨hk.1.1,hk.2⟩,hk.1.2⟩)) hg hat);have gL:=a0A.mk (Kd.a2E (ok:=(fun k_ =>(P0_ k_∨w.heap.size≤k_)∧some k_≠(.slice Ao14 t197.length co14:Value).ownBlock)) (by (with_reducible repeat (first | apply Kd.a1G | apply Kd.a1F | apply Kd.a1J));exact Kd.a2P bO.out (fun _ hk =>⟨⟨hk.1.1,hk.2⟩,hk.1.2⟩)) hg hat);have gM:=a0A.mk (Kd.a2E (ok:=(fun k_ =>(P0_ k_∨w.heap.size≤k_)∧some k_≠(.slice Ao14 t197.length co14:Value).ownBlock)) (by (with_reducible repeat (first | apply Kd.a1G | apply Kd.a1F | apply Kd.a1J));exact Kd.a2P bP.out (fun _ hk =>⟨⟨hk.1.1,hk.2⟩,hk.1.2⟩)) hg hat);have jR:=a0A.mk (Kd.a2E (ok:=(fun k_ =>(P0_ k_∨w.heap.size≤k_)∧some k_≠(.slice Ao14 t197.length co14:Value).ownBlock)) (by (with_reducible repeat (first | apply Kd.a1G | apply Kd.a1F | apply Kd.a1J));exact Kd.a2P bK.out (fun _ hk =>⟨⟨hk.1.1,hk.2⟩,hk.1.2⟩)) hg hat);have jS:=a0A.mk (Kd.a2E (ok:=(fun k_ =>(P0_ k_∨w.heap.size≤k_)∧some k_≠(.slice Ao14 t197.length co14:Value).ownBlock)) (by (with_reducible repeat (first | apply Kd.a1G | apply Kd.a1F | apply Kd.a1J));exact Kd.a2P bQ.out (fun _ hk =>⟨⟨hk.1.1,hk.2⟩,hk.1.2⟩)) hg hat);have jT:=a0A.mk (Kd.b0N (ok:=(fun k_ =>(P0_ k_∨w.heap.size≤k_))) (by (with_reducible repeat (first | apply Kd.a2A | apply Kd.a1Z | apply Kd.a2I));exact HO199.out) hg hat);have cE:=a0A.mk (hb);have cF:=a0A.mk (ho);clear cH;clear aZ;clear bA;clear bB;clear bC;clear bO;clear bP;clear bK;clear bQ;clear HO199;clear HB;clear HO195;have cH:=bD;have aZ:=bE;have bA:=bT;have bB:=cI;have bC:=gK;have bO:=gL;have bP:=gM;have bK:=jR;have bQ:=jS;have HO199:=jT;have HB:=cE;have HO202:=cF;clear bD bE bT cI gK gL gM jR jS jT cE cF;clear ho hb hg hat;have p203:0≤(aC:Int):=of_decide_eq_true (by first | (with_reducible assumption) | assumption);have q203:aC < (l0.length:Int):=of_decide_eq_true (by first | (with_reducible assumption) | assumption);obtain ⟨ad203,bM5,bM6,bM7,bM8,bM9,bN0,aQ6,aQ7,e203,bA3,bA4,bA5,bA6,aI1,aI2,aI3,aI4,sI,sJ,sK,sL,sM,sN,sO,sP⟩:=a3C (Kd.a4J cH.out).2.2 aC p203 q203;obtain rfl:ad192 = ad203:=(by injection e203);obtain ⟨ce203,aQ8,aQ9,mP⟩:=Kd.V_get cH.out z46 aC p203 (by first | exact q203 | exact of_decide_eq_true (by first | (with_reducible assumption) | assumption) | (have e_:=(Kd.a4J cH.out).1;omega));obtain ⟨bA7,bA8,bA9,bB0,bB1,bB2,bB3,bB4,rfl,nS,nT,nU,nV,nW,nX,nY,nZ⟩:=a2H aQ9;have kG:=mP 4 _ rfl;rw [a0W _ _ 4 (by omega)] at kG;replace kG:=Option.some.inj (kG.symm.trans aI1);injection kG with hva_ hvn_ hvc_;rw [hva_] at nT;rw [hvc_] at nS;have fK:=a0A.mk (show Kd.V k56 56 _ w.heap.size _ _ ((a0J l0 aC).f4) from Kd.V_mk nS nT);clear hva_ hvn_ hvc_ nT nS;have kH:=mP 5 _ rfl;rw [a0W _ _ 5 (by omega)] at kH;replace kH:=Option.some.inj (kH.symm.trans aI2);injection kH with hva_ hvn_ hvc_;rw [hva_] at nV;rw [hvc_] at nU;have fL:=a0A.mk (show Kd.V Kd.string 9 _ w.heap.size _ _ ((a0J l0 aC).f5) from Kd.V_mk nU nV);clear hva_ hvn_ hvc_ nV nU;have kI:=mP 6 _ rfl;rw [a0W _ _ 6 (by omega)] at kI;replace kI:=Option.some.inj (kI.symm.trans aI3);injection kI with hva_ hvn_ hvc_;rw [hva_] at nX;rw [hvc_] at nW;have fM:=a0A.mk (show Kd.V k46 46 _ w.heap.size _ _ ((a0J l0 aC).f6) from Kd.V_mk nW nX);clear hva_ hvn_ hvc_ nX nW;have kJ:=mP 7 _ rfl;rw [a0W _ _ 7 (by omega)] at kJ;replace kJ:=Option.some.inj (kJ.symm.trans aI4);injection kJ with hva_ hvn_ hvc_;rw [hva_] at nZ;rw [hvc_] at nY;have dU:=a0A.mk (show Kd.V k46 46 _ w.heap.size _ _ ((a0J l0 aC).f7) from Kd.V_mk nY nZ);clear hva_ hvn_ hvc_ nZ nY;clear mP aQ8;have kK:=a0A.mk sJ;have bB5:=a0A.mk sI;clear sJ sI;have kL:=a0A.mk sL;have bB6:=a0A.mk sK;clear sL sK;have kM:=a0A.mk sN;have bB7:=a0A.mk sM;clear sN sM;have kN:=a0A.mk sP;have bB8:=a0A.mk sO;clear sP sO;replace p203:=eq_true p203;replace q203:=eq_true q203) | ((with_reducible refine a1H (f:=28) rfl ?_);refine a2G (some 33) rfl rfl Try.func28 (by kernel_rfl) rfl #[.slice aQ6 ((a0J l0 aC).f7).length aQ7] rfl (by (try simp only [List.map_toArray,List.map_cons,List.map_nil]);first | done | rfl | (simp only [List.length_drop,List.length_take];rfl)) ?_;(with_reducible refine (ih k1 (by have:=HK1.out;omega) (fun k_ =>(((P0_ k_∨w.heap.size≤k_)∧some k_≠(.slice Ao14 t197.length co14:Value).ownBlock)∧some k_≠(v201:Value).ownBlock)) _ _ ((a0J l0 aC).f7) t204 _ ?side1 A9.out).mono ?_);(case side1 =>exact dU.out);rintro e w15 ⟨v205,rfl,ho0,hb⟩;refine ⟨_,rfl,?_⟩;have bD:=a0A.mk (Kd.a1I (by (with_reducible repeat (first | apply Kd.a1G | apply Kd.a1F | apply Kd.a1J));exact cH.out) (Kd.a2V ho0) hb);have bE:=a0A.mk (Kd.a1I (by (with_reducible repeat (first | apply Kd.a1G | apply Kd.a1F | apply Kd.a1J));exact aZ.out) (Kd.a2V ho0) hb);have bT:=a0A.mk (Kd.a1I (by (with_reducible repeat (first | apply Kd.a1G | apply Kd.a1F | apply Kd.a1J));exact bA.out) (Kd.a2V ho0) hb);have cI:=a0A.mk (Kd.a1I (by (with_reducible repeat (first | apply Kd.a1G | apply Kd.a1F | apply Kd.a1J));exact bB.out) (Kd.a2V ho0) hb);have gK:=a0A.mk (Kd.a1I (by (with_reducible repeat (first | apply Kd.a1G | apply Kd.a1F | apply Kd.a1J));exact bC.out) (Kd.a2V ho0) hb);have gL:=a0A.mk (Kd.a1I (by (with_reducible repeat (first | apply Kd.a1G | apply Kd.a1F | apply Kd.a1J));exact bO.out) (Kd.a2V ho0) hb);have gM:=a0A.mk (Kd.a1I (by (with_reducible repeat (first | apply Kd.a1G | apply Kd.a1F | apply Kd.a1J));exact bP.out) (Kd.a2V ho0) hb);have jR:=a0A.mk (Kd.a1I (by (with_reducible repeat (first | apply Kd.a1G | apply Kd.a1F | apply Kd.a1J));exact bK.out) (Kd.a2V ho0) hb);have jS:=a0A.mk (Kd.a1I (by (with_reducible repeat (first | apply Kd.a1G | apply Kd.a1F | apply Kd.a1J));exact bQ.out) (Kd.a2V ho0) hb);have jT:=a0A.mk (Kd.a5E (by (with_reducible repeat (first | apply Kd.a2A | apply Kd.a1Z | apply Kd.a2I));exact HO199.out) (Kd.a2V ho0) hb);have cE:=a0A.mk (Kd.a5E (by (with_reducible repeat (first | apply Kd.a2A | apply Kd.a1Z | apply Kd.a2I));exact HO202.out) (Kd.a2V ho0) hb);have cF:=a0A.mk (Kd.a1I (by (with_reducible repeat (first | apply Kd.a1G | apply Kd.a1F | apply Kd.a1J));exact fK.out) (Kd.a2V ho0) hb);have cZ:=a0A.mk (Kd.a1I (by (with_reducible repeat (first | apply Kd.a1G | apply Kd.a1F | apply Kd.a1J));exact fL.out) (Kd.a2V ho0) hb);have dR:=a0A.mk (Kd.a1I (by (with_reducible repeat (first | apply Kd.a1G | apply Kd.a1F | apply Kd.a1J));exact fM.out) (Kd.a2V ho0) hb);have dS:=a0A.mk (Kd.a1I (by (with_reducible repeat (first | apply Kd.a1G | apply Kd.a1F | apply Kd.a1J));exact dU.out) (Kd.a2V ho0) hb);have dT:=a0A.mk (Kd.a7P (Kd.a3P (ok':=fun k_ =>(P0_ k_∨w.heap.size≤k_)∧some k_≠(.slice Ao14 t197.length co14:Value).ownBlock∧some k_≠(v201:Value).ownBlock) ho0 (fun k_ hk_ =>⟨Or.elim hk_ (fun hs_ =>hs_.1.1) (fun hn_ =>(.inr (Nat.le_trans (a0V (by repeat (first | (with_reducible first | exact HB.out | apply a0D | apply a0B | apply a0E) | exact HB.out))) hn_))),Or.elim hk_ (fun hs_ =>hs_.1.2) (fun hn_ =>(Kd.fresh' (Kd.N_lt (by (with_reducible repeat (first | apply Kd.a2A | apply Kd.a1Z | apply Kd.a2I));exact HO199.out)) k_ hn_)),Or.elim hk_ (fun hs_ =>hs_.2) (fun hn_ =>(Kd.fresh' (Kd.N_lt (by (with_reducible repeat (first | apply Kd.a2A | apply Kd.a1Z | apply Kd.a2I));exact HO202.out)) k_ hn_))⟩)) (a0V (by repeat (first | (with_reducible first | exact HB.out | apply a0D | apply a0B | apply a0E) | exact HB.out))));have fI:=a0A.mk (Kd.a0N (by repeat (first | (with_reducible exact kK.out) | (with_reducible refine Kd.a0R ?_ _) | (with_reducible refine Kd.a0Q ?_ _) | (with_reducible refine Kd.a1B ?_) | exact kK.out)) hb);have gN:=a0A.mk (Kd.a0N (by repeat (first | (with_reducible exact kL.out) | (with_reducible refine Kd.a0R ?_ _) | (with_reducible refine Kd.a0Q ?_ _) | (with_reducible refine Kd.a1B ?_) | exact kL.out)) hb);have gO:=a0A.mk (Kd.a0N (by repeat (first | (with_reducible exact kM.out) | (with_reducible refine Kd.a0R ?_ _) | (with_reducible refine Kd.a0Q ?_ _) | (with_reducible refine Kd.a1B ?_) | exact kM.out)) hb);have gP:=a0A.mk (Kd.a0N (by repeat (first | (with_reducible exact kN.out) | (with_reducible refine Kd.a0R ?_ _) | (with_reducible refine Kd.a0Q ?_ _) | (with_reducible refine Kd.a1B ?_) | exact kN.out)) hb);have gQ:=a0A.mk (a0H (by repeat (first | (with_reducible first | exact HB.out | apply a0D | apply a0B | apply a0E) | exact HB.out)) hb);clear cH;clear aZ;clear bA;clear bB;clear bC;clear bO;clear bP;clear bK;clear bQ;clear HO199;clear HO202;clear fK;clear fL;clear fM;clear dU;clear kK;clear kL;clear kM;clear kN;clear HB;have cH:=bD;have aZ:=bE;have bA:=bT;have bB:=cI;have bC:=gK;have bO:=gL;have bP:=gM;have bK:=jR;have bQ:=jS;have HO199:=jT;have HO202:=cE;have fK:=cF;have fL:=cZ;have fM:=dR;have dU:=dS;have HO206:=dT;have kK:=fI;have kL:=gN;have kM:=gO;have kN:=gP;have HB:=gQ;clear bD bE bT cI gK gL gM jR jS jT cE cF cZ dR dS dT fI gN gO gP gQ;(try clear hb);(try clear hb2);(try clear hk);(try clear hi);(try clear ho0);obtain ⟨Ao17,co17,eo17⟩:=Kd.a5B HO206.out;subst eo17) | ((with_reducible refine a2C (b:=.append) (xs:=#[.tmp 27,.tmp 33]) rfl ?_);at_builtin;refine Kd.a7K k46 (w0:=w) w.heap.size rfl (.tmp 27) (.tmp 33) 30 46 (.agg #[(.int .i64 0),(.string ⟨#[]⟩),(.string ⟨#[]⟩),(.string ⟨#[]⟩),(.slice none 0 0),(.slice none 0 0),(.slice none 0 0),(.slice none 0 0)]) 152 rfl Try.underlying30 b3F rfl (by decide) (by omega) v201 y200 t204 _ _ _ (fun k_ =>(P0_ k_∨w.heap.size≤k_)) (fun k_ =>((fun k_ =>(P0_ k_∨w.heap.size≤k_))) k_∧some k_≠(v201:Value).ownBlock) rfl rfl ?aO ?aR (fun _ hk =>hk) ?aF ?aB ?aS ?aL ?_;(case aR =>exact (by skip;exact Kd.N_F (Kd.a3P (ok':=(fun k_ =>((fun k_ =>(P0_ k_∨w.heap.size≤k_))) k_∧some k_≠(v201:Value).ownBlock)) (HO206.out) (fun k_ hk =>⟨hk.1,hk.2.2⟩))));(case aB =>exact (by repeat (first | (with_reducible first | exact HB.out | apply a0D | apply a0B | apply a0E) | exact HB.out)));(case aF =>exact (fun k_ hk =>(.inr (Nat.le_trans (a0V (by repeat (first | (with_reducible first | exact HB.out | apply a0D | apply a0B | apply a0E) | exact HB.out))) hk))));(case aO =>exact (by (with_reducible repeat (first | apply Kd.a2A | apply Kd.a1Z | apply Kd.a2I));exact Kd.a3P HO202.out (fun _ hk =>hk.1)));(case aS =>exact (a0V (by repeat (first | (with_reducible first | exact HB.out | apply a0D | apply a0B | apply a0E) | exact HB.out))));(case aL =>have:=LMc10.out;omega);intro v208 w16 ho hb hg hat;rw [← Ny207.out] at ho;have bD:=a0A.mk (Kd.a2E (ok:=(fun k_ =>(P0_ k_∨w.heap.size≤k_)∧some k_≠(.slice Ao14 t197.length co14:Value).ownBlock∧some k_≠(.slice Ao17 t204.length co17:Value).ownBlock)) (by (with_reducible repeat (first | apply Kd.a1G | apply Kd.a1F | apply Kd.a1J));exact Kd.a2P cH.out (fun _ hk =>⟨⟨hk.1.1.1,⟨hk.1.1.2,hk.2⟩⟩,hk.1.2⟩)) hg hat);have bE:=a0A.mk (Kd.a2E (ok:=(fun k_ =>(P0_ k_∨w.heap.size≤k_)∧some k_≠(.slice Ao14 t197.length co14:Value).ownBlock∧some k_≠(.slice Ao17 t204.length co17:Value).ownBlock)) (by (with_reducible repeat (first | apply Kd.a1G | apply Kd.a1F | apply Kd.a1J));exact Kd.a2P aZ.out (fun _ hk =>⟨⟨hk.1.1.1,⟨hk.1.1.2,hk.2⟩⟩,hk.1.2⟩)) hg hat);have bT:=a0A.mk (Kd.a2E (ok:=(fun k_ =>(P0_ k_∨w.heap.size≤k_)∧some k_≠(.slice Ao14 t197.length co14:Value).ownBlock∧some k_≠(.slice Ao17 t204.length co17:Value).ownBlock)) (by (with_reducible repeat (first | apply Kd.a1G | apply Kd.a1F | apply Kd.a1J));exact Kd.a2P bA.out (fun _ hk =>⟨⟨hk.1.1.1,⟨hk.1.1.2,hk.2⟩⟩,hk.1.2⟩)) hg hat);have cI:=a0A.mk (Kd.a2E (ok:=(fun k_ =>(P0_ k_∨w.heap.size≤k_)∧some k_≠(.slice Ao14 t197.length co14:Value).ownBlock∧some k_≠(.slice Ao17 t204.length co17:Value).ownBlock)) (by (with_reducible repeat (first | apply Kd.a1G | apply Kd.a1F | apply Kd.a1J));exact Kd.a2P bB.out (fun _ hk =>⟨⟨hk.1.1.1,⟨hk.1.1.2,hk.2⟩⟩,hk.1.2⟩)) hg hat);have gK:=a0A.mk (Kd.a2E (ok:=(fun k_ =>(P0_ k_∨w.heap.size≤k_)∧some k_≠(.slice Ao14 t197.length co14:Value).ownBlock∧some k_≠(.slice Ao17 t204.length co17:Value).ownBlock)) (by (with_reducible repeat (first | apply Kd.a1G | apply Kd.a1F | apply Kd.a1J));exact Kd.a2P bC.out (fun _ hk =>⟨⟨hk.1.1.1,⟨hk.1.1.2,hk.2⟩⟩,hk.1.2⟩)) hg hat);have gL:=a0A.mk (Kd.a2E (ok:=(fun k_ =>(P0_ k_∨w.heap.size≤k_)∧some k_≠(.slice Ao14 t197.length co14:Value).ownBlock∧some k_≠(.slice Ao17 t204.length co17:Value).ownBlock)) (by (with_reducible repeat (first | apply Kd.a1G | apply Kd.a1F | apply Kd.a1J));exact Kd.a2P bO.out (fun _ hk =>⟨⟨hk.1.1.1,⟨hk.1.1.2,hk.2⟩⟩,hk.1.2⟩)) hg hat);have gM:=a0A.mk (Kd.a2E (ok:=(fun k_ =>(P0_ k_∨w.heap.size≤k_)∧some k_≠(.slice Ao14 t197.length co14:Value).ownBlock∧some k_≠(.slice Ao17 t204.length co17:Value).ownBlock)) (by (with_reducible repeat (first | apply Kd.a1G | apply Kd.a1F | apply Kd.a1J));exact Kd.a2P bP.out (fun _ hk =>⟨⟨hk.1.1.1,⟨hk.1.1.2,hk.2⟩⟩,hk.1.2⟩)) hg hat);have jR:=a0A.mk (Kd.a2E (ok:=(fun k_ =>(P0_ k_∨w.heap.size≤k_)∧some k_≠(.slice Ao14 t197.length co14:Value).ownBlock∧some k_≠(.slice Ao17 t204.length co17:Value).ownBlock)) (by (with_reducible repeat (first | apply Kd.a1G | apply Kd.a1F | apply Kd.a1J));exact Kd.a2P bK.out (fun _ hk =>⟨⟨hk.1.1.1,⟨hk.1.1.2,hk.2⟩⟩,hk.1.2⟩)) hg hat);have jS:=a0A.mk (Kd.a2E (ok:=(fun k_ =>(P0_ k_∨w.heap.size≤k_)∧some k_≠(.slice Ao14 t197.length co14:Value).ownBlock∧some k_≠(.slice Ao17 t204.length co17:Value).ownBlock)) (by (with_reducible repeat (first | apply Kd.a1G | apply Kd.a1F | apply Kd.a1J));exact Kd.a2P bQ.out (fun _ hk =>⟨⟨hk.1.1.1,⟨hk.1.1.2,hk.2⟩⟩,hk.1.2⟩)) hg hat);have jT:=a0A.mk (Kd.b0N (ok:=(fun k_ =>(P0_ k_∨w.heap.size≤k_)∧some k_≠(.slice Ao17 t204.length co17:Value).ownBlock)) (by (with_reducible repeat (first | apply Kd.a2A | apply Kd.a1Z | apply Kd.a2I));exact Kd.a3P HO199.out (fun _ hk =>⟨⟨hk.1.1,hk.2⟩,hk.1.2⟩)) hg hat);have cE:=a0A.mk (Kd.a2E (ok:=(fun k_ =>(P0_ k_∨w.heap.size≤k_)∧some k_≠(.slice Ao14 t197.length co14:Value).ownBlock∧some k_≠(.slice Ao17 t204.length co17:Value).ownBlock)) (by (with_reducible repeat (first | apply Kd.a1G | apply Kd.a1F | apply Kd.a1J));exact Kd.a2P fK.out (fun _ hk =>⟨⟨hk.1.1.1,⟨hk.1.1.2,hk.2⟩⟩,hk.1.2⟩)) hg hat);have cF:=a0A.mk (Kd.a2E (ok:=(fun k_ =>(P0_ k_∨w.heap.size≤k_)∧some k_≠(.slice Ao14 t197.length co14:Value).ownBlock∧some k_≠(.slice Ao17 t204.length co17:Value).ownBlock)) (by (with_reducible repeat (first | apply Kd.a1G | apply Kd.a1F | apply Kd.a1J));exact Kd.a2P fL.out (fun _ hk =>⟨⟨hk.1.1.1,⟨hk.1.1.2,hk.2⟩⟩,hk.1.2⟩)) hg hat);have cZ:=a0A.mk (Kd.a2E (ok:=(fun k_ =>(P0_ k_∨w.heap.size≤k_)∧some k_≠(.slice Ao14 t197.length co14:Value).ownBlock∧some k_≠(.slice Ao17 t204.length co17:Value).ownBlock)) (by (with_reducible repeat (first | apply Kd.a1G | apply Kd.a1F | apply Kd.a1J));exact Kd.a2P fM.out (fun _ hk =>⟨⟨hk.1.1.1,⟨hk.1.1.2,hk.2⟩⟩,hk.1.2⟩)) hg hat);have dR:=a0A.mk (Kd.a2E (ok:=(fun k_ =>(P0_ k_∨w.heap.size≤k_)∧some k_≠(.slice Ao14 t197.length co14:Value).ownBlock∧some k_≠(.slice Ao17 t204.length co17:Value).ownBlock)) (by (with_reducible repeat (first | apply Kd.a1G | apply Kd.a1F | apply Kd.a1J));exact Kd.a2P dU.out (fun _ hk =>⟨⟨hk.1.1.1,⟨hk.1.1.2,hk.2⟩⟩,hk.1.2⟩)) hg hat);have dS:=a0A.mk (Kd.b0N (ok:=(fun k_ =>(P0_ k_∨w.heap.size≤k_)∧some k_≠(.slice Ao14 t197.length co14:Value).ownBlock)) (by (with_reducible repeat (first | apply Kd.a2A | apply Kd.a1Z | apply Kd.a2I));exact Kd.a3P HO206.out (fun _ hk =>⟨⟨hk.1,hk.2.1⟩,hk.2.2⟩)) hg hat);have dT:=a0A.mk (hb);have fI:=a0A.mk (ho);clear cH;clear aZ;clear bA;clear bB;clear bC;clear bO;clear bP;clear bK;clear bQ;clear HO199;clear fK;clear fL;clear fM;clear dU;clear HO206;clear HB;clear HO202;have cH:=bD;have aZ:=bE;have bA:=bT;have bB:=cI;have bC:=gK;have bO:=gL;have bP:=gM;have bK:=jR;have bQ:=jS;have HO199:=jT;have fK:=cE;have fL:=cF;have fM:=cZ;have dU:=dR;have HO206:=dS;have HB:=dT;have HO209:=fI;clear bD bE bT cI gK gL gM jR jS jT cE cF cZ dR dS dT fI;clear ho hb hg hat))
        go_roundg k1
        case measure =>have:=HK1.out;omega
        case rel =>exact ⟨(y207),(wrap64 (aC + 1)),(by first | rfl | (simp;done) | (simp [*];done)),H',⟨by have:=HK1.out;omega⟩,⟨by (with_reducible repeat (first | apply Kd.a1G | apply Kd.a1F | apply Kd.a1J));exact Kd.a2P cH.out (fun _ hk =>⟨hk.1.1,hk.2⟩)⟩,⟨by (with_reducible repeat (first | apply Kd.a2A | apply Kd.a1Z | apply Kd.a2I));exact HO209.out⟩,⟨by repeat (first | (with_reducible first | exact HB.out | apply a0D | apply a0B | apply a0E) | exact HB.out)⟩⟩
       ·rw [if_neg c10] at H
        exact absurd H (by simp)
      ·rw [if_neg c8] at H
       exact absurd H (by simp)
     ·rw [if_neg c6] at H
      exact absurd H (by simp)
    ·rw [if_neg c5] at H
     exact absurd H (by simp)
   ·rw [if_neg c4] at H
    have c4b0:decide (aC < (l0.length:Int)) = false:=decide_eq_false c4
    clear c4
    obtain rfl:=Option.some.inj H
    go_wp2
    go_ret
    exact ⟨_,by first | rfl | (simp [a0T,a0S] <;> rfl) | (simp [*,a0T,a0S] <;> rfl),by (with_reducible repeat (first | apply Kd.a2A | apply Kd.a1Z | apply Kd.a2I));exact aE.out,by repeat (first | (with_reducible first | exact HB.out | apply a0D | apply a0B | apply a0E) | exact HB.out)⟩
mutual
def r05_Vars.l0:Nat→List ByteArray→Int→ByteArray→List ByteArray→List (S46)→Option (List ByteArray)
 | 0,_,_,_,_,_ =>none
 | k + 1,x3,x4,x211000,x211001,x211002 =>if x4 < (x211001.length:Int) then (if 0≤x4 then ((r05_With.f k x3 (rdOf ByteArray.empty x211001 x4)).bind fun t215 =>(r05_Vars.l0 k t215 (wrap64 (x4 + 1)) x211000 x211001 x211002)) else (none)) else ((r04_List.f k x211002).bind fun t218 =>(r05_Vars.l1 k x3 t218 0))
def r05_Vars.l1:Nat→List ByteArray→List (S46)→Int→Option (List ByteArray)
 | 0,_,_,_ =>none
 | k + 1,x3,x5,x6 =>if x6 < (x5.length:Int) then (if 0≤x6 then ((r05_With.f k x3 ((a0J x5 x6).f1)).bind fun t222 =>((r05_With.f k t222 ((a0J x5 x6).f2)).bind fun t226 =>(r05_Vars.l2 k t226 x5 x6 0))) else (none)) else (some x3)
def r05_Vars.l2:Nat→List ByteArray→List (S46)→Int→Int→Option (List ByteArray)
 | 0,_,_,_,_ =>none
 | k + 1,x3,x5,x6,x7 =>if 0≤x6 then (if x6 < (x5.length:Int) then (if x7 < (((a0J x5 x6).f4).length:Int) then (if 0≤x7 then (if ((a1R ((a0J x5 x6).f4) x7).f0) = 4 then ((r05_With.f k x3 ((a1R ((a0J x5 x6).f4) x7).f2)).bind fun t234 =>(r05_Vars.l2 k t234 x5 x6 (wrap64 (x7 + 1)))) else (r05_Vars.l2 k x3 x5 x6 (wrap64 (x7 + 1)))) else (none)) else (r05_Vars.l1 k x3 x5 (wrap64 (x6 + 1)))) else (none)) else (none)
end
def r05_Vars.f (k:Nat) (dQ:ByteArray) (bS:List ByteArray) (cG:List (S46)):Option (List ByteArray):=r05_Vars.l0 k (([]:List ByteArray)) 0 dQ bS cG
theorem r05_Vars.a3E:∀ k,(∀ y0 y1 y2 y3 y4,LeO (r05_Vars.l0 k y0 y1 y2 y3 y4) (r05_Vars.l0 (k + 1) y0 y1 y2 y3 y4))∧(∀ y0 y1 y2,LeO (r05_Vars.l1 k y0 y1 y2) (r05_Vars.l1 (k + 1) y0 y1 y2))∧(∀ y0 y1 y2 y3,LeO (r05_Vars.l2 k y0 y1 y2 y3) (r05_Vars.l2 (k + 1) y0 y1 y2 y3))
 | 0 =>⟨fun _ _ _ _ _ r h =>by simp [r05_Vars.l0] at h,fun _ _ _ r h =>by simp [r05_Vars.l1] at h,fun _ _ _ _ r h =>by simp [r05_Vars.l2] at h⟩
 | k + 1 =>by
  obtain ⟨ih0,ih1,ih2⟩:=r05_Vars.a3E k
  refine ⟨?_,?_,?_⟩
  ·intro y0 y1 y2 y3 y4
   unfold r05_Vars.l0
   repeat' first
   | (with_reducible exact ih0 _ _ _ _ _)
   | (with_reducible exact ih1 _ _ _)
   | (with_reducible exact ih2 _ _ _ _)
   | (with_reducible exact r04_List.mono _ _)
   | (with_reducible exact r05_With.mono _ _ _)
   | (with_reducible exact LeO.refl _)
   | (with_reducible exact LeO.none _)
   | (with_reducible refine LeO.ite ?_ ?_)
   | (with_reducible refine LeO.bind ?_ (fun _ =>?_))
   | exact ih0 _ _ _ _ _
   | exact ih1 _ _ _
   | exact ih2 _ _ _ _
   | exact r04_List.mono _ _
   | exact r05_With.mono _ _ _
   | exact LeO.none _
   | refine LeO.ite ?_ ?_
   | refine LeO.bind ?_ (fun _ =>?_)
  ·intro y0 y1 y2
   unfold r05_Vars.l1
   repeat' first
   | (with_reducible exact ih0 _ _ _ _ _)
   | (with_reducible exact ih1 _ _ _)
   | (with_reducible exact ih2 _ _ _ _)
   | (with_reducible exact r04_List.mono _ _)
   | (with_reducible exact r05_With.mono _ _ _)
   | (with_reducible exact LeO.refl _)
   | (with_reducible exact LeO.none _)
   | (with_reducible refine LeO.ite ?_ ?_)
   | (with_reducible refine LeO.bind ?_ (fun _ =>?_))
   | exact ih0 _ _ _ _ _
   | exact ih1 _ _ _
   | exact ih2 _ _ _ _
   | exact r04_List.mono _ _
   | exact r05_With.mono _ _ _
   | exact LeO.none _
   | refine LeO.ite ?_ ?_
   | refine LeO.bind ?_ (fun _ =>?_)
  ·intro y0 y1 y2 y3
   unfold r05_Vars.l2
   repeat' first
   | (with_reducible exact ih0 _ _ _ _ _)
   | (with_reducible exact ih1 _ _ _)
   | (with_reducible exact ih2 _ _ _ _)
   | (with_reducible exact r04_List.mono _ _)
   | (with_reducible exact r05_With.mono _ _ _)
   | (with_reducible exact LeO.refl _)
   | (with_reducible exact LeO.none _)
   | (with_reducible refine LeO.ite ?_ ?_)
   | (with_reducible refine LeO.bind ?_ (fun _ =>?_))
   | exact ih0 _ _ _ _ _
   | exact ih1 _ _ _
   | exact ih2 _ _ _ _
   | exact r04_List.mono _ _
   | exact r05_With.mono _ _ _
   | exact LeO.none _
   | refine LeO.ite ?_ ?_
   | refine LeO.bind ?_ (fun _ =>?_)
theorem r05_Vars.mono:∀ a0 a1 a2 k,LeO (r05_Vars.f k a0 a1 a2) (r05_Vars.f (k + 1) a0 a1 a2):=by
 intro a0 a1 a2 k
 obtain ⟨ih0,ih1,ih2⟩:=r05_Vars.a3E k
 unfold r05_Vars.f
 repeat' first
   | (with_reducible exact ih0 _ _ _ _ _)
   | (with_reducible exact ih1 _ _ _)
   | (with_reducible exact ih2 _ _ _ _)
   | (with_reducible exact r04_List.mono _ _)
   | (with_reducible exact r05_With.mono _ _ _)
   | (with_reducible exact LeO.refl _)
   | (with_reducible exact LeO.none _)
   | (with_reducible refine LeO.ite ?_ ?_)
   | (with_reducible refine LeO.bind ?_ (fun _ =>?_))
   | exact ih0 _ _ _ _ _
   | exact ih1 _ _ _
   | exact ih2 _ _ _ _
   | exact r04_List.mono _ _
   | exact r05_With.mono _ _ _
   | exact LeO.none _
   | refine LeO.ite ?_ ?_
   | refine LeO.bind ?_ (fun _ =>?_)
def r05_Vars.T10:Bool × List (List Nat × List Nat):=(true,[([],[]),([],[]),([],[]),([1,2],[1,2]),([3],[3]),([4],[4]),([0,5],[0,5]),([],[]),([],[]),([7,8],[7,8]),([9],[9]),([10],[10]),([6,11,6],[6,11]),([12,12,0,1,2,3,4,5,6,7,8,9,10,11,12],[0,12])])
def r05_Vars.B10:List Nat:=[0,0,0,6,14,30,63,0,0,384,896,1920,4095,8191]
theorem r05_Vars.tab10:rtab .any (opsOf Try.f12 10) = r05_Vars.T10:=by kernel_rfl
theorem r05_Vars.bits10:waitsOk r05_Vars.T10.2 r05_Vars.B10 = true:=by kernel_rfl
set_option maxHeartbeats 8000000 in
set_option maxRecDepth 100000 in
theorem r05_Vars.calls (k:Nat) (dQ:ByteArray) (gR:Option Addr) (fZ:Nat) (bS:List ByteArray) (fW:Option Addr) (fX:Nat) (cG:List (S46)) (r:List ByteArray) (w:World) (aO4:Kd.C Kd.string w gR bS.length bS) (aO5:bS.length≤fZ) (aO6:Kd.C k46 w fW cG.length cG) (aO7:cG.length≤fX) (h:r05_Vars.f k dQ bS cG = some r) :
    Calls Try.prog 12 #[.agg #[.string dQ,.slice gR bS.length fZ,.slice fW cG.length fX]] w fun e w' =>∃ v0_:Value,e = .returned (v0_)∧Kd.R Kd.string 9 w' w.heap.size (fun _ =>True) v0_ r∧Below w.heap.size w w':=by
 have hu32:=Try.underlying32
 have aU9:=a0A.mk aO4
 have bR3:=a0A.mk aO5
 clear aO4 aO5
 have aV0:=a0A.mk aO6
 have aV1:=a0A.mk aO7
 clear aO6 aO7
 have HB:=a0A.mk (Below.refl w.heap.size w)
 have H:(r05_Vars.l0 k (([]:List ByteArray)) 0 dQ bS cG) = some r:=h
 clear h
 obtain ⟨y211,hy211⟩:∃ y_:List ByteArray,y_ = (([]:List ByteArray)):=⟨_,rfl⟩
 replace H:(r05_Vars.l0 k y211 0 dQ bS cG) = some r:=by first | (rw [hy211];with_reducible exact H) | (have H2_:=(Option.bind_some _ _).symm.trans H;rw [hy211];with_reducible exact H2_) | (have H2_:=(Option.bind_some _ _).symm.trans H;with_reducible exact H2_) | with_reducible exact H | (rw [hy211];exact H) | exact H
 have Ny211:=a0A.mk hy211
 clear hy211
 have H':=a0A.mk H
 clear H
 go_enter Try.func12,Try.ntmps12
 go_wp2_with (first | ((with_reducible refine a1C (N:=1) rfl ?_);refine a1A ?hg (N:=1) ?hd (cs:=#[.string dQ,.slice gR bS.length fZ,.slice fW cG.length fX]) (t:=32) ?hr ?_;(case hd =>rfl);(case hg =>rfl);(case hr =>first | (go_simp;done) | (go_simp;rfl));intro bM hg w2 hbox hb;have bD:=a0A.mk (a0H (by repeat (first | (with_reducible first | exact HB.out | apply a0D | apply a0B | apply a0E) | exact HB.out)) hb);have bE:=a0A.mk (hbox);have bT:=a0A.mk ((by rw [hg];exact (a0V (by repeat (first | (with_reducible first | exact HB.out | apply a0D | apply a0B | apply a0E) | exact HB.out))):w.heap.size≤bM));have cI:=a0A.mk ((by rw [hg];exact (a0V (by repeat (first | (with_reducible first | exact HB.out | apply a0D | apply a0B | apply a0E) | exact HB.out))):w.heap.size≤bM));clear HB;have HB:=bD;have aH:=bE;have GW210:=bT;have bN:=cI;clear bD bE bT cI;clear hb hbox hg) | ((with_reducible refine a1C (N:=8) rfl ?_);refine Kd.b4F Kd.string _ 9 ?hg (N:=8) ?hd (xs:=([]:List ByteArray)) (inner:=[]) (ok:=fun _ =>True) (okp:=fun _ =>True) ?hr ?hp (fun _ hk =>hk) trivial (Below.refl _ _) (Nat.le_refl _) (by simp) ?_;(case hd =>rfl);(case hg =>rfl);(case hr =>first | (go_simp;done) | (go_simp;rfl));(case hp =>exact (Reps.none _ _));intro v212 w3 ho4 hb hg_ hnew_;clear hg_ hnew_;(first | rw [← Ny211.out] at ho4 | (simp only [Int.reduceToNat] at ho4;rw [← Ny211.out] at ho4));have bD:=a0A.mk (Kd.a2Y ho4 (a0V (by repeat (first | (with_reducible first | exact HB.out | apply a0D | apply a0B | apply a0E | refine a0I ?_ bN.out) | exact HB.out))));have bE:=a0A.mk (a0U (g:=bM) (o:=.cells #[.string dQ,.slice gR bS.length fZ,.slice fW cG.length fX] 32 (0,0)) (by (with_reducible repeat (first | refine a0L ?_ _ | refine a0M ?_ | refine a0K ?_ _));exact aH.out) hb);have bT:=a0A.mk (a0H (by repeat (first | (with_reducible first | exact HB.out | apply a0D | apply a0B | apply a0E | refine a0I ?_ bN.out) | exact HB.out)) hb);clear aH;clear HB;have HO213:=bD;have aH:=bE;have HB:=bT;clear bD bE bT;clear hb ho4))
 go_loopg [3,4] k (fun kq v3 v4 w' =>∃ (aY:List ByteArray) (aC:Int),v4 = .int .i64 aC∧a0A (r05_Vars.l0 kq aY aC dQ bS cG = some r)∧a0A (kq≤k)∧a0A (Kd.R Kd.string 9 w' w.heap.size (fun _ =>True) v3 aY)∧a0A (w'.heap[bM]? = some (.cells #[.string dQ,(.slice gR bS.length fZ),(.slice fW cG.length fX)] 32 (0,0)))∧a0A (Below w.heap.size w w'))
 case atStart =>exact ⟨(y211),(0),(by first | rfl | (simp;done) | (simp [*];done)),H',⟨Nat.le_refl _⟩,⟨by (with_reducible repeat (first | apply Kd.a1N | apply Kd.a1M | apply Kd.a1S));exact HO213.out⟩,⟨by (with_reducible repeat (first | refine a0L ?_ _ | refine a0M ?_ | refine a0K ?_ _));exact aH.out⟩,⟨by repeat (first | (with_reducible first | exact HB.out | apply a0D | apply a0B | apply a0E | refine a0I ?_ bN.out) | exact HB.out)⟩⟩
 case round =>
  clear H'
  try clear c1
  try clear p2
  obtain ⟨aY,aC,rfl,HA,HK1,aE,aH,HB⟩:=hrel
  cases gk with
  | zero =>exact absurd HA.out (by simp [r05_Vars.l0])
  | succ k1 =>
   have H:=HA.out
   clear HA
   simp only [r05_Vars.l0] at H
   by_cases c5:aC < (bS.length:Int)
   ·rw [if_pos c5] at H
    have c5b0:decide (aC < (bS.length:Int)) = true:=decide_eq_true c5
    clear c5
    by_cases c6:0≤aC
    ·rw [if_pos c6] at H
     have c6b0:decide (0≤aC) = true:=decide_eq_true c6
     clear c6
     replace H:=Option.bind_eq_some_iff.mp H
     obtain ⟨t215,A70,H⟩:=H
     replace H:(r05_Vars.l0 k1 t215 (wrap64 (aC + 1)) dQ bS cG) = some r:=H
     have A7:=a0A.mk A70
     clear A70
     have H':=a0A.mk H
     clear H
     have fG:wr.cell? ⟨bM,0,none⟩ = some (.string dQ):=(a0G aH.out 0).trans rfl
     have aF2:wr.cell? ⟨bM,1,none⟩ = some (.slice gR bS.length fZ):=(a0G aH.out 1).trans rfl
     have aF3:wr.cell? ⟨bM,2,none⟩ = some (.slice fW cG.length fX):=(a0G aH.out 2).trans rfl
     have fH:=a0F aH.out 0
     have aF4:=a0F aH.out 1
     have aF5:=a0F aH.out 2
     have p214:0≤(aC:Int):=of_decide_eq_true (by first | (with_reducible assumption) | assumption)
     have q214:aC < (bS.length:Int):=of_decide_eq_true (by first | (with_reducible assumption) | assumption)
     obtain ⟨ad214,e214,kO⟩:=Kd.a2D aU9.out aC p214 q214
     cases e214
     replace kO:=a0C HB.out kO
     replace p214:=eq_true p214
     replace q214:=eq_true q214
     obtain ⟨Ao9,co9,eo9⟩:=Kd.a3O aE.out
     subst eo9
     go_wp2_with (first | ((with_reducible refine a1H (f:=19) rfl ?_);refine a2G (some 22) rfl rfl Try.func19 (by kernel_rfl) rfl #[.slice Ao9 aY.length co9,.string (rdOf ByteArray.empty bS aC)] rfl (by (try simp only [List.map_toArray,List.map_cons,List.map_nil]);first | done | rfl | (simp only [List.length_drop,List.length_take];rfl)) ?_;(with_reducible refine (r05_With.calls k1 _ _ aY (rdOf ByteArray.empty bS aC) t215 _ ?side1 ?side2 A7.out).mono ?_);(case side1 =>repeat (first | exact (Kd.a1Y aE.out).2.2 | (with_reducible refine Kd.a0R ?_ _) | (with_reducible refine Kd.a0Q ?_ _) | (with_reducible refine Kd.a1B ?_)));(case side2 =>exact (Kd.a1Y aE.out).2.1);rintro e w10 ⟨v216,rfl,ho0,hb⟩;refine ⟨_,rfl,?_⟩;have bD:=a0A.mk (Kd.a4K (by (with_reducible repeat (first | apply Kd.a1N | apply Kd.a1M | apply Kd.a1S));exact aE.out) (Kd.a1X ho0) hb);have bE:=a0A.mk (Kd.a2Y (Kd.a6U ho0 (Kd.R_lt (by (with_reducible repeat (first | apply Kd.a1N | apply Kd.a1M | apply Kd.a1S));exact aE.out))) (a0V (by repeat (first | (with_reducible first | exact HB.out | apply a0D | apply a0B | apply a0E | refine a0I ?_ bN.out) | exact HB.out))));have bT:=a0A.mk (a0U (g:=bM) (o:=.cells #[.string dQ,.slice (some ad214) bS.length fZ,.slice fW cG.length fX] 32 (0,0)) (by (with_reducible repeat (first | refine a0L ?_ _ | refine a0M ?_ | refine a0K ?_ _));exact aH.out) hb);have cI:=a0A.mk (a0H (by repeat (first | (with_reducible first | exact HB.out | apply a0D | apply a0B | apply a0E | refine a0I ?_ bN.out) | exact HB.out)) hb);clear aE;clear aH;clear HB;have aE:=bD;have HO217:=bE;have aH:=bT;have HB:=cI;clear bD bE bT cI;(try clear hb);(try clear hb2);(try clear hk);(try clear hi);(try clear ho0)))
     go_roundg k1
     case measure =>have:=HK1.out;omega
     case rel =>exact ⟨(t215),(wrap64 (aC + 1)),(by first | rfl | (simp;done) | (simp [*];done)),H',⟨by have:=HK1.out;omega⟩,⟨by (with_reducible repeat (first | apply Kd.a1N | apply Kd.a1M | apply Kd.a1S));exact Kd.a5P HO217.out (fun _ hk =>trivial)⟩,⟨by (with_reducible repeat (first | refine a0L ?_ _ | refine a0M ?_ | refine a0K ?_ _));exact aH.out⟩,⟨by repeat (first | (with_reducible first | exact HB.out | apply a0D | apply a0B | apply a0E | refine a0I ?_ bN.out) | exact HB.out)⟩⟩
    ·rw [if_neg c6] at H
     exact absurd H (by simp)
   ·rw [if_neg c5] at H
    have c5b0:decide (aC < (bS.length:Int)) = false:=decide_eq_false c5
    clear c5
    replace H:=Option.bind_eq_some_iff.mp H
    obtain ⟨t218,A110,H⟩:=H
    replace H:(r05_Vars.l1 k1 aY t218 0) = some r:=H
    have A11:=a0A.mk A110
    clear A110
    have H':=a0A.mk H
    clear H
    have sQ:wr.cell? ⟨bM,0,none⟩ = some (.string dQ):=(a0G aH.out 0).trans rfl
    have sR:wr.cell? ⟨bM,1,none⟩ = some (.slice gR bS.length fZ):=(a0G aH.out 1).trans rfl
    have sS:wr.cell? ⟨bM,2,none⟩ = some (.slice fW cG.length fX):=(a0G aH.out 2).trans rfl
    have sT:=a0F aH.out 0
    have sU:=a0F aH.out 1
    have sV:=a0F aH.out 2
    go_wp2_with (first | ((with_reducible refine a1H (f:=28) rfl ?_);refine a2G (some 25) rfl rfl Try.func28 (by kernel_rfl) rfl #[.slice fW cG.length fX] rfl (by (try simp only [List.map_toArray,List.map_cons,List.map_nil]);first | done | rfl | (simp only [List.length_drop,List.length_take];rfl)) ?_;(with_reducible refine (r04_List.calls k1 (fun k_ =>k_ < w.heap.size) _ _ cG t218 _ ?side1 A11.out).mono ?_);(case side1 =>exact Kd.V_mk aV1.out (Kd.a1W (Kd.C_F a6M aV0.out) (by repeat (first | (with_reducible first | exact HB.out | apply a0D | apply a0B | apply a0E | refine a0I ?_ bN.out) | exact HB.out))));rintro e w13 ⟨v219,rfl,ho0,hb⟩;refine ⟨_,rfl,?_⟩;have bD:=a0A.mk (Kd.a8U (by (with_reducible repeat (first | apply Kd.a1N | apply Kd.a1M | apply Kd.a1S));exact aE.out) hb);have bE:=a0A.mk (Kd.a7P (Kd.a3P (ok':=fun k_ =>some k_≠(u3:Value).ownBlock∧k_≠bM) ho0 (fun k_ hk_ =>⟨Or.elim hk_ (fun hs_ =>fun e_ =>Nat.not_le.2 hs_ (Kd.a1X aE.out k_ e_.symm)) (fun hn_ =>(Kd.fresh' (Kd.R_lt (by (with_reducible repeat (first | apply Kd.a1N | apply Kd.a1M | apply Kd.a1S));exact aE.out)) k_ hn_)),Or.elim hk_ (fun hs_ =>fun e_ =>Nat.not_le.2 hs_ (by rw [e_];exact GW210.out)) (fun hn_ =>(Kd.freshB (g:=bM) (o:=.cells #[.string dQ,.slice gR bS.length fZ,.slice fW cG.length fX] 32 (0,0)) (by (with_reducible repeat (first | refine a0L ?_ _ | refine a0M ?_ | refine a0K ?_ _));exact aH.out) k_ hn_))⟩)) (a0V (by repeat (first | (with_reducible first | exact HB.out | apply a0D | apply a0B | apply a0E | refine a0I ?_ bN.out) | exact HB.out))));have bT:=a0A.mk (a0U (g:=bM) (o:=.cells #[.string dQ,.slice gR bS.length fZ,.slice fW cG.length fX] 32 (0,0)) (by (with_reducible repeat (first | refine a0L ?_ _ | refine a0M ?_ | refine a0K ?_ _));exact aH.out) hb);have cI:=a0A.mk (a0H (by repeat (first | (with_reducible first | exact HB.out | apply a0D | apply a0B | apply a0E | refine a0I ?_ bN.out) | exact HB.out)) hb);clear aE;clear aH;clear HB;have aE:=bD;have HO220:=bE;have aH:=bT;have HB:=cI;clear bD bE bT cI;(try clear hb);(try clear hb2);(try clear hk);(try clear hi);(try clear ho0)))
    go_loopg [3,6] k1 (fun kq v3 v6 w' =>∃ (fJ:List ByteArray) (aA:Int),v6 = .int .i64 aA∧a0A (r05_Vars.l1 kq fJ t218 aA = some r)∧a0A (kq≤k1)∧a0A (Kd.R Kd.string 9 w' w.heap.size (fun _ =>True) v3 fJ)∧a0A (Kd.N k46 46 w' w.heap.size (fun k_ =>some k_≠(v3:Value).ownBlock∧k_≠bM) v219 t218)∧a0A (w'.heap[bM]? = some (.cells #[.string dQ,(.slice gR bS.length fZ),(.slice fW cG.length fX)] 32 (0,0)))∧a0A (Below w.heap.size w w'))
    case atStart =>exact ⟨(aY),(0),(by first | rfl | (simp;done) | (simp [*];done)),H',⟨Nat.le_refl _⟩,⟨by (with_reducible repeat (first | apply Kd.a1N | apply Kd.a1M | apply Kd.a1S));exact aE.out⟩,⟨by (with_reducible repeat (first | apply Kd.a2A | apply Kd.a1Z | apply Kd.a2I));exact HO220.out⟩,⟨by (with_reducible repeat (first | refine a0L ?_ _ | refine a0M ?_ | refine a0K ?_ _));exact aH.out⟩,⟨by repeat (first | (with_reducible first | exact HB.out | apply a0D | apply a0B | apply a0E | refine a0I ?_ bN.out) | exact HB.out)⟩⟩
    case round =>
     clear H'
     try clear c1
     try clear c2
     try clear p2
     try clear q2
     try clear hx2
     try clear c5
     try clear c5b0
     try clear c6
     try clear c6b0
     try clear p6
     try clear c12
     try clear sQ
     try clear sR
     try clear sS
     try clear fG
     try clear aF2
     try clear aF3
     try clear sT
     try clear sU
     try clear sV
     try clear fH
     try clear aF4
     try clear aF5
     try clear kO
     try clear p2
     try clear p214
     try clear q214
     obtain ⟨fJ,aA,rfl,HA,HK2,aE,aD,aH,HB⟩:=hrel
     cases gk with
     | zero =>exact absurd HA.out (by simp [r05_Vars.l1])
     | succ k2 =>
      have H:=HA.out
      clear HA
      simp only [r05_Vars.l1] at H
      by_cases c14:aA < (t218.length:Int)
      ·rw [if_pos c14] at H
       have c14b0:decide (aA < (t218.length:Int)) = true:=decide_eq_true c14
       clear c14
       by_cases c15:0≤aA
       ·rw [if_pos c15] at H
        have c15b0:decide (0≤aA) = true:=decide_eq_true c15
        clear c15
        replace H:=Option.bind_eq_some_iff.mp H
        obtain ⟨t222,A160,H⟩:=H
        replace H:((r05_With.f k2 t222 ((a0J t218 aA).f2)).bind fun t226 =>(r05_Vars.l2 k2 t226 t218 aA 0)) = some r:=H
        have A16:=a0A.mk A160
        clear A160
        replace H:=Option.bind_eq_some_iff.mp H
        obtain ⟨t226,A170,H⟩:=H
        replace H:(r05_Vars.l2 k2 t226 t218 aA 0) = some r:=H
        have A17:=a0A.mk A170
        clear A170
        have H':=a0A.mk H
        clear H
        obtain ⟨Ao18,co18,eo18⟩:=Kd.a5B aD.out
        subst eo18
        try go_wp2
        have bD:=a0A.mk (Kd.a1S aE.out)
        have bE:=a0A.mk (Kd.a2I aD.out)
        have bT:=a0A.mk (a0M aH.out)
        have cI:=a0A.mk (a0E HB.out)
        clear aE
        clear aD
        clear aH
        clear HB
        have aE:=bD
        have aD:=bE
        have aH:=bT
        have HB:=cI
        clear bD bE bT cI
        have p221:0≤(aA:Int):=of_decide_eq_true (by first | (with_reducible assumption) | assumption)
        have q221:aA < (t218.length:Int):=of_decide_eq_true (by first | (with_reducible assumption) | assumption)
        obtain ⟨ad221,oA,aF6,oB,aF7,oC,aF8,oD,aF9,e221,oE,oF,oG,oH,gS,gT,gU,gV,sW,sX,sY,sZ,tA,tB,tC,tD⟩:=a3C (Kd.a1V aD.out).2.2 aA p221 q221
        cases e221
        obtain ⟨ce221,aR0,aR1,mQ⟩:=Kd.a6I aD.out z46 aA p221 (by first | exact q221 | exact of_decide_eq_true (by first | (with_reducible assumption) | assumption) | (have e_:=(Kd.a1V aD.out).1;omega))
        obtain ⟨bB9,bC0,bC1,bC2,bC3,bC4,bC5,bC6,rfl,oI,oJ,oK,oL,oM,oN,oO,oP⟩:=a2H aR1
        have kP:=mQ 4 _ rfl
        rw [a0W _ _ 4 (by omega)] at kP
        replace kP:=Option.some.inj (kP.symm.trans gS)
        injection kP with hva_ hvn_ hvc_
        rw [hva_] at oJ
        rw [hvc_] at oI
        have dV:=a0A.mk (show Kd.V k56 56 _ w.heap.size _ _ ((a0J t218 aA).f4) from Kd.V_mk oI oJ)
        clear hva_ hvn_ hvc_ oJ oI
        have kQ:=mQ 5 _ rfl
        rw [a0W _ _ 5 (by omega)] at kQ
        replace kQ:=Option.some.inj (kQ.symm.trans gT)
        injection kQ with hva_ hvn_ hvc_
        rw [hva_] at oL
        rw [hvc_] at oK
        have dW:=a0A.mk (show Kd.V Kd.string 9 _ w.heap.size _ _ ((a0J t218 aA).f5) from Kd.V_mk oK oL)
        clear hva_ hvn_ hvc_ oL oK
        have kR:=mQ 6 _ rfl
        rw [a0W _ _ 6 (by omega)] at kR
        replace kR:=Option.some.inj (kR.symm.trans gU)
        injection kR with hva_ hvn_ hvc_
        rw [hva_] at oN
        rw [hvc_] at oM
        have dX:=a0A.mk (show Kd.V k46 46 _ w.heap.size _ _ ((a0J t218 aA).f6) from Kd.V_mk oM oN)
        clear hva_ hvn_ hvc_ oN oM
        have kS:=mQ 7 _ rfl
        rw [a0W _ _ 7 (by omega)] at kS
        replace kS:=Option.some.inj (kS.symm.trans gV)
        injection kS with hva_ hvn_ hvc_
        rw [hva_] at oP
        rw [hvc_] at oO
        have dY:=a0A.mk (show Kd.V k46 46 _ w.heap.size _ _ ((a0J t218 aA).f7) from Kd.V_mk oO oP)
        clear hva_ hvn_ hvc_ oP oO
        clear mQ aR0
        have aJ:=a0A.mk sX
        have bC7:=a0A.mk sW
        clear sX sW
        have aK:=a0A.mk sZ
        have bC8:=a0A.mk sY
        clear sZ sY
        have aM:=a0A.mk tB
        have bC9:=a0A.mk tA
        clear tB tA
        have aN:=a0A.mk tD
        have bD0:=a0A.mk tC
        clear tD tC
        replace p221:=eq_true p221
        replace q221:=eq_true q221
        have p225:0≤(aA:Int):=of_decide_eq_true (by first | (with_reducible assumption) | assumption)
        have q225:aA < (t218.length:Int):=of_decide_eq_true (by first | (with_reducible assumption) | assumption)
        obtain ⟨ad225,bN1,bN2,bN3,bN4,bN5,bN6,bN7,bN8,e225,oQ,oR,oS,oT,gW,gX,gY,gZ,tE,tF,tG,tH,tI,tJ,tK,tL⟩:=a3C (Kd.a1V aD.out).2.2 aA p225 q225
        obtain rfl:ad221 = ad225:=(by injection e225)
        obtain ⟨ce225,aR2,aR3,mR⟩:=Kd.a6I aD.out z46 aA p225 (by first | exact q225 | exact of_decide_eq_true (by first | (with_reducible assumption) | assumption) | (have e_:=(Kd.a1V aD.out).1;omega))
        obtain ⟨bD1,bD2,bD3,bD4,bD5,bD6,bD7,bD8,rfl,oU,oV,oW,oX,oY,oZ,pA,pB⟩:=a2H aR3
        have kT:=mR 4 _ rfl
        rw [a0W _ _ 4 (by omega)] at kT
        replace kT:=Option.some.inj (kT.symm.trans gW)
        injection kT with hva_ hvn_ hvc_
        rw [hva_] at oV
        rw [hvc_] at oU
        have dZ:=a0A.mk (show Kd.V k56 56 _ w.heap.size _ _ ((a0J t218 aA).f4) from Kd.V_mk oU oV)
        clear hva_ hvn_ hvc_ oV oU
        have kU:=mR 5 _ rfl
        rw [a0W _ _ 5 (by omega)] at kU
        replace kU:=Option.some.inj (kU.symm.trans gX)
        injection kU with hva_ hvn_ hvc_
        rw [hva_] at oX
        rw [hvc_] at oW
        have eB:=a0A.mk (show Kd.V Kd.string 9 _ w.heap.size _ _ ((a0J t218 aA).f5) from Kd.V_mk oW oX)
        clear hva_ hvn_ hvc_ oX oW
        have kV:=mR 6 _ rfl
        rw [a0W _ _ 6 (by omega)] at kV
        replace kV:=Option.some.inj (kV.symm.trans gY)
        injection kV with hva_ hvn_ hvc_
        rw [hva_] at oZ
        rw [hvc_] at oY
        have eC:=a0A.mk (show Kd.V k46 46 _ w.heap.size _ _ ((a0J t218 aA).f6) from Kd.V_mk oY oZ)
        clear hva_ hvn_ hvc_ oZ oY
        have kW:=mR 7 _ rfl
        rw [a0W _ _ 7 (by omega)] at kW
        replace kW:=Option.some.inj (kW.symm.trans gZ)
        injection kW with hva_ hvn_ hvc_
        rw [hva_] at pB
        rw [hvc_] at pA
        have eD:=a0A.mk (show Kd.V k46 46 _ w.heap.size _ _ ((a0J t218 aA).f7) from Kd.V_mk pA pB)
        clear hva_ hvn_ hvc_ pB pA
        clear mR aR2
        have aQ:=a0A.mk tF
        have bD9:=a0A.mk tE
        clear tF tE
        have aT:=a0A.mk tH
        have bE0:=a0A.mk tG
        clear tH tG
        have aU:=a0A.mk tJ
        have bE1:=a0A.mk tI
        clear tJ tI
        have aV:=a0A.mk tL
        have bE2:=a0A.mk tK
        clear tL tK
        replace p225:=eq_true p225
        replace q225:=eq_true q225
        have ea_:=Option.some.inj (gS.symm.trans gW)
        injection ea_ with ea_ en_ ec_
        subst ea_
        subst ec_
        clear en_
        have ea_:=Option.some.inj (gT.symm.trans gX)
        injection ea_ with ea_ en_ ec_
        subst ea_
        subst ec_
        clear en_
        have ea_:=Option.some.inj (gU.symm.trans gY)
        injection ea_ with ea_ en_ ec_
        subst ea_
        subst ec_
        clear en_
        have ea_:=Option.some.inj (gV.symm.trans gZ)
        injection ea_ with ea_ en_ ec_
        subst ea_
        subst ec_
        clear en_
        obtain ⟨Ao20,co20,eo20⟩:=Kd.a3O aE.out
        (first | subst eo20 | (injection eo20 with f1_ f2_ f3_;have f4_:=f1_.symm;have f5_:=f3_.symm;clear f1_ f2_ f3_;subst f4_;subst f5_))
        refine a4L (n:=14) (S:=fun w' =>w'.cell? (ad221.add ((aA).toNat * 8)) = some (.int .i64 ((a0J t218 aA).f0))∧w'.cell? ⟨(ad221.add ((aA).toNat * 8)).block,(ad221.add ((aA).toNat * 8)).off + 1,none⟩ = some (.string ((a0J t218 aA).f1))∧w'.cell? ⟨(ad221.add ((aA).toNat * 8)).block,(ad221.add ((aA).toNat * 8)).off + 2,none⟩ = some (.string ((a0J t218 aA).f2))∧w'.cell? ⟨(ad221.add ((aA).toNat * 8)).block,(ad221.add ((aA).toNat * 8)).off + 3,none⟩ = some (.string ((a0J t218 aA).f3))∧w'.cell? ⟨(ad221.add ((aA).toNat * 8)).block,(ad221.add ((aA).toNat * 8)).off + 4,none⟩ = some (.slice oA ((a0J t218 aA).f4).length aF6)∧w'.cell? ⟨(ad221.add ((aA).toNat * 8)).block,(ad221.add ((aA).toNat * 8)).off + 5,none⟩ = some (.slice oB ((a0J t218 aA).f5).length aF7)∧w'.cell? ⟨(ad221.add ((aA).toNat * 8)).block,(ad221.add ((aA).toNat * 8)).off + 6,none⟩ = some (.slice oC ((a0J t218 aA).f6).length aF8)∧w'.cell? ⟨(ad221.add ((aA).toNat * 8)).block,(ad221.add ((aA).toNat * 8)).off + 7,none⟩ = some (.slice oD ((a0J t218 aA).f7).length aF9)∧w'.cell? (ad221.add ((aA).toNat * 8)) = some (.int .i64 ((a0J t218 aA).f0))∧w'.cell? ⟨(ad221.add ((aA).toNat * 8)).block,(ad221.add ((aA).toNat * 8)).off + 1,none⟩ = some (.string ((a0J t218 aA).f1))∧w'.cell? ⟨(ad221.add ((aA).toNat * 8)).block,(ad221.add ((aA).toNat * 8)).off + 2,none⟩ = some (.string ((a0J t218 aA).f2))∧w'.cell? ⟨(ad221.add ((aA).toNat * 8)).block,(ad221.add ((aA).toNat * 8)).off + 3,none⟩ = some (.string ((a0J t218 aA).f3))∧w'.cell? ⟨(ad221.add ((aA).toNat * 8)).block,(ad221.add ((aA).toNat * 8)).off + 4,none⟩ = some (.slice oA ((a0J t218 aA).f4).length aF6)∧w'.cell? ⟨(ad221.add ((aA).toNat * 8)).block,(ad221.add ((aA).toNat * 8)).off + 5,none⟩ = some (.slice oB ((a0J t218 aA).f5).length aF7)∧w'.cell? ⟨(ad221.add ((aA).toNat * 8)).block,(ad221.add ((aA).toNat * 8)).off + 6,none⟩ = some (.slice oC ((a0J t218 aA).f6).length aF8)∧w'.cell? ⟨(ad221.add ((aA).toNat * 8)).block,(ad221.add ((aA).toNat * 8)).off + 7,none⟩ = some (.slice oD ((a0J t218 aA).f7).length aF9)) (ds:=[]) #[false,false,false,false,false,false,false,false,false,false,false,false,false,false] (by kernel_rfl) rfl rfl ⟨oE,oF,oG,oH,gS,gT,gU,gV,oQ,oR,oS,oT,gW,gX,gY,gZ⟩ (fun hHeld =>?_);refine a2R r05_Vars.tab10 r05_Vars.bits10 (fun HT_ HW_ =>?_)
        generalize wr.drew = w19 at aE aD aH HB dV dW dX dY dZ eB eC eD aJ aK aM aN aQ aT aU aV oE oF oG oH gS gT gU gV oQ oR oS oT gW gX gY gZ hHeld ⊢
        refine a1E (i:=0) (N:=some 32) (v:=?_) (a':=?_) #[true,false,false,false,false,false,false,false,false,false,false,false,false,false] rfl rfl (a0Z HT_.out (by kernel_rfl)) (fun _ _ _ h =>h) (Or.inl ⟨by rfl,?_⟩) ?_ ?_
        rotate_left
        ·intro w'
         go_simp
         with_reducible rfl
        rotate_left
        ·simp only [Act.put,List.setIfInBounds_toArray,List.set_cons_zero,List.set_cons_succ,a0X,a0Y]
         rfl
        refine a1E (i:=1) (N:=some 33) (v:=?_) (a':=?_) #[true,true,false,false,false,false,false,false,false,false,false,false,false,false] rfl rfl (a0Z HT_.out (by kernel_rfl)) (fun _ _ _ h =>h) (Or.inl ⟨by rfl,?_⟩) ?_ ?_
        rotate_left
        ·intro w'
         go_simp
         with_reducible rfl
        rotate_left
        ·simp only [Act.put,List.setIfInBounds_toArray,List.set_cons_zero,List.set_cons_succ,a0X,a0Y]
         rfl
        refine a1E (i:=2) (N:=some 34) (v:=?_) (a':=?_) #[true,true,true,false,false,false,false,false,false,false,false,false,false,false] rfl rfl (a0Z HT_.out (by kernel_rfl)) (fun _ _ _ h =>h) (Or.inl ⟨by rfl,?_⟩) ?_ ?_
        rotate_left
        ·intro w'
         go_simp
         with_reducible rfl
        rotate_left
        ·simp only [Act.put,List.setIfInBounds_toArray,List.set_cons_zero,List.set_cons_succ,a0X,a0Y]
         rfl
        refine a1E (i:=3) (N:=some 35) (v:=?_) (a':=?_) #[true,true,true,true,false,false,false,false,false,false,false,false,false,false] rfl rfl (a0Z HT_.out (by kernel_rfl)) (fun _ _ _ h =>h) (Or.inl ⟨by rfl,?_⟩) ?_ ?_
        rotate_left
        ·intro w'
         go_simp
         with_reducible rfl
        rotate_left
        ·simp only [Act.put,List.setIfInBounds_toArray,List.set_cons_zero,List.set_cons_succ,a0X,a0Y]
         rfl
        refine a1E (i:=4) (N:=some 36) (v:=?_) (a':=?_) #[true,true,true,true,true,false,false,false,false,false,false,false,false,false] rfl rfl (a0Z HT_.out (by kernel_rfl)) (fun _ _ _ h =>h) (Or.inl ⟨by rfl,?_⟩) ?_ ?_
        rotate_left
        ·intro w'
         go_simp
         with_reducible rfl
        rotate_left
        ·simp only [Act.put,List.setIfInBounds_toArray,List.set_cons_zero,List.set_cons_succ,a0X,a0Y]
         rfl
        refine a1E (i:=7) (N:=some 39) (v:=?_) (a':=?_) #[true,true,true,true,true,false,false,true,false,false,false,false,false,false] rfl rfl (a0Z HT_.out (by kernel_rfl)) (fun _ _ _ h =>h) (Or.inl ⟨by rfl,?_⟩) ?_ ?_
        rotate_left
        ·intro w'
         go_simp
         with_reducible rfl
        rotate_left
        ·simp only [Act.put,List.setIfInBounds_toArray,List.set_cons_zero,List.set_cons_succ,a0X,a0Y]
         rfl
        refine a1E (i:=8) (N:=some 40) (v:=?_) (a':=?_) #[true,true,true,true,true,false,false,true,true,false,false,false,false,false] rfl rfl (a0Z HT_.out (by kernel_rfl)) (fun _ _ _ h =>h) (Or.inl ⟨by rfl,?_⟩) ?_ ?_
        rotate_left
        ·intro w'
         go_simp
         with_reducible rfl
        rotate_left
        ·simp only [Act.put,List.setIfInBounds_toArray,List.set_cons_zero,List.set_cons_succ,a0X,a0Y]
         rfl
        refine a1E (i:=9) (N:=some 41) (v:=?_) (a':=?_) #[true,true,true,true,true,false,false,true,true,true,false,false,false,false] rfl rfl (a0Z HT_.out (by kernel_rfl)) (fun _ _ _ h =>h) (Or.inl ⟨by rfl,?_⟩) ?_ ?_
        rotate_left
        ·intro w'
         go_simp
         with_reducible rfl
        rotate_left
        ·simp only [Act.put,List.setIfInBounds_toArray,List.set_cons_zero,List.set_cons_succ,a0X,a0Y]
         rfl
        refine a1E (i:=10) (N:=some 42) (v:=?_) (a':=?_) #[true,true,true,true,true,false,false,true,true,true,true,false,false,false] rfl rfl (a0Z HT_.out (by kernel_rfl)) (fun _ _ _ h =>h) (Or.inl ⟨by rfl,?_⟩) ?_ ?_
        rotate_left
        ·intro w'
         go_simp
         with_reducible rfl
        rotate_left
        ·simp only [Act.put,List.setIfInBounds_toArray,List.set_cons_zero,List.set_cons_succ,a0X,a0Y]
         rfl
        refine a2M (i:=5) (N:=some 37) (v:=?_) (a':=?_) #[true,true,true,true,true,true,false,true,true,true,true,false,false,false] rfl rfl (a1O HT_.out HW_.out (by kernel_rfl)) (fun _ _ _ h =>h) (Or.inl ⟨by rfl,?_⟩) hHeld ?_ ?_
        rotate_left
        ·rintro w' ⟨s0,s1,s2,s3,s4,s5,s6,s7,s8,s9,s10,s11,s12,s13,s14,s15⟩
         go_simp
         with_reducible rfl
        rotate_left
        ·simp only [Act.put,List.setIfInBounds_toArray,List.set_cons_zero,List.set_cons_succ,a0X,a0Y]
         rfl
        refine a2M (i:=11) (N:=some 43) (v:=?_) (a':=?_) #[true,true,true,true,true,true,false,true,true,true,true,true,false,false] rfl rfl (a1O HT_.out HW_.out (by kernel_rfl)) (fun _ _ _ h =>h) (Or.inl ⟨by rfl,?_⟩) hHeld ?_ ?_
        rotate_left
        ·rintro w' ⟨s0,s1,s2,s3,s4,s5,s6,s7,s8,s9,s10,s11,s12,s13,s14,s15⟩
         go_simp
         with_reducible rfl
        rotate_left
        ·simp only [Act.put,List.setIfInBounds_toArray,List.set_cons_zero,List.set_cons_succ,a0X,a0Y]
         rfl
        refine one_ (i:=6) (N:=some 38) #[true,true,true,true,true,true,true,true,true,true,true,true,false,false] rfl rfl (a2O HT_.out (by kernel_rfl)) (by decide) (fun K hK =>?_)
        refine a3K Try.func19 (by kernel_rfl) rfl #[.slice Ao20 fJ.length co20,.string ((a0J t218 aA).f1)] (by rfl) rfl rfl (by (try simp only [List.map_toArray,List.map_cons,List.map_nil]);first | done | rfl | (simp only [List.length_drop,List.length_take];rfl)) ?_
        with_reducible refine (r05_With.calls k2 _ _ fJ ((a0J t218 aA).f1) t222 _ ?side1 ?side2 A16.out).mono ?_
        (case side1 =>repeat (first | exact (Kd.a1Y aE.out).2.2 | (with_reducible refine Kd.a0R ?_ _) | (with_reducible refine Kd.a0Q ?_ _) | (with_reducible refine Kd.a1B ?_)))
        (case side2 =>exact (Kd.a1Y aE.out).2.1)
        rintro e w21 ⟨v223,rfl,ho0,hb⟩
        have HS0_:=(hb.cell (World.block_lt_of_cell? _ _ (hHeld.1))).trans (hHeld.1)
        have HS1_:=(hb.cell (World.block_lt_of_cell? _ _ (hHeld.2.1))).trans (hHeld.2.1)
        have HS2_:=(hb.cell (World.block_lt_of_cell? _ _ (hHeld.2.2.1))).trans (hHeld.2.2.1)
        have HS3_:=(hb.cell (World.block_lt_of_cell? _ _ (hHeld.2.2.2.1))).trans (hHeld.2.2.2.1)
        have HS4_:=(hb.cell (World.block_lt_of_cell? _ _ (hHeld.2.2.2.2.1))).trans (hHeld.2.2.2.2.1)
        have HS5_:=(hb.cell (World.block_lt_of_cell? _ _ (hHeld.2.2.2.2.2.1))).trans (hHeld.2.2.2.2.2.1)
        have HS6_:=(hb.cell (World.block_lt_of_cell? _ _ (hHeld.2.2.2.2.2.2.1))).trans (hHeld.2.2.2.2.2.2.1)
        have HS7_:=(hb.cell (World.block_lt_of_cell? _ _ (hHeld.2.2.2.2.2.2.2.1))).trans (hHeld.2.2.2.2.2.2.2.1)
        have HS8_:=(hb.cell (World.block_lt_of_cell? _ _ (hHeld.2.2.2.2.2.2.2.2.1))).trans (hHeld.2.2.2.2.2.2.2.2.1)
        have HS9_:=(hb.cell (World.block_lt_of_cell? _ _ (hHeld.2.2.2.2.2.2.2.2.2.1))).trans (hHeld.2.2.2.2.2.2.2.2.2.1)
        have HS10_:=(hb.cell (World.block_lt_of_cell? _ _ (hHeld.2.2.2.2.2.2.2.2.2.2.1))).trans (hHeld.2.2.2.2.2.2.2.2.2.2.1)
        have HS11_:=(hb.cell (World.block_lt_of_cell? _ _ (hHeld.2.2.2.2.2.2.2.2.2.2.2.1))).trans (hHeld.2.2.2.2.2.2.2.2.2.2.2.1)
        have HS12_:=(hb.cell (World.block_lt_of_cell? _ _ (hHeld.2.2.2.2.2.2.2.2.2.2.2.2.1))).trans (hHeld.2.2.2.2.2.2.2.2.2.2.2.2.1)
        have HS13_:=(hb.cell (World.block_lt_of_cell? _ _ (hHeld.2.2.2.2.2.2.2.2.2.2.2.2.2.1))).trans (hHeld.2.2.2.2.2.2.2.2.2.2.2.2.2.1)
        have HS14_:=(hb.cell (World.block_lt_of_cell? _ _ (hHeld.2.2.2.2.2.2.2.2.2.2.2.2.2.2.1))).trans (hHeld.2.2.2.2.2.2.2.2.2.2.2.2.2.2.1)
        have HS15_:=(hb.cell (World.block_lt_of_cell? _ _ (hHeld.2.2.2.2.2.2.2.2.2.2.2.2.2.2.2))).trans (hHeld.2.2.2.2.2.2.2.2.2.2.2.2.2.2.2)
        refine ⟨_,rfl,?_⟩
        have bD:=a0A.mk (Kd.a4K (by (with_reducible repeat (first | apply Kd.a1N | apply Kd.a1M | apply Kd.a1S));exact aE.out) (Kd.a1X ho0) hb)
        have bE:=a0A.mk (Kd.a5E (by (with_reducible repeat (first | apply Kd.a2A | apply Kd.a1Z | apply Kd.a2I));exact aD.out) (Kd.a1X ho0) hb)
        have bT:=a0A.mk (Kd.a1I (by (with_reducible repeat (first | apply Kd.a1G | apply Kd.a1F | apply Kd.a1J));exact dV.out) (Kd.a1X ho0) hb)
        have cI:=a0A.mk (Kd.a1I (by (with_reducible repeat (first | apply Kd.a1G | apply Kd.a1F | apply Kd.a1J));exact dW.out) (Kd.a1X ho0) hb)
        have gK:=a0A.mk (Kd.a1I (by (with_reducible repeat (first | apply Kd.a1G | apply Kd.a1F | apply Kd.a1J));exact dX.out) (Kd.a1X ho0) hb)
        have gL:=a0A.mk (Kd.a1I (by (with_reducible repeat (first | apply Kd.a1G | apply Kd.a1F | apply Kd.a1J));exact dY.out) (Kd.a1X ho0) hb)
        have gM:=a0A.mk (Kd.a1I (by (with_reducible repeat (first | apply Kd.a1G | apply Kd.a1F | apply Kd.a1J));exact dZ.out) (Kd.a1X ho0) hb)
        have jR:=a0A.mk (Kd.a1I (by (with_reducible repeat (first | apply Kd.a1G | apply Kd.a1F | apply Kd.a1J));exact eB.out) (Kd.a1X ho0) hb)
        have jS:=a0A.mk (Kd.a1I (by (with_reducible repeat (first | apply Kd.a1G | apply Kd.a1F | apply Kd.a1J));exact eC.out) (Kd.a1X ho0) hb)
        have jT:=a0A.mk (Kd.a1I (by (with_reducible repeat (first | apply Kd.a1G | apply Kd.a1F | apply Kd.a1J));exact eD.out) (Kd.a1X ho0) hb)
        have cE:=a0A.mk (Kd.a2Y (Kd.a6U ho0 (Kd.R_lt (by (with_reducible repeat (first | apply Kd.a1N | apply Kd.a1M | apply Kd.a1S));exact aE.out))) (a0V (by repeat (first | (with_reducible first | exact HB.out | apply a0D | apply a0B | apply a0E | refine a0I ?_ bN.out) | exact HB.out))))
        have cF:=a0A.mk (a0U (g:=bM) (o:=.cells #[.string dQ,.slice gR bS.length fZ,.slice fW cG.length fX] 32 (0,0)) (by (with_reducible repeat (first | refine a0L ?_ _ | refine a0M ?_ | refine a0K ?_ _));exact aH.out) hb)
        have cZ:=a0A.mk (Kd.a0N (by repeat (first | (with_reducible exact aJ.out) | (with_reducible refine Kd.a0R ?_ _) | (with_reducible refine Kd.a0Q ?_ _) | (with_reducible refine Kd.a1B ?_) | exact aJ.out)) hb)
        have dR:=a0A.mk (Kd.a0N (by repeat (first | (with_reducible exact aK.out) | (with_reducible refine Kd.a0R ?_ _) | (with_reducible refine Kd.a0Q ?_ _) | (with_reducible refine Kd.a1B ?_) | exact aK.out)) hb)
        have dS:=a0A.mk (Kd.a0N (by repeat (first | (with_reducible exact aM.out) | (with_reducible refine Kd.a0R ?_ _) | (with_reducible refine Kd.a0Q ?_ _) | (with_reducible refine Kd.a1B ?_) | exact aM.out)) hb)
        have dT:=a0A.mk (Kd.a0N (by repeat (first | (with_reducible exact aN.out) | (with_reducible refine Kd.a0R ?_ _) | (with_reducible refine Kd.a0Q ?_ _) | (with_reducible refine Kd.a1B ?_) | exact aN.out)) hb)
        have fI:=a0A.mk (Kd.a0N (by repeat (first | (with_reducible exact aQ.out) | (with_reducible refine Kd.a0R ?_ _) | (with_reducible refine Kd.a0Q ?_ _) | (with_reducible refine Kd.a1B ?_) | exact aQ.out)) hb)
        have gN:=a0A.mk (Kd.a0N (by repeat (first | (with_reducible exact aT.out) | (with_reducible refine Kd.a0R ?_ _) | (with_reducible refine Kd.a0Q ?_ _) | (with_reducible refine Kd.a1B ?_) | exact aT.out)) hb)
        have gO:=a0A.mk (Kd.a0N (by repeat (first | (with_reducible exact aU.out) | (with_reducible refine Kd.a0R ?_ _) | (with_reducible refine Kd.a0Q ?_ _) | (with_reducible refine Kd.a1B ?_) | exact aU.out)) hb)
        have gP:=a0A.mk (Kd.a0N (by repeat (first | (with_reducible exact aV.out) | (with_reducible refine Kd.a0R ?_ _) | (with_reducible refine Kd.a0Q ?_ _) | (with_reducible refine Kd.a1B ?_) | exact aV.out)) hb)
        have gQ:=a0A.mk (a0H (by repeat (first | (with_reducible first | exact HB.out | apply a0D | apply a0B | apply a0E | refine a0I ?_ bN.out) | exact HB.out)) hb)
        clear aE
        clear aD
        clear dV
        clear dW
        clear dX
        clear dY
        clear dZ
        clear eB
        clear eC
        clear eD
        clear aH
        clear aJ
        clear aK
        clear aM
        clear aN
        clear aQ
        clear aT
        clear aU
        clear aV
        clear HB
        have aE:=bD
        have aD:=bE
        have dV:=bT
        have dW:=cI
        have dX:=gK
        have dY:=gL
        have dZ:=gM
        have eB:=jR
        have eC:=jS
        have eD:=jT
        have HO224:=cE
        have aH:=cF
        have aJ:=cZ
        have aK:=dR
        have aM:=dS
        have aN:=dT
        have aQ:=fI
        have aT:=gN
        have aU:=gO
        have aV:=gP
        have HB:=gQ
        clear bD bE bT cI gK gL gM jR jS jT cE cF cZ dR dS dT fI gN gO gP gQ
        (try clear hb)
        (try clear hb2)
        (try clear hk)
        (try clear hi)
        (try clear ho0)
        obtain ⟨Ao22,co22,eo22⟩:=Kd.a3O HO224.out
        (first | subst eo22 | (injection eo22 with f1_ f2_ f3_;have f4_:=f1_.symm;have f5_:=f3_.symm;clear f1_ f2_ f3_;subst f4_;subst f5_))
        refine hK.out _ _ ⟨HS0_,HS1_,HS2_,HS3_,HS4_,HS5_,HS6_,HS7_,HS8_,HS9_,HS10_,HS11_,HS12_,HS13_,HS14_,HS15_⟩ (fun hHeld =>?_)
        clear hK K
        refine a3J (a':=?_) ?_ ?_
        rotate_left
        ·show Act.put _ (some 38) _ = _
         simp only [Act.put,List.setIfInBounds_toArray,List.set_cons_zero,List.set_cons_succ,a0X,a0Y]
         rfl
        refine one_ (i:=12) (N:=some 44) #[true,true,true,true,true,true,true,true,true,true,true,true,true,false] rfl rfl (a2O HT_.out (by kernel_rfl)) (by decide) (fun K hK =>?_)
        refine a3K Try.func19 (by kernel_rfl) rfl #[.slice Ao22 t222.length co22,.string ((a0J t218 aA).f2)] (by rfl) rfl rfl (by (try simp only [List.map_toArray,List.map_cons,List.map_nil]);first | done | rfl | (simp only [List.length_drop,List.length_take];rfl)) ?_
        with_reducible refine (r05_With.calls k2 _ _ t222 ((a0J t218 aA).f2) t226 _ ?side1 ?side2 A17.out).mono ?_
        (case side1 =>repeat (first | exact (Kd.a1Y HO224.out).2.2 | (with_reducible refine Kd.a0R ?_ _) | (with_reducible refine Kd.a0Q ?_ _) | (with_reducible refine Kd.a1B ?_)))
        (case side2 =>exact (Kd.a1Y HO224.out).2.1)
        rintro e w23 ⟨v227,rfl,ho0,hb⟩
        have HS0_:=(hb.cell (World.block_lt_of_cell? _ _ (hHeld.1))).trans (hHeld.1)
        have HS1_:=(hb.cell (World.block_lt_of_cell? _ _ (hHeld.2.1))).trans (hHeld.2.1)
        have HS2_:=(hb.cell (World.block_lt_of_cell? _ _ (hHeld.2.2.1))).trans (hHeld.2.2.1)
        have HS3_:=(hb.cell (World.block_lt_of_cell? _ _ (hHeld.2.2.2.1))).trans (hHeld.2.2.2.1)
        have HS4_:=(hb.cell (World.block_lt_of_cell? _ _ (hHeld.2.2.2.2.1))).trans (hHeld.2.2.2.2.1)
        have HS5_:=(hb.cell (World.block_lt_of_cell? _ _ (hHeld.2.2.2.2.2.1))).trans (hHeld.2.2.2.2.2.1)
        have HS6_:=(hb.cell (World.block_lt_of_cell? _ _ (hHeld.2.2.2.2.2.2.1))).trans (hHeld.2.2.2.2.2.2.1)
        have HS7_:=(hb.cell (World.block_lt_of_cell? _ _ (hHeld.2.2.2.2.2.2.2.1))).trans (hHeld.2.2.2.2.2.2.2.1)
        have HS8_:=(hb.cell (World.block_lt_of_cell? _ _ (hHeld.2.2.2.2.2.2.2.2.1))).trans (hHeld.2.2.2.2.2.2.2.2.1)
        have HS9_:=(hb.cell (World.block_lt_of_cell? _ _ (hHeld.2.2.2.2.2.2.2.2.2.1))).trans (hHeld.2.2.2.2.2.2.2.2.2.1)
        have HS10_:=(hb.cell (World.block_lt_of_cell? _ _ (hHeld.2.2.2.2.2.2.2.2.2.2.1))).trans (hHeld.2.2.2.2.2.2.2.2.2.2.1)
        have HS11_:=(hb.cell (World.block_lt_of_cell? _ _ (hHeld.2.2.2.2.2.2.2.2.2.2.2.1))).trans (hHeld.2.2.2.2.2.2.2.2.2.2.2.1)
        have HS12_:=(hb.cell (World.block_lt_of_cell? _ _ (hHeld.2.2.2.2.2.2.2.2.2.2.2.2.1))).trans (hHeld.2.2.2.2.2.2.2.2.2.2.2.2.1)
        have HS13_:=(hb.cell (World.block_lt_of_cell? _ _ (hHeld.2.2.2.2.2.2.2.2.2.2.2.2.2.1))).trans (hHeld.2.2.2.2.2.2.2.2.2.2.2.2.2.1)
        have HS14_:=(hb.cell (World.block_lt_of_cell? _ _ (hHeld.2.2.2.2.2.2.2.2.2.2.2.2.2.2.1))).trans (hHeld.2.2.2.2.2.2.2.2.2.2.2.2.2.2.1)
        have HS15_:=(hb.cell (World.block_lt_of_cell? _ _ (hHeld.2.2.2.2.2.2.2.2.2.2.2.2.2.2.2))).trans (hHeld.2.2.2.2.2.2.2.2.2.2.2.2.2.2.2)
        refine ⟨_,rfl,?_⟩
        have bD:=a0A.mk (Kd.a4K (by (with_reducible repeat (first | apply Kd.a1N | apply Kd.a1M | apply Kd.a1S));exact aE.out) (Kd.a1X ho0) hb)
        have bE:=a0A.mk (Kd.a5E (by (with_reducible repeat (first | apply Kd.a2A | apply Kd.a1Z | apply Kd.a2I));exact aD.out) (Kd.a1X ho0) hb)
        have bT:=a0A.mk (Kd.a1I (by (with_reducible repeat (first | apply Kd.a1G | apply Kd.a1F | apply Kd.a1J));exact dV.out) (Kd.a1X ho0) hb)
        have cI:=a0A.mk (Kd.a1I (by (with_reducible repeat (first | apply Kd.a1G | apply Kd.a1F | apply Kd.a1J));exact dW.out) (Kd.a1X ho0) hb)
        have gK:=a0A.mk (Kd.a1I (by (with_reducible repeat (first | apply Kd.a1G | apply Kd.a1F | apply Kd.a1J));exact dX.out) (Kd.a1X ho0) hb)
        have gL:=a0A.mk (Kd.a1I (by (with_reducible repeat (first | apply Kd.a1G | apply Kd.a1F | apply Kd.a1J));exact dY.out) (Kd.a1X ho0) hb)
        have gM:=a0A.mk (Kd.a1I (by (with_reducible repeat (first | apply Kd.a1G | apply Kd.a1F | apply Kd.a1J));exact dZ.out) (Kd.a1X ho0) hb)
        have jR:=a0A.mk (Kd.a1I (by (with_reducible repeat (first | apply Kd.a1G | apply Kd.a1F | apply Kd.a1J));exact eB.out) (Kd.a1X ho0) hb)
        have jS:=a0A.mk (Kd.a1I (by (with_reducible repeat (first | apply Kd.a1G | apply Kd.a1F | apply Kd.a1J));exact eC.out) (Kd.a1X ho0) hb)
        have jT:=a0A.mk (Kd.a1I (by (with_reducible repeat (first | apply Kd.a1G | apply Kd.a1F | apply Kd.a1J));exact eD.out) (Kd.a1X ho0) hb)
        have cE:=a0A.mk (Kd.a4K (by (with_reducible repeat (first | apply Kd.a1N | apply Kd.a1M | apply Kd.a1S));exact HO224.out) (Kd.a1X ho0) hb)
        have cF:=a0A.mk (Kd.a2Y (Kd.a6U (Kd.a6U ho0 (Kd.R_lt (by (with_reducible repeat (first | apply Kd.a1N | apply Kd.a1M | apply Kd.a1S));exact aE.out))) (Kd.R_lt (by (with_reducible repeat (first | apply Kd.a1N | apply Kd.a1M | apply Kd.a1S));exact HO224.out))) (a0V (by repeat (first | (with_reducible first | exact HB.out | apply a0D | apply a0B | apply a0E | refine a0I ?_ bN.out) | exact HB.out))))
        have cZ:=a0A.mk (a0U (g:=bM) (o:=.cells #[.string dQ,.slice gR bS.length fZ,.slice fW cG.length fX] 32 (0,0)) (by (with_reducible repeat (first | refine a0L ?_ _ | refine a0M ?_ | refine a0K ?_ _));exact aH.out) hb)
        have dR:=a0A.mk (Kd.a0N (by repeat (first | (with_reducible exact aJ.out) | (with_reducible refine Kd.a0R ?_ _) | (with_reducible refine Kd.a0Q ?_ _) | (with_reducible refine Kd.a1B ?_) | exact aJ.out)) hb)
        have dS:=a0A.mk (Kd.a0N (by repeat (first | (with_reducible exact aK.out) | (with_reducible refine Kd.a0R ?_ _) | (with_reducible refine Kd.a0Q ?_ _) | (with_reducible refine Kd.a1B ?_) | exact aK.out)) hb)
        have dT:=a0A.mk (Kd.a0N (by repeat (first | (with_reducible exact aM.out) | (with_reducible refine Kd.a0R ?_ _) | (with_reducible refine Kd.a0Q ?_ _) | (with_reducible refine Kd.a1B ?_) | exact aM.out)) hb)
        have fI:=a0A.mk (Kd.a0N (by repeat (first | (with_reducible exact aN.out) | (with_reducible refine Kd.a0R ?_ _) | (with_reducible refine Kd.a0Q ?_ _) | (with_reducible refine Kd.a1B ?_) | exact aN.out)) hb)
        have gN:=a0A.mk (Kd.a0N (by repeat (first | (with_reducible exact aQ.out) | (with_reducible refine Kd.a0R ?_ _) | (with_reducible refine Kd.a0Q ?_ _) | (with_reducible refine Kd.a1B ?_) | exact aQ.out)) hb)
        have gO:=a0A.mk (Kd.a0N (by repeat (first | (with_reducible exact aT.out) | (with_reducible refine Kd.a0R ?_ _) | (with_reducible refine Kd.a0Q ?_ _) | (with_reducible refine Kd.a1B ?_) | exact aT.out)) hb)
        have gP:=a0A.mk (Kd.a0N (by repeat (first | (with_reducible exact aU.out) | (with_reducible refine Kd.a0R ?_ _) | (with_reducible refine Kd.a0Q ?_ _) | (with_reducible refine Kd.a1B ?_) | exact aU.out)) hb)
        have gQ:=a0A.mk (Kd.a0N (by repeat (first | (with_reducible exact aV.out) | (with_reducible refine Kd.a0R ?_ _) | (with_reducible refine Kd.a0Q ?_ _) | (with_reducible refine Kd.a1B ?_) | exact aV.out)) hb)
        have aG0:=a0A.mk (a0H (by repeat (first | (with_reducible first | exact HB.out | apply a0D | apply a0B | apply a0E | refine a0I ?_ bN.out) | exact HB.out)) hb)
        clear aE
        clear aD
        clear dV
        clear dW
        clear dX
        clear dY
        clear dZ
        clear eB
        clear eC
        clear eD
        clear HO224
        clear aH
        clear aJ
        clear aK
        clear aM
        clear aN
        clear aQ
        clear aT
        clear aU
        clear aV
        clear HB
        have aE:=bD
        have aD:=bE
        have dV:=bT
        have dW:=cI
        have dX:=gK
        have dY:=gL
        have dZ:=gM
        have eB:=jR
        have eC:=jS
        have eD:=jT
        have HO224:=cE
        have HO228:=cF
        have aH:=cZ
        have aJ:=dR
        have aK:=dS
        have aM:=dT
        have aN:=fI
        have aQ:=gN
        have aT:=gO
        have aU:=gP
        have aV:=gQ
        have HB:=aG0
        clear bD bE bT cI gK gL gM jR jS jT cE cF cZ dR dS dT fI gN gO gP gQ aG0
        (try clear hb)
        (try clear hb2)
        (try clear hk)
        (try clear hi)
        (try clear ho0)
        refine hK.out _ _ ⟨HS0_,HS1_,HS2_,HS3_,HS4_,HS5_,HS6_,HS7_,HS8_,HS9_,HS10_,HS11_,HS12_,HS13_,HS14_,HS15_⟩ (fun hHeld =>?_)
        clear hK K
        refine a3J (a':=?_) ?_ ?_
        rotate_left
        ·show Act.put _ (some 44) _ = _
         simp only [Act.put,List.setIfInBounds_toArray,List.set_cons_zero,List.set_cons_succ,a0X,a0Y]
         rfl
        refine a1E (i:=13) (N:=some 3) (v:=?_) (a':=?_) #[true,true,true,true,true,true,true,true,true,true,true,true,true,true] rfl rfl (a0Z HT_.out (by kernel_rfl)) (fun _ _ _ h =>h) (Or.inl ⟨by rfl,?_⟩) ?_ ?_
        rotate_left
        ·intro w'
         go_simp
         with_reducible rfl
        rotate_left
        ·simp only [Act.put,List.setIfInBounds_toArray,List.set_cons_zero,List.set_cons_succ,a0X,a0Y]
         rfl
        refine a6F (a3S HT_.out (by kernel_rfl)) ?_
        try go_wp2
        go_loopg [3,7] k2 (fun kq v3 v7 w' =>∃ (rF:List ByteArray) (cD:Int),v7 = .int .i64 cD∧a0A (r05_Vars.l2 kq rF t218 aA cD = some r)∧a0A (kq≤k2)∧a0A (Kd.R Kd.string 9 w' w.heap.size (fun _ =>True) v3 rF)∧a0A (Kd.N k46 46 w' w.heap.size (fun k_ =>some k_≠(v3:Value).ownBlock∧k_≠bM) (.slice (some ad221) t218.length co18) t218)∧a0A (w'.heap[bM]? = some (.cells #[.string dQ,(.slice gR bS.length fZ),(.slice fW cG.length fX)] 32 (0,0)))∧a0A (Kd.C k56 w' oA ((a0J t218 aA).f4).length ((a0J t218 aA).f4))∧a0A (Kd.C Kd.string w' oB ((a0J t218 aA).f5).length ((a0J t218 aA).f5))∧a0A (Kd.C k46 w' oC ((a0J t218 aA).f6).length ((a0J t218 aA).f6))∧a0A (Kd.C k46 w' oD ((a0J t218 aA).f7).length ((a0J t218 aA).f7))∧a0A (Kd.C k56 w' oA ((a0J t218 aA).f4).length ((a0J t218 aA).f4))∧a0A (Kd.C Kd.string w' oB ((a0J t218 aA).f5).length ((a0J t218 aA).f5))∧a0A (Kd.C k46 w' oC ((a0J t218 aA).f6).length ((a0J t218 aA).f6))∧a0A (Kd.C k46 w' oD ((a0J t218 aA).f7).length ((a0J t218 aA).f7))∧a0A (Below w.heap.size w w'))
        case atStart =>exact ⟨(t226),(0),(by first | rfl | (simp;done) | (simp [*];done)),H',⟨Nat.le_refl _⟩,⟨by (with_reducible repeat (first | apply Kd.a1N | apply Kd.a1M | apply Kd.a1S));exact Kd.a5P HO228.out (fun _ hk =>trivial)⟩,⟨by (with_reducible repeat (first | apply Kd.a2A | apply Kd.a1Z | apply Kd.a2I));exact Kd.a3P aD.out (fun _ hk =>⟨hk.2,hk.1.1.2⟩)⟩,⟨by (with_reducible repeat (first | refine a0L ?_ _ | refine a0M ?_ | refine a0K ?_ _));exact aH.out⟩,⟨by repeat (first | (with_reducible exact aJ.out) | (with_reducible refine Kd.a0R ?_ _) | (with_reducible refine Kd.a0Q ?_ _) | (with_reducible refine Kd.a1B ?_) | exact aJ.out)⟩,⟨by repeat (first | (with_reducible exact aK.out) | (with_reducible refine Kd.a0R ?_ _) | (with_reducible refine Kd.a0Q ?_ _) | (with_reducible refine Kd.a1B ?_) | exact aK.out)⟩,⟨by repeat (first | (with_reducible exact aM.out) | (with_reducible refine Kd.a0R ?_ _) | (with_reducible refine Kd.a0Q ?_ _) | (with_reducible refine Kd.a1B ?_) | exact aM.out)⟩,⟨by repeat (first | (with_reducible exact aN.out) | (with_reducible refine Kd.a0R ?_ _) | (with_reducible refine Kd.a0Q ?_ _) | (with_reducible refine Kd.a1B ?_) | exact aN.out)⟩,⟨by repeat (first | (with_reducible exact aQ.out) | (with_reducible refine Kd.a0R ?_ _) | (with_reducible refine Kd.a0Q ?_ _) | (with_reducible refine Kd.a1B ?_) | exact aQ.out)⟩,⟨by repeat (first | (with_reducible exact aT.out) | (with_reducible refine Kd.a0R ?_ _) | (with_reducible refine Kd.a0Q ?_ _) | (with_reducible refine Kd.a1B ?_) | exact aT.out)⟩,⟨by repeat (first | (with_reducible exact aU.out) | (with_reducible refine Kd.a0R ?_ _) | (with_reducible refine Kd.a0Q ?_ _) | (with_reducible refine Kd.a1B ?_) | exact aU.out)⟩,⟨by repeat (first | (with_reducible exact aV.out) | (with_reducible refine Kd.a0R ?_ _) | (with_reducible refine Kd.a0Q ?_ _) | (with_reducible refine Kd.a1B ?_) | exact aV.out)⟩,⟨by repeat (first | (with_reducible first | exact HB.out | apply a0D | apply a0B | apply a0E | refine a0I ?_ bN.out) | exact HB.out)⟩⟩
        case round =>
         clear H'
         try clear c1
         try clear c2
         try clear p2
         try clear q2
         try clear hx2
         try clear c5
         try clear c5b0
         try clear c6
         try clear c6b0
         try clear p6
         try clear c12
         try clear c14
         try clear c14b0
         try clear c15
         try clear c15b0
         try clear c19
         try clear p21
         try clear q21
         try clear hx21
         try clear c22
         try clear p22
         try clear q22
         try clear hx22
         try clear sQ
         try clear sR
         try clear sS
         try clear fG
         try clear aF2
         try clear aF3
         try clear sT
         try clear sU
         try clear sV
         try clear fH
         try clear aF4
         try clear aF5
         try clear kO
         try clear oE
         try clear oF
         try clear oG
         try clear oH
         try clear gS
         try clear gT
         try clear gU
         try clear gV
         try clear oQ
         try clear oR
         try clear oS
         try clear oT
         try clear gW
         try clear gX
         try clear gY
         try clear gZ
         try clear p2
         try clear p214
         try clear p221
         try clear p225
         try clear p6
         try clear q2
         try clear q214
         try clear q221
         try clear q225
         obtain ⟨rF,cD,rfl,HA,HK3,aE,aD,aH,aJ,aK,aM,aN,aQ,aT,aU,aV,HB⟩:=hrel
         cases gk with
         | zero =>exact absurd HA.out (by simp [r05_Vars.l2])
         | succ k3 =>
          have H:=HA.out
          clear HA
          simp only [r05_Vars.l2] at H
          by_cases c24:0≤aA
          ·rw [if_pos c24] at H
           have c24b0:decide (0≤aA) = true:=decide_eq_true c24
           clear c24
           by_cases c25:aA < (t218.length:Int)
           ·rw [if_pos c25] at H
            have c25b0:decide (aA < (t218.length:Int)) = true:=decide_eq_true c25
            clear c25
            by_cases c26:cD < (((a0J t218 aA).f4).length:Int)
            ·rw [if_pos c26] at H
             have c26b0:decide (cD < (((a0J t218 aA).f4).length:Int)) = true:=decide_eq_true c26
             clear c26
             by_cases c27:0≤cD
             ·rw [if_pos c27] at H
              have c27b0:decide (0≤cD) = true:=decide_eq_true c27
              clear c27
              by_cases c28:((a1R ((a0J t218 aA).f4) cD).f0) = 4
              ·rw [if_pos c28] at H
               have c28b0:(((a1R ((a0J t218 aA).f4) cD).f0) == 4) = true:=beq_iff_eq.mpr c28
               have c28b1:(((a1R ((a0J t218 aA).f4) cD).f0) != 4) = false:=bne_eq_false_iff_eq.mpr c28
               clear c28
               replace H:=Option.bind_eq_some_iff.mp H
               obtain ⟨t234,A290,H⟩:=H
               replace H:(r05_Vars.l2 k3 t234 t218 aA (wrap64 (cD + 1))) = some r:=H
               have A29:=a0A.mk A290
               clear A290
               have H':=a0A.mk H
               clear H
               have p229:0≤(aA:Int):=of_decide_eq_true (by first | (with_reducible assumption) | assumption)
               have q229:aA < (t218.length:Int):=of_decide_eq_true (by first | (with_reducible assumption) | assumption)
               obtain ⟨ad229,aG1,aG2,aG3,aG4,aG5,aG6,aG7,aG8,e229,tM,tN,tO,tP,dE,dF,dG,dH,dI,dJ,dK,dL,dM,dN,dO,dP⟩:=a3C (Kd.a1V aD.out).2.2 aA p229 q229
               obtain rfl:ad221 = ad229:=(by injection e229)
               obtain ⟨ce229,mS,mT,bJ⟩:=Kd.a6I aD.out z46 aA p229 (by first | exact q229 | exact of_decide_eq_true (by first | (with_reducible assumption) | assumption) | (have e_:=(Kd.a1V aD.out).1;omega))
               obtain ⟨tQ,tR,tS,tT,tU,tV,tW,tX,rfl,bU,bV,bW,bX,bY,bZ,cA,cB⟩:=a2H mT
               have bF:=bJ 4 _ rfl
               rw [a0W _ _ 4 (by omega)] at bF
               replace bF:=Option.some.inj (bF.symm.trans dE)
               injection bF with hva_ hvn_ hvc_
               rw [hva_] at bV
               rw [hvc_] at bU
               have iA:=a0A.mk (show Kd.V k56 56 _ w.heap.size _ _ ((a0J t218 aA).f4) from Kd.V_mk bU bV)
               clear hva_ hvn_ hvc_ bV bU
               have bG:=bJ 5 _ rfl
               rw [a0W _ _ 5 (by omega)] at bG
               replace bG:=Option.some.inj (bG.symm.trans dF)
               injection bG with hva_ hvn_ hvc_
               rw [hva_] at bX
               rw [hvc_] at bW
               have iB:=a0A.mk (show Kd.V Kd.string 9 _ w.heap.size _ _ ((a0J t218 aA).f5) from Kd.V_mk bW bX)
               clear hva_ hvn_ hvc_ bX bW
               have bH:=bJ 6 _ rfl
               rw [a0W _ _ 6 (by omega)] at bH
               replace bH:=Option.some.inj (bH.symm.trans dG)
               injection bH with hva_ hvn_ hvc_
               rw [hva_] at bZ
               rw [hvc_] at bY
               have iC:=a0A.mk (show Kd.V k46 46 _ w.heap.size _ _ ((a0J t218 aA).f6) from Kd.V_mk bY bZ)
               clear hva_ hvn_ hvc_ bZ bY
               have bI:=bJ 7 _ rfl
               rw [a0W _ _ 7 (by omega)] at bI
               replace bI:=Option.some.inj (bI.symm.trans dH)
               injection bI with hva_ hvn_ hvc_
               rw [hva_] at cB
               rw [hvc_] at cA
               have iD:=a0A.mk (show Kd.V k46 46 _ w.heap.size _ _ ((a0J t218 aA).f7) from Kd.V_mk cA cB)
               clear hva_ hvn_ hvc_ cB cA
               clear bJ mS
               have fN:=a0A.mk dJ
               have tY:=a0A.mk dI
               clear dJ dI
               have fO:=a0A.mk dL
               have tZ:=a0A.mk dK
               clear dL dK
               have fP:=a0A.mk dN
               have aA0:=a0A.mk dM
               clear dN dM
               have fQ:=a0A.mk dP
               have aA1:=a0A.mk dO
               clear dP dO
               replace p229:=eq_true p229
               replace q229:=eq_true q229
               have p230:0≤(aA:Int):=of_decide_eq_true (by first | (with_reducible assumption) | assumption)
               have q230:aA < (t218.length:Int):=of_decide_eq_true (by first | (with_reducible assumption) | assumption)
               obtain ⟨ad230,aR4,aR5,aR6,aR7,aR8,aR9,aS0,aS1,e230,aI5,aI6,aI7,aI8,iE,iF,iG,iH,iI,iJ,iK,iL,iM,iN,iO,iP⟩:=a3C (Kd.a1V aD.out).2.2 aA p230 q230
               obtain rfl:ad221 = ad230:=(by injection e230)
               obtain ⟨ce230,rG,rH,dA⟩:=Kd.a6I aD.out z46 aA p230 (by first | exact q230 | exact of_decide_eq_true (by first | (with_reducible assumption) | assumption) | (have e_:=(Kd.a1V aD.out).1;omega))
               obtain ⟨aI9,aJ0,aJ1,aJ2,aJ3,aJ4,aJ5,aJ6,rfl,eE,eF,eG,eH,eI,eJ,eK,eL⟩:=a2H rH
               have cJ:=dA 4 _ rfl
               rw [a0W _ _ 4 (by omega)] at cJ
               replace cJ:=Option.some.inj (cJ.symm.trans iE)
               injection cJ with hva_ hvn_ hvc_
               rw [hva_] at eF
               rw [hvc_] at eE
               have kX:=a0A.mk (show Kd.V k56 56 _ w.heap.size _ _ ((a0J t218 aA).f4) from Kd.V_mk eE eF)
               clear hva_ hvn_ hvc_ eF eE
               have cK:=dA 5 _ rfl
               rw [a0W _ _ 5 (by omega)] at cK
               replace cK:=Option.some.inj (cK.symm.trans iF)
               injection cK with hva_ hvn_ hvc_
               rw [hva_] at eH
               rw [hvc_] at eG
               have kY:=a0A.mk (show Kd.V Kd.string 9 _ w.heap.size _ _ ((a0J t218 aA).f5) from Kd.V_mk eG eH)
               clear hva_ hvn_ hvc_ eH eG
               have cL:=dA 6 _ rfl
               rw [a0W _ _ 6 (by omega)] at cL
               replace cL:=Option.some.inj (cL.symm.trans iG)
               injection cL with hva_ hvn_ hvc_
               rw [hva_] at eJ
               rw [hvc_] at eI
               have kZ:=a0A.mk (show Kd.V k46 46 _ w.heap.size _ _ ((a0J t218 aA).f6) from Kd.V_mk eI eJ)
               clear hva_ hvn_ hvc_ eJ eI
               have cM:=dA 7 _ rfl
               rw [a0W _ _ 7 (by omega)] at cM
               replace cM:=Option.some.inj (cM.symm.trans iH)
               injection cM with hva_ hvn_ hvc_
               rw [hva_] at eL
               rw [hvc_] at eK
               have lA:=a0A.mk (show Kd.V k46 46 _ w.heap.size _ _ ((a0J t218 aA).f7) from Kd.V_mk eK eL)
               clear hva_ hvn_ hvc_ eL eK
               clear dA rG
               have cN:=a0A.mk iJ
               have aJ7:=a0A.mk iI
               clear iJ iI
               have iQ:=a0A.mk iL
               have aJ8:=a0A.mk iK
               clear iL iK
               have iR:=a0A.mk iN
               have aJ9:=a0A.mk iM
               clear iN iM
               have iS:=a0A.mk iP
               have aK0:=a0A.mk iO
               clear iP iO
               replace p230:=eq_true p230
               replace q230:=eq_true q230
               have ea_:=Option.some.inj (dE.symm.trans iE)
               injection ea_ with ea_ en_ ec_
               subst ea_
               subst ec_
               clear en_
               have ea_:=Option.some.inj (dF.symm.trans iF)
               injection ea_ with ea_ en_ ec_
               subst ea_
               subst ec_
               clear en_
               have ea_:=Option.some.inj (dG.symm.trans iG)
               injection ea_ with ea_ en_ ec_
               subst ea_
               subst ec_
               clear en_
               have ea_:=Option.some.inj (dH.symm.trans iH)
               injection ea_ with ea_ en_ ec_
               subst ea_
               subst ec_
               clear en_
               have p231:0≤(cD:Int):=of_decide_eq_true (by first | (with_reducible assumption) | assumption)
               have q231:cD < (((a0J t218 aA).f4).length:Int):=of_decide_eq_true (by first | (with_reducible assumption) | assumption)
               obtain ⟨ad231,e231,aK1,aK2,aK3⟩:=a6T (by repeat (first | (with_reducible exact cN.out) | (with_reducible refine Kd.a0R ?_ _) | (with_reducible refine Kd.a0Q ?_ _) | (with_reducible refine Kd.a1B ?_) | exact cN.out)) cD p231 q231
               cases e231
               replace p231:=eq_true p231
               replace q231:=eq_true q231
               have p232:0≤(aA:Int):=of_decide_eq_true (by first | (with_reducible assumption) | assumption)
               have q232:aA < (t218.length:Int):=of_decide_eq_true (by first | (with_reducible assumption) | assumption)
               obtain ⟨ad232,bN9,bO0,bO1,bO2,bO3,bO4,bO5,bO6,e232,bE3,bE4,bE5,bE6,aA2,aA3,aA4,aA5,aA6,aA7,aA8,aA9,aB0,aB1,aB2,aB3⟩:=a3C (Kd.a1V aD.out).2.2 aA p232 q232
               obtain rfl:ad221 = ad232:=(by injection e232)
               obtain ⟨ce232,aS2,aS3,mU⟩:=Kd.a6I aD.out z46 aA p232 (by first | exact q232 | exact of_decide_eq_true (by first | (with_reducible assumption) | assumption) | (have e_:=(Kd.a1V aD.out).1;omega))
               obtain ⟨bE7,bE8,bE9,bF0,bF1,bF2,bF3,bF4,rfl,pC,pD,pE,pF,pG,pH,pI,pJ⟩:=a2H aS3
               have lB:=mU 4 _ rfl
               rw [a0W _ _ 4 (by omega)] at lB
               replace lB:=Option.some.inj (lB.symm.trans aA2)
               injection lB with hva_ hvn_ hvc_
               rw [hva_] at pD
               rw [hvc_] at pC
               have pK:=a0A.mk (show Kd.V k56 56 _ w.heap.size _ _ ((a0J t218 aA).f4) from Kd.V_mk pC pD)
               clear hva_ hvn_ hvc_ pD pC
               have lC:=mU 5 _ rfl
               rw [a0W _ _ 5 (by omega)] at lC
               replace lC:=Option.some.inj (lC.symm.trans aA3)
               injection lC with hva_ hvn_ hvc_
               rw [hva_] at pF
               rw [hvc_] at pE
               have pL:=a0A.mk (show Kd.V Kd.string 9 _ w.heap.size _ _ ((a0J t218 aA).f5) from Kd.V_mk pE pF)
               clear hva_ hvn_ hvc_ pF pE
               have lD:=mU 6 _ rfl
               rw [a0W _ _ 6 (by omega)] at lD
               replace lD:=Option.some.inj (lD.symm.trans aA4)
               injection lD with hva_ hvn_ hvc_
               rw [hva_] at pH
               rw [hvc_] at pG
               have pM:=a0A.mk (show Kd.V k46 46 _ w.heap.size _ _ ((a0J t218 aA).f6) from Kd.V_mk pG pH)
               clear hva_ hvn_ hvc_ pH pG
               have lE:=mU 7 _ rfl
               rw [a0W _ _ 7 (by omega)] at lE
               replace lE:=Option.some.inj (lE.symm.trans aA5)
               injection lE with hva_ hvn_ hvc_
               rw [hva_] at pJ
               rw [hvc_] at pI
               have pN:=a0A.mk (show Kd.V k46 46 _ w.heap.size _ _ ((a0J t218 aA).f7) from Kd.V_mk pI pJ)
               clear hva_ hvn_ hvc_ pJ pI
               clear mU aS2
               have fR:=a0A.mk aA7
               have bF5:=a0A.mk aA6
               clear aA7 aA6
               have lF:=a0A.mk aA9
               have bF6:=a0A.mk aA8
               clear aA9 aA8
               have lG:=a0A.mk aB1
               have bF7:=a0A.mk aB0
               clear aB1 aB0
               have lH:=a0A.mk aB3
               have bF8:=a0A.mk aB2
               clear aB3 aB2
               replace p232:=eq_true p232
               replace q232:=eq_true q232
               have ea_:=Option.some.inj (dE.symm.trans aA2)
               injection ea_ with ea_ en_ ec_
               subst ea_
               subst ec_
               clear en_
               have ea_:=Option.some.inj (dF.symm.trans aA3)
               injection ea_ with ea_ en_ ec_
               subst ea_
               subst ec_
               clear en_
               have ea_:=Option.some.inj (dG.symm.trans aA4)
               injection ea_ with ea_ en_ ec_
               subst ea_
               subst ec_
               clear en_
               have ea_:=Option.some.inj (dH.symm.trans aA5)
               injection ea_ with ea_ en_ ec_
               subst ea_
               subst ec_
               clear en_
               have p233:0≤(cD:Int):=of_decide_eq_true (by first | (with_reducible assumption) | assumption)
               have q233:cD < (((a0J t218 aA).f4).length:Int):=of_decide_eq_true (by first | (with_reducible assumption) | assumption)
               obtain ⟨ad233,e233,bF9,bG0,bG1⟩:=a6T (by repeat (first | (with_reducible exact fR.out) | (with_reducible refine Kd.a0R ?_ _) | (with_reducible refine Kd.a0Q ?_ _) | (with_reducible refine Kd.a1B ?_) | exact fR.out)) cD p233 q233
               cases e233
               replace p233:=eq_true p233
               replace q233:=eq_true q233
               obtain ⟨Ao30,co30,eo30⟩:=Kd.a3O aE.out
               subst eo30
               go_wp2_with (first | ((with_reducible refine a1H (f:=19) rfl ?_);refine a2G (some 75) rfl rfl Try.func19 (by kernel_rfl) rfl #[.slice Ao30 rF.length co30,.string ((a1R ((a0J t218 aA).f4) cD).f2)] rfl (by (try simp only [List.map_toArray,List.map_cons,List.map_nil]);first | done | rfl | (simp only [List.length_drop,List.length_take];rfl)) ?_;(with_reducible refine (r05_With.calls k3 _ _ rF ((a1R ((a0J t218 aA).f4) cD).f2) t234 _ ?side1 ?side2 A29.out).mono ?_);(case side1 =>repeat (first | exact (Kd.a1Y aE.out).2.2 | (with_reducible refine Kd.a0R ?_ _) | (with_reducible refine Kd.a0Q ?_ _) | (with_reducible refine Kd.a1B ?_)));(case side2 =>exact (Kd.a1Y aE.out).2.1);rintro e w31 ⟨v235,rfl,ho0,hb⟩;refine ⟨_,rfl,?_⟩;have bD:=a0A.mk (Kd.a4K (by (with_reducible repeat (first | apply Kd.a1N | apply Kd.a1M | apply Kd.a1S));exact aE.out) (Kd.a1X ho0) hb);have bE:=a0A.mk (Kd.a5E (by (with_reducible repeat (first | apply Kd.a2A | apply Kd.a1Z | apply Kd.a2I));exact aD.out) (Kd.a1X ho0) hb);have bT:=a0A.mk (Kd.a1I (by (with_reducible repeat (first | apply Kd.a1G | apply Kd.a1F | apply Kd.a1J));exact iA.out) (Kd.a1X ho0) hb);have cI:=a0A.mk (Kd.a1I (by (with_reducible repeat (first | apply Kd.a1G | apply Kd.a1F | apply Kd.a1J));exact iB.out) (Kd.a1X ho0) hb);have gK:=a0A.mk (Kd.a1I (by (with_reducible repeat (first | apply Kd.a1G | apply Kd.a1F | apply Kd.a1J));exact iC.out) (Kd.a1X ho0) hb);have gL:=a0A.mk (Kd.a1I (by (with_reducible repeat (first | apply Kd.a1G | apply Kd.a1F | apply Kd.a1J));exact iD.out) (Kd.a1X ho0) hb);have gM:=a0A.mk (Kd.a1I (by (with_reducible repeat (first | apply Kd.a1G | apply Kd.a1F | apply Kd.a1J));exact kX.out) (Kd.a1X ho0) hb);have jR:=a0A.mk (Kd.a1I (by (with_reducible repeat (first | apply Kd.a1G | apply Kd.a1F | apply Kd.a1J));exact kY.out) (Kd.a1X ho0) hb);have jS:=a0A.mk (Kd.a1I (by (with_reducible repeat (first | apply Kd.a1G | apply Kd.a1F | apply Kd.a1J));exact kZ.out) (Kd.a1X ho0) hb);have jT:=a0A.mk (Kd.a1I (by (with_reducible repeat (first | apply Kd.a1G | apply Kd.a1F | apply Kd.a1J));exact lA.out) (Kd.a1X ho0) hb);have cE:=a0A.mk (Kd.a1I (by (with_reducible repeat (first | apply Kd.a1G | apply Kd.a1F | apply Kd.a1J));exact pK.out) (Kd.a1X ho0) hb);have cF:=a0A.mk (Kd.a1I (by (with_reducible repeat (first | apply Kd.a1G | apply Kd.a1F | apply Kd.a1J));exact pL.out) (Kd.a1X ho0) hb);have cZ:=a0A.mk (Kd.a1I (by (with_reducible repeat (first | apply Kd.a1G | apply Kd.a1F | apply Kd.a1J));exact pM.out) (Kd.a1X ho0) hb);have dR:=a0A.mk (Kd.a1I (by (with_reducible repeat (first | apply Kd.a1G | apply Kd.a1F | apply Kd.a1J));exact pN.out) (Kd.a1X ho0) hb);have dS:=a0A.mk (Kd.a2Y (Kd.a6U ho0 (Kd.R_lt (by (with_reducible repeat (first | apply Kd.a1N | apply Kd.a1M | apply Kd.a1S));exact aE.out))) (a0V (by repeat (first | (with_reducible first | exact HB.out | apply a0D | apply a0B | apply a0E | refine a0I ?_ bN.out) | exact HB.out))));have dT:=a0A.mk (a0U (g:=bM) (o:=.cells #[.string dQ,.slice gR bS.length fZ,.slice fW cG.length fX] 32 (0,0)) (by (with_reducible repeat (first | refine a0L ?_ _ | refine a0M ?_ | refine a0K ?_ _));exact aH.out) hb);have fI:=a0A.mk (Kd.a0N (by repeat (first | (with_reducible exact aJ.out) | (with_reducible refine Kd.a0R ?_ _) | (with_reducible refine Kd.a0Q ?_ _) | (with_reducible refine Kd.a1B ?_) | exact aJ.out)) hb);have gN:=a0A.mk (Kd.a0N (by repeat (first | (with_reducible exact aK.out) | (with_reducible refine Kd.a0R ?_ _) | (with_reducible refine Kd.a0Q ?_ _) | (with_reducible refine Kd.a1B ?_) | exact aK.out)) hb);have gO:=a0A.mk (Kd.a0N (by repeat (first | (with_reducible exact aM.out) | (with_reducible refine Kd.a0R ?_ _) | (with_reducible refine Kd.a0Q ?_ _) | (with_reducible refine Kd.a1B ?_) | exact aM.out)) hb);have gP:=a0A.mk (Kd.a0N (by repeat (first | (with_reducible exact aN.out) | (with_reducible refine Kd.a0R ?_ _) | (with_reducible refine Kd.a0Q ?_ _) | (with_reducible refine Kd.a1B ?_) | exact aN.out)) hb);have gQ:=a0A.mk (Kd.a0N (by repeat (first | (with_reducible exact aQ.out) | (with_reducible refine Kd.a0R ?_ _) | (with_reducible refine Kd.a0Q ?_ _) | (with_reducible refine Kd.a1B ?_) | exact aQ.out)) hb);have aG0:=a0A.mk (Kd.a0N (by repeat (first | (with_reducible exact aT.out) | (with_reducible refine Kd.a0R ?_ _) | (with_reducible refine Kd.a0Q ?_ _) | (with_reducible refine Kd.a1B ?_) | exact aT.out)) hb);have aV2:=a0A.mk (Kd.a0N (by repeat (first | (with_reducible exact aU.out) | (with_reducible refine Kd.a0R ?_ _) | (with_reducible refine Kd.a0Q ?_ _) | (with_reducible refine Kd.a1B ?_) | exact aU.out)) hb);have aV3:=a0A.mk (Kd.a0N (by repeat (first | (with_reducible exact aV.out) | (with_reducible refine Kd.a0R ?_ _) | (with_reducible refine Kd.a0Q ?_ _) | (with_reducible refine Kd.a1B ?_) | exact aV.out)) hb);have aV4:=a0A.mk (Kd.a0N (by repeat (first | (with_reducible exact fN.out) | (with_reducible refine Kd.a0R ?_ _) | (with_reducible refine Kd.a0Q ?_ _) | (with_reducible refine Kd.a1B ?_) | exact fN.out)) hb);have aV5:=a0A.mk (Kd.a0N (by repeat (first | (with_reducible exact fO.out) | (with_reducible refine Kd.a0R ?_ _) | (with_reducible refine Kd.a0Q ?_ _) | (with_reducible refine Kd.a1B ?_) | exact fO.out)) hb);have aV6:=a0A.mk (Kd.a0N (by repeat (first | (with_reducible exact fP.out) | (with_reducible refine Kd.a0R ?_ _) | (with_reducible refine Kd.a0Q ?_ _) | (with_reducible refine Kd.a1B ?_) | exact fP.out)) hb);have aV7:=a0A.mk (Kd.a0N (by repeat (first | (with_reducible exact fQ.out) | (with_reducible refine Kd.a0R ?_ _) | (with_reducible refine Kd.a0Q ?_ _) | (with_reducible refine Kd.a1B ?_) | exact fQ.out)) hb);have aV8:=a0A.mk (Kd.a0N (by repeat (first | (with_reducible exact cN.out) | (with_reducible refine Kd.a0R ?_ _) | (with_reducible refine Kd.a0Q ?_ _) | (with_reducible refine Kd.a1B ?_) | exact cN.out)) hb);have aV9:=a0A.mk (Kd.a0N (by repeat (first | (with_reducible exact iQ.out) | (with_reducible refine Kd.a0R ?_ _) | (with_reducible refine Kd.a0Q ?_ _) | (with_reducible refine Kd.a1B ?_) | exact iQ.out)) hb);have aW0:=a0A.mk (Kd.a0N (by repeat (first | (with_reducible exact iR.out) | (with_reducible refine Kd.a0R ?_ _) | (with_reducible refine Kd.a0Q ?_ _) | (with_reducible refine Kd.a1B ?_) | exact iR.out)) hb);have aW1:=a0A.mk (Kd.a0N (by repeat (first | (with_reducible exact iS.out) | (with_reducible refine Kd.a0R ?_ _) | (with_reducible refine Kd.a0Q ?_ _) | (with_reducible refine Kd.a1B ?_) | exact iS.out)) hb);have aW2:=a0A.mk (Kd.a0N (by repeat (first | (with_reducible exact fR.out) | (with_reducible refine Kd.a0R ?_ _) | (with_reducible refine Kd.a0Q ?_ _) | (with_reducible refine Kd.a1B ?_) | exact fR.out)) hb);have aW3:=a0A.mk (Kd.a0N (by repeat (first | (with_reducible exact lF.out) | (with_reducible refine Kd.a0R ?_ _) | (with_reducible refine Kd.a0Q ?_ _) | (with_reducible refine Kd.a1B ?_) | exact lF.out)) hb);have aW4:=a0A.mk (Kd.a0N (by repeat (first | (with_reducible exact lG.out) | (with_reducible refine Kd.a0R ?_ _) | (with_reducible refine Kd.a0Q ?_ _) | (with_reducible refine Kd.a1B ?_) | exact lG.out)) hb);have aW5:=a0A.mk (Kd.a0N (by repeat (first | (with_reducible exact lH.out) | (with_reducible refine Kd.a0R ?_ _) | (with_reducible refine Kd.a0Q ?_ _) | (with_reducible refine Kd.a1B ?_) | exact lH.out)) hb);have aW6:=a0A.mk (a0H (by repeat (first | (with_reducible first | exact HB.out | apply a0D | apply a0B | apply a0E | refine a0I ?_ bN.out) | exact HB.out)) hb);clear aE;clear aD;clear iA;clear iB;clear iC;clear iD;clear kX;clear kY;clear kZ;clear lA;clear pK;clear pL;clear pM;clear pN;clear aH;clear aJ;clear aK;clear aM;clear aN;clear aQ;clear aT;clear aU;clear aV;clear fN;clear fO;clear fP;clear fQ;clear cN;clear iQ;clear iR;clear iS;clear fR;clear lF;clear lG;clear lH;clear HB;have aE:=bD;have aD:=bE;have iA:=bT;have iB:=cI;have iC:=gK;have iD:=gL;have kX:=gM;have kY:=jR;have kZ:=jS;have lA:=jT;have pK:=cE;have pL:=cF;have pM:=cZ;have pN:=dR;have HO236:=dS;have aH:=dT;have aJ:=fI;have aK:=gN;have aM:=gO;have aN:=gP;have aQ:=gQ;have aT:=aG0;have aU:=aV2;have aV:=aV3;have fN:=aV4;have fO:=aV5;have fP:=aV6;have fQ:=aV7;have cN:=aV8;have iQ:=aV9;have iR:=aW0;have iS:=aW1;have fR:=aW2;have lF:=aW3;have lG:=aW4;have lH:=aW5;have HB:=aW6;clear bD bE bT cI gK gL gM jR jS jT cE cF cZ dR dS dT fI gN gO gP gQ aG0 aV2 aV3 aV4 aV5 aV6 aV7 aV8 aV9 aW0 aW1 aW2 aW3 aW4 aW5 aW6;(try clear hb);(try clear hb2);(try clear hk);(try clear hi);(try clear ho0)))
               go_roundg k3
               case measure =>have:=HK1.out;have:=HK2.out;have:=HK3.out;omega
               case rel =>exact ⟨(t234),(wrap64 (cD + 1)),(by first | rfl | (simp;done) | (simp [*];done)),H',⟨by have:=HK1.out;have:=HK2.out;have:=HK3.out;omega⟩,⟨by (with_reducible repeat (first | apply Kd.a1N | apply Kd.a1M | apply Kd.a1S));exact Kd.a5P HO236.out (fun _ hk =>trivial)⟩,⟨by (with_reducible repeat (first | apply Kd.a2A | apply Kd.a1Z | apply Kd.a2I));exact Kd.a3P aD.out (fun _ hk =>⟨hk.2,hk.1.2⟩)⟩,⟨by (with_reducible repeat (first | refine a0L ?_ _ | refine a0M ?_ | refine a0K ?_ _));exact aH.out⟩,⟨by repeat (first | (with_reducible exact aJ.out) | (with_reducible refine Kd.a0R ?_ _) | (with_reducible refine Kd.a0Q ?_ _) | (with_reducible refine Kd.a1B ?_) | exact aJ.out)⟩,⟨by repeat (first | (with_reducible exact aK.out) | (with_reducible refine Kd.a0R ?_ _) | (with_reducible refine Kd.a0Q ?_ _) | (with_reducible refine Kd.a1B ?_) | exact aK.out)⟩,⟨by repeat (first | (with_reducible exact aM.out) | (with_reducible refine Kd.a0R ?_ _) | (with_reducible refine Kd.a0Q ?_ _) | (with_reducible refine Kd.a1B ?_) | exact aM.out)⟩,⟨by repeat (first | (with_reducible exact aN.out) | (with_reducible refine Kd.a0R ?_ _) | (with_reducible refine Kd.a0Q ?_ _) | (with_reducible refine Kd.a1B ?_) | exact aN.out)⟩,⟨by repeat (first | (with_reducible exact aQ.out) | (with_reducible refine Kd.a0R ?_ _) | (with_reducible refine Kd.a0Q ?_ _) | (with_reducible refine Kd.a1B ?_) | exact aQ.out)⟩,⟨by repeat (first | (with_reducible exact aT.out) | (with_reducible refine Kd.a0R ?_ _) | (with_reducible refine Kd.a0Q ?_ _) | (with_reducible refine Kd.a1B ?_) | exact aT.out)⟩,⟨by repeat (first | (with_reducible exact aU.out) | (with_reducible refine Kd.a0R ?_ _) | (with_reducible refine Kd.a0Q ?_ _) | (with_reducible refine Kd.a1B ?_) | exact aU.out)⟩,⟨by repeat (first | (with_reducible exact aV.out) | (with_reducible refine Kd.a0R ?_ _) | (with_reducible refine Kd.a0Q ?_ _) | (with_reducible refine Kd.a1B ?_) | exact aV.out)⟩,⟨by repeat (first | (with_reducible first | exact HB.out | apply a0D | apply a0B | apply a0E | refine a0I ?_ bN.out) | exact HB.out)⟩⟩
              ·rw [if_neg c28] at H
               have c28b0:(((a1R ((a0J t218 aA).f4) cD).f0) == 4) = false:=beq_eq_false_iff_ne.mpr c28
               have c28b1:(((a1R ((a0J t218 aA).f4) cD).f0) != 4) = true:=bne_iff_ne.mpr c28
               have H':=a0A.mk H
               clear H
               have p229:0≤(aA:Int):=of_decide_eq_true (by first | (with_reducible assumption) | assumption)
               have q229:aA < (t218.length:Int):=of_decide_eq_true (by first | (with_reducible assumption) | assumption)
               obtain ⟨ad229,aG1,aG2,aG3,aG4,aG5,aG6,aG7,aG8,e229,tM,tN,tO,tP,dE,dF,dG,dH,dI,dJ,dK,dL,dM,dN,dO,dP⟩:=a3C (Kd.a1V aD.out).2.2 aA p229 q229
               obtain rfl:ad221 = ad229:=(by injection e229)
               obtain ⟨ce229,mS,mT,bJ⟩:=Kd.a6I aD.out z46 aA p229 (by first | exact q229 | exact of_decide_eq_true (by first | (with_reducible assumption) | assumption) | (have e_:=(Kd.a1V aD.out).1;omega))
               obtain ⟨tQ,tR,tS,tT,tU,tV,tW,tX,rfl,bU,bV,bW,bX,bY,bZ,cA,cB⟩:=a2H mT
               have bF:=bJ 4 _ rfl
               rw [a0W _ _ 4 (by omega)] at bF
               replace bF:=Option.some.inj (bF.symm.trans dE)
               injection bF with hva_ hvn_ hvc_
               rw [hva_] at bV
               rw [hvc_] at bU
               have iA:=a0A.mk (show Kd.V k56 56 _ w.heap.size _ _ ((a0J t218 aA).f4) from Kd.V_mk bU bV)
               clear hva_ hvn_ hvc_ bV bU
               have bG:=bJ 5 _ rfl
               rw [a0W _ _ 5 (by omega)] at bG
               replace bG:=Option.some.inj (bG.symm.trans dF)
               injection bG with hva_ hvn_ hvc_
               rw [hva_] at bX
               rw [hvc_] at bW
               have iB:=a0A.mk (show Kd.V Kd.string 9 _ w.heap.size _ _ ((a0J t218 aA).f5) from Kd.V_mk bW bX)
               clear hva_ hvn_ hvc_ bX bW
               have bH:=bJ 6 _ rfl
               rw [a0W _ _ 6 (by omega)] at bH
               replace bH:=Option.some.inj (bH.symm.trans dG)
               injection bH with hva_ hvn_ hvc_
               rw [hva_] at bZ
               rw [hvc_] at bY
               have iC:=a0A.mk (show Kd.V k46 46 _ w.heap.size _ _ ((a0J t218 aA).f6) from Kd.V_mk bY bZ)
               clear hva_ hvn_ hvc_ bZ bY
               have bI:=bJ 7 _ rfl
               rw [a0W _ _ 7 (by omega)] at bI
               replace bI:=Option.some.inj (bI.symm.trans dH)
               injection bI with hva_ hvn_ hvc_
               rw [hva_] at cB
               rw [hvc_] at cA
               have iD:=a0A.mk (show Kd.V k46 46 _ w.heap.size _ _ ((a0J t218 aA).f7) from Kd.V_mk cA cB)
               clear hva_ hvn_ hvc_ cB cA
               clear bJ mS
               have fN:=a0A.mk dJ
               have tY:=a0A.mk dI
               clear dJ dI
               have fO:=a0A.mk dL
               have tZ:=a0A.mk dK
               clear dL dK
               have fP:=a0A.mk dN
               have aA0:=a0A.mk dM
               clear dN dM
               have fQ:=a0A.mk dP
               have aA1:=a0A.mk dO
               clear dP dO
               replace p229:=eq_true p229
               replace q229:=eq_true q229
               have p230:0≤(aA:Int):=of_decide_eq_true (by first | (with_reducible assumption) | assumption)
               have q230:aA < (t218.length:Int):=of_decide_eq_true (by first | (with_reducible assumption) | assumption)
               obtain ⟨ad230,aR4,aR5,aR6,aR7,aR8,aR9,aS0,aS1,e230,aI5,aI6,aI7,aI8,iE,iF,iG,iH,iI,iJ,iK,iL,iM,iN,iO,iP⟩:=a3C (Kd.a1V aD.out).2.2 aA p230 q230
               obtain rfl:ad221 = ad230:=(by injection e230)
               obtain ⟨ce230,rG,rH,dA⟩:=Kd.a6I aD.out z46 aA p230 (by first | exact q230 | exact of_decide_eq_true (by first | (with_reducible assumption) | assumption) | (have e_:=(Kd.a1V aD.out).1;omega))
               obtain ⟨aI9,aJ0,aJ1,aJ2,aJ3,aJ4,aJ5,aJ6,rfl,eE,eF,eG,eH,eI,eJ,eK,eL⟩:=a2H rH
               have cJ:=dA 4 _ rfl
               rw [a0W _ _ 4 (by omega)] at cJ
               replace cJ:=Option.some.inj (cJ.symm.trans iE)
               injection cJ with hva_ hvn_ hvc_
               rw [hva_] at eF
               rw [hvc_] at eE
               have kX:=a0A.mk (show Kd.V k56 56 _ w.heap.size _ _ ((a0J t218 aA).f4) from Kd.V_mk eE eF)
               clear hva_ hvn_ hvc_ eF eE
               have cK:=dA 5 _ rfl
               rw [a0W _ _ 5 (by omega)] at cK
               replace cK:=Option.some.inj (cK.symm.trans iF)
               injection cK with hva_ hvn_ hvc_
               rw [hva_] at eH
               rw [hvc_] at eG
               have kY:=a0A.mk (show Kd.V Kd.string 9 _ w.heap.size _ _ ((a0J t218 aA).f5) from Kd.V_mk eG eH)
               clear hva_ hvn_ hvc_ eH eG
               have cL:=dA 6 _ rfl
               rw [a0W _ _ 6 (by omega)] at cL
               replace cL:=Option.some.inj (cL.symm.trans iG)
               injection cL with hva_ hvn_ hvc_
               rw [hva_] at eJ
               rw [hvc_] at eI
               have kZ:=a0A.mk (show Kd.V k46 46 _ w.heap.size _ _ ((a0J t218 aA).f6) from Kd.V_mk eI eJ)
               clear hva_ hvn_ hvc_ eJ eI
               have cM:=dA 7 _ rfl
               rw [a0W _ _ 7 (by omega)] at cM
               replace cM:=Option.some.inj (cM.symm.trans iH)
               injection cM with hva_ hvn_ hvc_
               rw [hva_] at eL
               rw [hvc_] at eK
               have lA:=a0A.mk (show Kd.V k46 46 _ w.heap.size _ _ ((a0J t218 aA).f7) from Kd.V_mk eK eL)
               clear hva_ hvn_ hvc_ eL eK
               clear dA rG
               have cN:=a0A.mk iJ
               have aJ7:=a0A.mk iI
               clear iJ iI
               have iQ:=a0A.mk iL
               have aJ8:=a0A.mk iK
               clear iL iK
               have iR:=a0A.mk iN
               have aJ9:=a0A.mk iM
               clear iN iM
               have iS:=a0A.mk iP
               have aK0:=a0A.mk iO
               clear iP iO
               replace p230:=eq_true p230
               replace q230:=eq_true q230
               have ea_:=Option.some.inj (dE.symm.trans iE)
               injection ea_ with ea_ en_ ec_
               subst ea_
               subst ec_
               clear en_
               have ea_:=Option.some.inj (dF.symm.trans iF)
               injection ea_ with ea_ en_ ec_
               subst ea_
               subst ec_
               clear en_
               have ea_:=Option.some.inj (dG.symm.trans iG)
               injection ea_ with ea_ en_ ec_
               subst ea_
               subst ec_
               clear en_
               have ea_:=Option.some.inj (dH.symm.trans iH)
               injection ea_ with ea_ en_ ec_
               subst ea_
               subst ec_
               clear en_
               have p231:0≤(cD:Int):=of_decide_eq_true (by first | (with_reducible assumption) | assumption)
               have q231:cD < (((a0J t218 aA).f4).length:Int):=of_decide_eq_true (by first | (with_reducible assumption) | assumption)
               obtain ⟨ad231,e231,aK1,aK2,aK3⟩:=a6T (by repeat (first | (with_reducible exact cN.out) | (with_reducible refine Kd.a0R ?_ _) | (with_reducible refine Kd.a0Q ?_ _) | (with_reducible refine Kd.a1B ?_) | exact cN.out)) cD p231 q231
               cases e231
               replace p231:=eq_true p231
               replace q231:=eq_true q231
               go_wp2
               go_roundg k3
               case measure =>have:=HK1.out;have:=HK2.out;have:=HK3.out;omega
               case rel =>exact ⟨(rF),(wrap64 (cD + 1)),(by first | rfl | (simp;done) | (simp [*];done)),H',⟨by have:=HK1.out;have:=HK2.out;have:=HK3.out;omega⟩,⟨by (with_reducible repeat (first | apply Kd.a1N | apply Kd.a1M | apply Kd.a1S));exact aE.out⟩,⟨by (with_reducible repeat (first | apply Kd.a2A | apply Kd.a1Z | apply Kd.a2I));exact aD.out⟩,⟨by (with_reducible repeat (first | refine a0L ?_ _ | refine a0M ?_ | refine a0K ?_ _));exact aH.out⟩,⟨by repeat (first | (with_reducible exact aJ.out) | (with_reducible refine Kd.a0R ?_ _) | (with_reducible refine Kd.a0Q ?_ _) | (with_reducible refine Kd.a1B ?_) | exact aJ.out)⟩,⟨by repeat (first | (with_reducible exact aK.out) | (with_reducible refine Kd.a0R ?_ _) | (with_reducible refine Kd.a0Q ?_ _) | (with_reducible refine Kd.a1B ?_) | exact aK.out)⟩,⟨by repeat (first | (with_reducible exact aM.out) | (with_reducible refine Kd.a0R ?_ _) | (with_reducible refine Kd.a0Q ?_ _) | (with_reducible refine Kd.a1B ?_) | exact aM.out)⟩,⟨by repeat (first | (with_reducible exact aN.out) | (with_reducible refine Kd.a0R ?_ _) | (with_reducible refine Kd.a0Q ?_ _) | (with_reducible refine Kd.a1B ?_) | exact aN.out)⟩,⟨by repeat (first | (with_reducible exact aQ.out) | (with_reducible refine Kd.a0R ?_ _) | (with_reducible refine Kd.a0Q ?_ _) | (with_reducible refine Kd.a1B ?_) | exact aQ.out)⟩,⟨by repeat (first | (with_reducible exact aT.out) | (with_reducible refine Kd.a0R ?_ _) | (with_reducible refine Kd.a0Q ?_ _) | (with_reducible refine Kd.a1B ?_) | exact aT.out)⟩,⟨by repeat (first | (with_reducible exact aU.out) | (with_reducible refine Kd.a0R ?_ _) | (with_reducible refine Kd.a0Q ?_ _) | (with_reducible refine Kd.a1B ?_) | exact aU.out)⟩,⟨by repeat (first | (with_reducible exact aV.out) | (with_reducible refine Kd.a0R ?_ _) | (with_reducible refine Kd.a0Q ?_ _) | (with_reducible refine Kd.a1B ?_) | exact aV.out)⟩,⟨by repeat (first | (with_reducible first | exact HB.out | apply a0D | apply a0B | apply a0E | refine a0I ?_ bN.out) | exact HB.out)⟩⟩
             ·rw [if_neg c27] at H
              exact absurd H (by simp)
            ·rw [if_neg c26] at H
             have c26b0:decide (cD < (((a0J t218 aA).f4).length:Int)) = false:=decide_eq_false c26
             clear c26
             have H':=a0A.mk H
             clear H
             have p229:0≤(aA:Int):=of_decide_eq_true (by first | (with_reducible assumption) | assumption)
             have q229:aA < (t218.length:Int):=of_decide_eq_true (by first | (with_reducible assumption) | assumption)
             obtain ⟨ad229,aG1,aG2,aG3,aG4,aG5,aG6,aG7,aG8,e229,tM,tN,tO,tP,dE,dF,dG,dH,dI,dJ,dK,dL,dM,dN,dO,dP⟩:=a3C (Kd.a1V aD.out).2.2 aA p229 q229
             obtain rfl:ad221 = ad229:=(by injection e229)
             obtain ⟨ce229,mS,mT,bJ⟩:=Kd.a6I aD.out z46 aA p229 (by first | exact q229 | exact of_decide_eq_true (by first | (with_reducible assumption) | assumption) | (have e_:=(Kd.a1V aD.out).1;omega))
             obtain ⟨tQ,tR,tS,tT,tU,tV,tW,tX,rfl,bU,bV,bW,bX,bY,bZ,cA,cB⟩:=a2H mT
             have bF:=bJ 4 _ rfl
             rw [a0W _ _ 4 (by omega)] at bF
             replace bF:=Option.some.inj (bF.symm.trans dE)
             injection bF with hva_ hvn_ hvc_
             rw [hva_] at bV
             rw [hvc_] at bU
             have iA:=a0A.mk (show Kd.V k56 56 _ w.heap.size _ _ ((a0J t218 aA).f4) from Kd.V_mk bU bV)
             clear hva_ hvn_ hvc_ bV bU
             have bG:=bJ 5 _ rfl
             rw [a0W _ _ 5 (by omega)] at bG
             replace bG:=Option.some.inj (bG.symm.trans dF)
             injection bG with hva_ hvn_ hvc_
             rw [hva_] at bX
             rw [hvc_] at bW
             have iB:=a0A.mk (show Kd.V Kd.string 9 _ w.heap.size _ _ ((a0J t218 aA).f5) from Kd.V_mk bW bX)
             clear hva_ hvn_ hvc_ bX bW
             have bH:=bJ 6 _ rfl
             rw [a0W _ _ 6 (by omega)] at bH
             replace bH:=Option.some.inj (bH.symm.trans dG)
             injection bH with hva_ hvn_ hvc_
             rw [hva_] at bZ
             rw [hvc_] at bY
             have iC:=a0A.mk (show Kd.V k46 46 _ w.heap.size _ _ ((a0J t218 aA).f6) from Kd.V_mk bY bZ)
             clear hva_ hvn_ hvc_ bZ bY
             have bI:=bJ 7 _ rfl
             rw [a0W _ _ 7 (by omega)] at bI
             replace bI:=Option.some.inj (bI.symm.trans dH)
             injection bI with hva_ hvn_ hvc_
             rw [hva_] at cB
             rw [hvc_] at cA
             have iD:=a0A.mk (show Kd.V k46 46 _ w.heap.size _ _ ((a0J t218 aA).f7) from Kd.V_mk cA cB)
             clear hva_ hvn_ hvc_ cB cA
             clear bJ mS
             have fN:=a0A.mk dJ
             have tY:=a0A.mk dI
             clear dJ dI
             have fO:=a0A.mk dL
             have tZ:=a0A.mk dK
             clear dL dK
             have fP:=a0A.mk dN
             have aA0:=a0A.mk dM
             clear dN dM
             have fQ:=a0A.mk dP
             have aA1:=a0A.mk dO
             clear dP dO
             replace p229:=eq_true p229
             replace q229:=eq_true q229
             go_wp2
             go_roundg k3
             case measure =>have:=HK1.out;have:=HK2.out;have:=HK3.out;omega
             case rel =>exact ⟨(rF),(wrap64 (aA + 1)),(by first | rfl | (simp;done) | (simp [*];done)),H',⟨by have:=HK1.out;have:=HK2.out;have:=HK3.out;omega⟩,⟨by (with_reducible repeat (first | apply Kd.a1N | apply Kd.a1M | apply Kd.a1S));exact aE.out⟩,⟨by (with_reducible repeat (first | apply Kd.a2A | apply Kd.a1Z | apply Kd.a2I));exact aD.out⟩,⟨by (with_reducible repeat (first | refine a0L ?_ _ | refine a0M ?_ | refine a0K ?_ _));exact aH.out⟩,⟨by repeat (first | (with_reducible first | exact HB.out | apply a0D | apply a0B | apply a0E | refine a0I ?_ bN.out) | exact HB.out)⟩⟩
           ·rw [if_neg c25] at H
            exact absurd H (by simp)
          ·rw [if_neg c24] at H
           exact absurd H (by simp)
       ·rw [if_neg c15] at H
        exact absurd H (by simp)
      ·rw [if_neg c14] at H
       have c14b0:decide (aA < (t218.length:Int)) = false:=decide_eq_false c14
       clear c14
       obtain rfl:=Option.some.inj H
       obtain ⟨Ao32,co32,eo32⟩:=Kd.a5B aD.out
       subst eo32
       go_wp2
       go_ret
       exact ⟨_,by first | rfl | (simp [a0T,a0S] <;> rfl) | (simp [*,a0T,a0S] <;> rfl),by (with_reducible repeat (first | apply Kd.a1N | apply Kd.a1M | apply Kd.a1S));exact aE.out,by repeat (first | (with_reducible first | exact HB.out | apply a0D | apply a0B | apply a0E | refine a0I ?_ bN.out) | exact HB.out)⟩
mutual
def r05_Props.l0:Nat→List ByteArray→Int→List (S32)→Option (List ByteArray)
 | 0,_,_,_ =>none
 | k + 1,x3,x4,x238000 =>if x4 < (x238000.length:Int) then (if 0≤x4 then ((r04_List.f k ((a0P x238000 x4).f2)).bind fun t242 =>(r05_Props.l1 k x3 x4 t242 0 x238000)) else (none)) else (some x3)
def r05_Props.l1:Nat→List ByteArray→Int→List (S46)→Int→List (S32)→Option (List ByteArray)
 | 0,_,_,_,_,_ =>none
 | k + 1,x3,x4,x5,x6,x238000 =>if x6 < (x5.length:Int) then (if 0≤x6 then (if ((a0J x5 x6).f0) = 2 then (r05_Props.j2 k x3 x4 x5 x6 true x238000) else (r05_Props.j2 k x3 x4 x5 x6 (((a0J x5 x6).f0) == 3) x238000)) else (none)) else (r05_Props.l0 k x3 (wrap64 (x4 + 1)) x238000)
def r05_Props.j2:Nat→List ByteArray→Int→List (S46)→Int→Bool→List (S32)→Option (List ByteArray)
 | 0,_,_,_,_,_,_ =>none
 | k + 1,x3,x4,x5,x6,x42,x238000 =>if x42 = true then (if 0≤x6 then (if x6 < (x5.length:Int) then ((r05_With.f k x3 ((a0J x5 x6).f3)).bind fun t248 =>(r05_Props.j3 k t248 x4 x5 x6 x238000)) else (none)) else (none)) else (r05_Props.j3 k x3 x4 x5 x6 x238000)
def r05_Props.j3:Nat→List ByteArray→Int→List (S46)→Int→List (S32)→Option (List ByteArray)
 | 0,_,_,_,_,_ =>none
 | k + 1,x3,x4,x5,x6,x238000 =>r05_Props.l2 k x3 x4 x5 x6 0 x238000
def r05_Props.l2:Nat→List ByteArray→Int→List (S46)→Int→Int→List (S32)→Option (List ByteArray)
 | 0,_,_,_,_,_,_ =>none
 | k + 1,x3,x4,x5,x6,x7,x238000 =>if 0≤x6 then (if x6 < (x5.length:Int) then (if x7 < (((a0J x5 x6).f5).length:Int) then (if 0≤x7 then ((r05_With.f k x3 (rdOf ByteArray.empty ((a0J x5 x6).f5) x7)).bind fun t254 =>(r05_Props.l2 k t254 x4 x5 x6 (wrap64 (x7 + 1)) x238000)) else (none)) else (r05_Props.l1 k x3 x4 x5 (wrap64 (x6 + 1)) x238000)) else (none)) else (none)
end
def r05_Props.f (k:Nat) (aI:List (S32)):Option (List ByteArray):=r05_Props.l0 k (([]:List ByteArray)) 0 aI
theorem r05_Props.a3E:∀ k,(∀ y0 y1 y2,LeO (r05_Props.l0 k y0 y1 y2) (r05_Props.l0 (k + 1) y0 y1 y2))∧(∀ y0 y1 y2 y3 y4,LeO (r05_Props.l1 k y0 y1 y2 y3 y4) (r05_Props.l1 (k + 1) y0 y1 y2 y3 y4))∧(∀ y0 y1 y2 y3 y4 y5,LeO (r05_Props.j2 k y0 y1 y2 y3 y4 y5) (r05_Props.j2 (k + 1) y0 y1 y2 y3 y4 y5))∧(∀ y0 y1 y2 y3 y4,LeO (r05_Props.j3 k y0 y1 y2 y3 y4) (r05_Props.j3 (k + 1) y0 y1 y2 y3 y4))∧(∀ y0 y1 y2 y3 y4 y5,LeO (r05_Props.l2 k y0 y1 y2 y3 y4 y5) (r05_Props.l2 (k + 1) y0 y1 y2 y3 y4 y5))
 | 0 =>⟨fun _ _ _ r h =>by simp [r05_Props.l0] at h,fun _ _ _ _ _ r h =>by simp [r05_Props.l1] at h,fun _ _ _ _ _ _ r h =>by simp [r05_Props.j2] at h,fun _ _ _ _ _ r h =>by simp [r05_Props.j3] at h,fun _ _ _ _ _ _ r h =>by simp [r05_Props.l2] at h⟩
 | k + 1 =>by
  obtain ⟨ih0,ih1,ih2,ih3,ih4⟩:=r05_Props.a3E k
  refine ⟨?_,?_,?_,?_,?_⟩
  ·intro y0 y1 y2
   unfold r05_Props.l0
   repeat' first
   | (with_reducible exact ih0 _ _ _)
   | (with_reducible exact ih1 _ _ _ _ _)
   | (with_reducible exact ih2 _ _ _ _ _ _)
   | (with_reducible exact ih3 _ _ _ _ _)
   | (with_reducible exact ih4 _ _ _ _ _ _)
   | (with_reducible exact r04_List.mono _ _)
   | (with_reducible exact r05_With.mono _ _ _)
   | (with_reducible exact LeO.refl _)
   | (with_reducible exact LeO.none _)
   | (with_reducible refine LeO.ite ?_ ?_)
   | (with_reducible refine LeO.bind ?_ (fun _ =>?_))
   | exact ih0 _ _ _
   | exact ih1 _ _ _ _ _
   | exact ih2 _ _ _ _ _ _
   | exact ih3 _ _ _ _ _
   | exact ih4 _ _ _ _ _ _
   | exact r04_List.mono _ _
   | exact r05_With.mono _ _ _
   | exact LeO.none _
   | refine LeO.ite ?_ ?_
   | refine LeO.bind ?_ (fun _ =>?_)
  ·intro y0 y1 y2 y3 y4
   unfold r05_Props.l1
   repeat' first
   | (with_reducible exact ih0 _ _ _)
   | (with_reducible exact ih1 _ _ _ _ _)
   | (with_reducible exact ih2 _ _ _ _ _ _)
   | (with_reducible exact ih3 _ _ _ _ _)
   | (with_reducible exact ih4 _ _ _ _ _ _)
   | (with_reducible exact r04_List.mono _ _)
   | (with_reducible exact r05_With.mono _ _ _)
   | (with_reducible exact LeO.refl _)
   | (with_reducible exact LeO.none _)
   | (with_reducible refine LeO.ite ?_ ?_)
   | (with_reducible refine LeO.bind ?_ (fun _ =>?_))
   | exact ih0 _ _ _
   | exact ih1 _ _ _ _ _
   | exact ih2 _ _ _ _ _ _
   | exact ih3 _ _ _ _ _
   | exact ih4 _ _ _ _ _ _
   | exact r04_List.mono _ _
   | exact r05_With.mono _ _ _
   | exact LeO.none _
   | refine LeO.ite ?_ ?_
   | refine LeO.bind ?_ (fun _ =>?_)
  ·intro y0 y1 y2 y3 y4 y5
   unfold r05_Props.j2
   repeat' first
   | (with_reducible exact ih0 _ _ _)
   | (with_reducible exact ih1 _ _ _ _ _)
   | (with_reducible exact ih2 _ _ _ _ _ _)
   | (with_reducible exact ih3 _ _ _ _ _)
   | (with_reducible exact ih4 _ _ _ _ _ _)
   | (with_reducible exact r04_List.mono _ _)
   | (with_reducible exact r05_With.mono _ _ _)
   | (with_reducible exact LeO.refl _)
   | (with_reducible exact LeO.none _)
   | (with_reducible refine LeO.ite ?_ ?_)
   | (with_reducible refine LeO.bind ?_ (fun _ =>?_))
   | exact ih0 _ _ _
   | exact ih1 _ _ _ _ _
   | exact ih2 _ _ _ _ _ _
   | exact ih3 _ _ _ _ _
   | exact ih4 _ _ _ _ _ _
   | exact r04_List.mono _ _
   | exact r05_With.mono _ _ _
   | exact LeO.none _
   | refine LeO.ite ?_ ?_
   | refine LeO.bind ?_ (fun _ =>?_)
  ·intro y0 y1 y2 y3 y4
   unfold r05_Props.j3
   repeat' first
   | (with_reducible exact ih0 _ _ _)
   | (with_reducible exact ih1 _ _ _ _ _)
   | (with_reducible exact ih2 _ _ _ _ _ _)
   | (with_reducible exact ih3 _ _ _ _ _)
   | (with_reducible exact ih4 _ _ _ _ _ _)
   | (with_reducible exact r04_List.mono _ _)
   | (with_reducible exact r05_With.mono _ _ _)
   | (with_reducible exact LeO.refl _)
   | (with_reducible exact LeO.none _)
   | (with_reducible refine LeO.ite ?_ ?_)
   | (with_reducible refine LeO.bind ?_ (fun _ =>?_))
   | exact ih0 _ _ _
   | exact ih1 _ _ _ _ _
   | exact ih2 _ _ _ _ _ _
   | exact ih3 _ _ _ _ _
   | exact ih4 _ _ _ _ _ _
   | exact r04_List.mono _ _
   | exact r05_With.mono _ _ _
   | exact LeO.none _
   | refine LeO.ite ?_ ?_
   | refine LeO.bind ?_ (fun _ =>?_)
  ·intro y0 y1 y2 y3 y4 y5
   unfold r05_Props.l2
   repeat' first
   | (with_reducible exact ih0 _ _ _)
   | (with_reducible exact ih1 _ _ _ _ _)
   | (with_reducible exact ih2 _ _ _ _ _ _)
   | (with_reducible exact ih3 _ _ _ _ _)
   | (with_reducible exact ih4 _ _ _ _ _ _)
   | (with_reducible exact r04_List.mono _ _)
   | (with_reducible exact r05_With.mono _ _ _)
   | (with_reducible exact LeO.refl _)
   | (with_reducible exact LeO.none _)
   | (with_reducible refine LeO.ite ?_ ?_)
   | (with_reducible refine LeO.bind ?_ (fun _ =>?_))
   | exact ih0 _ _ _
   | exact ih1 _ _ _ _ _
   | exact ih2 _ _ _ _ _ _
   | exact ih3 _ _ _ _ _
   | exact ih4 _ _ _ _ _ _
   | exact r04_List.mono _ _
   | exact r05_With.mono _ _ _
   | exact LeO.none _
   | refine LeO.ite ?_ ?_
   | refine LeO.bind ?_ (fun _ =>?_)
theorem r05_Props.mono:∀ a0 k,LeO (r05_Props.f k a0) (r05_Props.f (k + 1) a0):=by
 intro a0 k
 obtain ⟨ih0,ih1,ih2,ih3,ih4⟩:=r05_Props.a3E k
 unfold r05_Props.f
 repeat' first
   | (with_reducible exact ih0 _ _ _)
   | (with_reducible exact ih1 _ _ _ _ _)
   | (with_reducible exact ih2 _ _ _ _ _ _)
   | (with_reducible exact ih3 _ _ _ _ _)
   | (with_reducible exact ih4 _ _ _ _ _ _)
   | (with_reducible exact r04_List.mono _ _)
   | (with_reducible exact r05_With.mono _ _ _)
   | (with_reducible exact LeO.refl _)
   | (with_reducible exact LeO.none _)
   | (with_reducible refine LeO.ite ?_ ?_)
   | (with_reducible refine LeO.bind ?_ (fun _ =>?_))
   | exact ih0 _ _ _
   | exact ih1 _ _ _ _ _
   | exact ih2 _ _ _ _ _ _
   | exact ih3 _ _ _ _ _
   | exact ih4 _ _ _ _ _ _
   | exact r04_List.mono _ _
   | exact r05_With.mono _ _ _
   | exact LeO.none _
   | refine LeO.ite ?_ ?_
   | refine LeO.bind ?_ (fun _ =>?_)
set_option maxHeartbeats 8000000 in
set_option maxRecDepth 100000 in
theorem r05_Props.calls (k:Nat) (fY:Option Addr) (cY:Nat) (aI:List (S32)) (r:List ByteArray) (w:World) (rD:Kd.C k32 w fY aI.length aI) (rE:aI.length≤cY) (h:r05_Props.f k aI = some r) :
    Calls Try.prog 18 #[.agg #[.slice fY aI.length cY]] w fun e w' =>∃ v0_:Value,e = .returned (v0_)∧Kd.R Kd.string 9 w' w.heap.size (fun _ =>True) v0_ r∧Below w.heap.size w w':=by
 have hu24:=Try.underlying24
 have rM:=a0A.mk rD
 have aU8:=a0A.mk rE
 clear rD rE
 have HB:=a0A.mk (Below.refl w.heap.size w)
 have H:(r05_Props.l0 k (([]:List ByteArray)) 0 aI) = some r:=h
 clear h
 obtain ⟨y238,hy238⟩:∃ y_:List ByteArray,y_ = (([]:List ByteArray)):=⟨_,rfl⟩
 replace H:(r05_Props.l0 k y238 0 aI) = some r:=by first | (rw [hy238];with_reducible exact H) | (have H2_:=(Option.bind_some _ _).symm.trans H;rw [hy238];with_reducible exact H2_) | (have H2_:=(Option.bind_some _ _).symm.trans H;with_reducible exact H2_) | with_reducible exact H | (rw [hy238];exact H) | exact H
 have Ny238:=a0A.mk hy238
 clear hy238
 have H':=a0A.mk H
 clear H
 go_enter Try.func18,Try.ntmps18
 go_wp2_with (first | ((with_reducible refine a1C (N:=1) rfl ?_);refine a1A ?hg (N:=1) ?hd (cs:=#[.slice fY aI.length cY]) (t:=24) ?hr ?_;(case hd =>rfl);(case hg =>rfl);(case hr =>first | (go_simp;done) | (go_simp;rfl));intro cC hg w2 hbox hb;have bD:=a0A.mk (a0H (by repeat (first | (with_reducible first | exact HB.out | apply a0D | apply a0B | apply a0E) | exact HB.out)) hb);have bE:=a0A.mk (hbox);have bT:=a0A.mk ((by rw [hg];exact (a0V (by repeat (first | (with_reducible first | exact HB.out | apply a0D | apply a0B | apply a0E) | exact HB.out))):w.heap.size≤cC));have cI:=a0A.mk ((by rw [hg];exact (a0V (by repeat (first | (with_reducible first | exact HB.out | apply a0D | apply a0B | apply a0E) | exact HB.out))):w.heap.size≤cC));clear HB;have HB:=bD;have aX:=bE;have GW237:=bT;have bR:=cI;clear bD bE bT cI;clear hb hbox hg) | ((with_reducible refine a1C (N:=8) rfl ?_);refine Kd.b4F Kd.string _ 9 ?hg (N:=8) ?hd (xs:=([]:List ByteArray)) (inner:=[]) (ok:=fun _ =>True) (okp:=fun _ =>True) ?hr ?hp (fun _ hk =>hk) trivial (Below.refl _ _) (Nat.le_refl _) (by simp) ?_;(case hd =>rfl);(case hg =>rfl);(case hr =>first | (go_simp;done) | (go_simp;rfl));(case hp =>exact (Reps.none _ _));intro v239 w3 ho4 hb hg_ hnew_;clear hg_ hnew_;(first | rw [← Ny238.out] at ho4 | (simp only [Int.reduceToNat] at ho4;rw [← Ny238.out] at ho4));have bD:=a0A.mk (Kd.a2Y ho4 (a0V (by repeat (first | (with_reducible first | exact HB.out | apply a0D | apply a0B | apply a0E | refine a0I ?_ bR.out) | exact HB.out))));have bE:=a0A.mk (a0U (g:=cC) (o:=.cells #[.slice fY aI.length cY] 24 (0,0)) (by (with_reducible repeat (first | refine a0L ?_ _ | refine a0M ?_ | refine a0K ?_ _));exact aX.out) hb);have bT:=a0A.mk (a0H (by repeat (first | (with_reducible first | exact HB.out | apply a0D | apply a0B | apply a0E | refine a0I ?_ bR.out) | exact HB.out)) hb);clear aX;clear HB;have HO240:=bD;have aX:=bE;have HB:=bT;clear bD bE bT;clear hb ho4))
 go_loopg [3,4] k (fun kq v3 v4 w' =>∃ (aY:List ByteArray) (aC:Int),v4 = .int .i64 aC∧a0A (r05_Props.l0 kq aY aC aI = some r)∧a0A (kq≤k)∧a0A (Kd.R Kd.string 9 w' w.heap.size (fun _ =>True) v3 aY)∧a0A (w'.heap[cC]? = some (.cells #[(.slice fY aI.length cY)] 24 (0,0)))∧a0A (Below w.heap.size w w'))
 case atStart =>exact ⟨(y238),(0),(by first | rfl | (simp;done) | (simp [*];done)),H',⟨Nat.le_refl _⟩,⟨by (with_reducible repeat (first | apply Kd.a1N | apply Kd.a1M | apply Kd.a1S));exact HO240.out⟩,⟨by (with_reducible repeat (first | refine a0L ?_ _ | refine a0M ?_ | refine a0K ?_ _));exact aX.out⟩,⟨by repeat (first | (with_reducible first | exact HB.out | apply a0D | apply a0B | apply a0E | refine a0I ?_ bR.out) | exact HB.out)⟩⟩
 case round =>
  clear H'
  try clear c1
  try clear p2
  obtain ⟨aY,aC,rfl,HA,HK1,aE,aX,HB⟩:=hrel
  cases gk with
  | zero =>exact absurd HA.out (by simp [r05_Props.l0])
  | succ k1 =>
   have H:=HA.out
   clear HA
   simp only [r05_Props.l0] at H
   by_cases c5:aC < (aI.length:Int)
   ·rw [if_pos c5] at H
    have c5b0:decide (aC < (aI.length:Int)) = true:=decide_eq_true c5
    clear c5
    by_cases c6:0≤aC
    ·rw [if_pos c6] at H
     have c6b0:decide (0≤aC) = true:=decide_eq_true c6
     clear c6
     replace H:=Option.bind_eq_some_iff.mp H
     obtain ⟨t242,A70,H⟩:=H
     replace H:(r05_Props.l1 k1 aY aC t242 0 aI) = some r:=H
     have A7:=a0A.mk A70
     clear A70
     have H':=a0A.mk H
     clear H
     have fG:wr.cell? ⟨cC,0,none⟩ = some (.slice fY aI.length cY):=(a0G aX.out 0).trans rfl
     have fH:=a0F aX.out 0
     have p241:0≤(aC:Int):=of_decide_eq_true (by first | (with_reducible assumption) | assumption)
     have q241:aC < (aI.length:Int):=of_decide_eq_true (by first | (with_reducible assumption) | assumption)
     obtain ⟨ad241,bO7,bO8,aS4,aS5,e241,fS,fT,fU,aB4,aB5,aB6,aB7⟩:=a3N rM.out aC p241 q241
     cases e241
     replace fS:=a0C HB.out fS
     replace fT:=a0C HB.out fT
     replace fU:=a0C HB.out fU
     have bG2:=a0A.mk aB5
     have bG3:=a0A.mk aB4
     clear aB5 aB4
     have aK4:=a0A.mk aB7
     have aK5:=a0A.mk aB6
     clear aB7 aB6
     replace p241:=eq_true p241
     replace q241:=eq_true q241
     go_wp2_with (first | ((with_reducible refine a1H (f:=28) rfl ?_);refine a2G (some 22) rfl rfl Try.func28 (by kernel_rfl) rfl #[.slice aS4 ((a0P aI aC).f2).length aS5] rfl (by (try simp only [List.map_toArray,List.map_cons,List.map_nil]);first | done | rfl | (simp only [List.length_drop,List.length_take];rfl)) ?_;(with_reducible refine (r04_List.calls k1 (fun k_ =>k_ < w.heap.size) _ _ ((a0P aI aC).f2) t242 _ ?side1 A7.out).mono ?_);(case side1 =>exact Kd.V_mk aK5.out (Kd.a1W (Kd.C_F a6M aK4.out) (by repeat (first | (with_reducible first | exact HB.out | apply a0D | apply a0B | apply a0E | refine a0I ?_ bR.out) | exact HB.out))));rintro e w9 ⟨v243,rfl,ho0,hb⟩;refine ⟨_,rfl,?_⟩;have bD:=a0A.mk (Kd.a8U (by (with_reducible repeat (first | apply Kd.a1N | apply Kd.a1M | apply Kd.a1S));exact aE.out) hb);have bE:=a0A.mk (Kd.a7P (Kd.a3P (ok':=fun k_ =>some k_≠(u3:Value).ownBlock∧k_≠cC) ho0 (fun k_ hk_ =>⟨Or.elim hk_ (fun hs_ =>fun e_ =>Nat.not_le.2 hs_ (Kd.a1X aE.out k_ e_.symm)) (fun hn_ =>(Kd.fresh' (Kd.R_lt (by (with_reducible repeat (first | apply Kd.a1N | apply Kd.a1M | apply Kd.a1S));exact aE.out)) k_ hn_)),Or.elim hk_ (fun hs_ =>fun e_ =>Nat.not_le.2 hs_ (by rw [e_];exact GW237.out)) (fun hn_ =>(Kd.freshB (g:=cC) (o:=.cells #[.slice (some ad241) aI.length cY] 24 (0,0)) (by (with_reducible repeat (first | refine a0L ?_ _ | refine a0M ?_ | refine a0K ?_ _));exact aX.out) k_ hn_))⟩)) (a0V (by repeat (first | (with_reducible first | exact HB.out | apply a0D | apply a0B | apply a0E | refine a0I ?_ bR.out) | exact HB.out))));have bT:=a0A.mk (a0U (g:=cC) (o:=.cells #[.slice (some ad241) aI.length cY] 24 (0,0)) (by (with_reducible repeat (first | refine a0L ?_ _ | refine a0M ?_ | refine a0K ?_ _));exact aX.out) hb);have cI:=a0A.mk (a0H (by repeat (first | (with_reducible first | exact HB.out | apply a0D | apply a0B | apply a0E | refine a0I ?_ bR.out) | exact HB.out)) hb);clear aE;clear aX;clear HB;have aE:=bD;have HO244:=bE;have aX:=bT;have HB:=cI;clear bD bE bT cI;(try clear hb);(try clear hb2);(try clear hk);(try clear hi);(try clear ho0)))
     go_loopg [3,6] k1 (fun kq v3 v6 w' =>∃ (fJ:List ByteArray) (aA:Int),v6 = .int .i64 aA∧a0A (r05_Props.l1 kq fJ aC t242 aA aI = some r)∧a0A (kq≤k1)∧a0A (Kd.R Kd.string 9 w' w.heap.size (fun _ =>True) v3 fJ)∧a0A (Kd.N k46 46 w' w.heap.size (fun k_ =>some k_≠(v3:Value).ownBlock∧k_≠cC) v243 t242)∧a0A (w'.heap[cC]? = some (.cells #[(.slice (some ad241) aI.length cY)] 24 (0,0)))∧a0A (Below w.heap.size w w'))
     case atStart =>exact ⟨(aY),(0),(by first | rfl | (simp;done) | (simp [*];done)),H',⟨Nat.le_refl _⟩,⟨by (with_reducible repeat (first | apply Kd.a1N | apply Kd.a1M | apply Kd.a1S));exact aE.out⟩,⟨by (with_reducible repeat (first | apply Kd.a2A | apply Kd.a1Z | apply Kd.a2I));exact HO244.out⟩,⟨by (with_reducible repeat (first | refine a0L ?_ _ | refine a0M ?_ | refine a0K ?_ _));exact aX.out⟩,⟨by repeat (first | (with_reducible first | exact HB.out | apply a0D | apply a0B | apply a0E | refine a0I ?_ bR.out) | exact HB.out)⟩⟩
     case round =>
      clear H'
      try clear c1
      try clear c2
      try clear p2
      try clear q2
      try clear hx2
      try clear c5
      try clear c5b0
      try clear c6
      try clear c6b0
      try clear fG
      try clear fH
      try clear fS
      try clear fT
      try clear fU
      try clear p2
      try clear p241
      try clear q241
      obtain ⟨fJ,aA,rfl,HA,HK2,aE,aD,aX,HB⟩:=hrel
      cases gk with
      | zero =>exact absurd HA.out (by simp [r05_Props.l1])
      | succ k2 =>
       have H:=HA.out
       clear HA
       simp only [r05_Props.l1] at H
       by_cases c10:aA < (t242.length:Int)
       ·rw [if_pos c10] at H
        have c10b0:decide (aA < (t242.length:Int)) = true:=decide_eq_true c10
        clear c10
        have HC11:=a0A.mk H
        clear H
        obtain ⟨Ao12,co12,eo12⟩:=Kd.a5B aD.out
        subst eo12
        go_upto_region 9 with (fail)
        go_cut [42] (fun v42 wc =>∃ (kq:Nat) (pO:Bool),v42 = .bool pO∧a0A (r05_Props.j2 kq fJ aC t242 aA pO aI = some r)∧a0A (kq≤k2)∧a0A (Kd.R Kd.string 9 wc w.heap.size (fun _ =>True) u3 fJ)∧a0A (Kd.N k46 46 wc w.heap.size (fun k_ =>some k_≠(u3:Value).ownBlock∧k_≠cC) (.slice Ao12 t242.length co12) t242)∧a0A (wc.heap[cC]? = some (.cells #[(.slice (some ad241) aI.length cY)] 24 (0,0)))∧a0A (Below w.heap.size w wc))
        case first =>
         have H:=HC11.out
         clear HC11
         by_cases c13:0≤aA
         ·rw [if_pos c13] at H
          have c13b0:decide (0≤aA) = true:=decide_eq_true c13
          clear c13
          (first | rw [c13b0] | (simp only [a0X,a0Y];rw [c13b0]) | skip)
          by_cases c14:((a0J t242 aA).f0) = 2
          ·rw [if_pos c14] at H
           have c14b0:(((a0J t242 aA).f0) == 2) = true:=beq_iff_eq.mpr c14
           have c14b1:(((a0J t242 aA).f0) != 2) = false:=bne_eq_false_iff_eq.mpr c14
           clear c14
           have H':=a0A.mk H
           clear H
           have p245:0≤(aA:Int):=of_decide_eq_true (by first | (with_reducible assumption) | assumption)
           have q245:aA < (t242.length:Int):=of_decide_eq_true (by first | (with_reducible assumption) | assumption)
           obtain ⟨ad245,aS6,aS7,aS8,aS9,aT0,aT1,aT2,aT3,e245,lI,lJ,lK,lL,eM,eN,eO,eP,iT,iU,iV,iW,iX,iY,iZ,jA⟩:=a3C (Kd.a1V aD.out).2.2 aA p245 q245
           cases e245
           obtain ⟨ce245,rI,rJ,dB⟩:=Kd.a6I aD.out z46 aA p245 (by first | exact q245 | exact of_decide_eq_true (by first | (with_reducible assumption) | assumption) | (have e_:=(Kd.a1V aD.out).1;omega))
           obtain ⟨aK6,aK7,aK8,aK9,aL0,aL1,aL2,aL3,rfl,eQ,eR,eS,eT,eU,eV,eW,eX⟩:=a2H rJ
           have cO:=dB 4 _ rfl
           rw [a0W _ _ 4 (by omega)] at cO
           replace cO:=Option.some.inj (cO.symm.trans eM)
           injection cO with hva_ hvn_ hvc_
           rw [hva_] at eR
           rw [hvc_] at eQ
           have aL4:=a0A.mk (show Kd.V k56 56 _ w.heap.size _ _ ((a0J t242 aA).f4) from Kd.V_mk eQ eR)
           clear hva_ hvn_ hvc_ eR eQ
           have cR:=dB 5 _ rfl
           rw [a0W _ _ 5 (by omega)] at cR
           replace cR:=Option.some.inj (cR.symm.trans eN)
           injection cR with hva_ hvn_ hvc_
           rw [hva_] at eT
           rw [hvc_] at eS
           have aL5:=a0A.mk (show Kd.V Kd.string 9 _ w.heap.size _ _ ((a0J t242 aA).f5) from Kd.V_mk eS eT)
           clear hva_ hvn_ hvc_ eT eS
           have cS:=dB 6 _ rfl
           rw [a0W _ _ 6 (by omega)] at cS
           replace cS:=Option.some.inj (cS.symm.trans eO)
           injection cS with hva_ hvn_ hvc_
           rw [hva_] at eV
           rw [hvc_] at eU
           have aL6:=a0A.mk (show Kd.V k46 46 _ w.heap.size _ _ ((a0J t242 aA).f6) from Kd.V_mk eU eV)
           clear hva_ hvn_ hvc_ eV eU
           have cT:=dB 7 _ rfl
           rw [a0W _ _ 7 (by omega)] at cT
           replace cT:=Option.some.inj (cT.symm.trans eP)
           injection cT with hva_ hvn_ hvc_
           rw [hva_] at eX
           rw [hvc_] at eW
           have aL7:=a0A.mk (show Kd.V k46 46 _ w.heap.size _ _ ((a0J t242 aA).f7) from Kd.V_mk eW eX)
           clear hva_ hvn_ hvc_ eX eW
           clear dB rI
           have aL8:=a0A.mk iU
           have aL9:=a0A.mk iT
           clear iU iT
           have aM0:=a0A.mk iW
           have aM1:=a0A.mk iV
           clear iW iV
           have aM2:=a0A.mk iY
           have aM3:=a0A.mk iX
           clear iY iX
           have aM4:=a0A.mk jA
           have aM5:=a0A.mk iZ
           clear jA iZ
           replace p245:=eq_true p245
           replace q245:=eq_true q245
           go_wp2
           go_meet
           case rel =>exact ⟨_,(true),(by first | rfl | (simp;done) | (simp [*];done)),H',⟨by have:=HK1.out;have:=HK2.out;first | omega | exact Nat.le_refl _⟩,⟨by (with_reducible repeat (first | apply Kd.a1N | apply Kd.a1M | apply Kd.a1S));exact aE.out⟩,⟨by (with_reducible repeat (first | apply Kd.a2A | apply Kd.a1Z | apply Kd.a2I));exact aD.out⟩,⟨by (with_reducible repeat (first | refine a0L ?_ _ | refine a0M ?_ | refine a0K ?_ _));exact aX.out⟩,⟨by repeat (first | (with_reducible first | exact HB.out | apply a0D | apply a0B | apply a0E | refine a0I ?_ bR.out) | exact HB.out)⟩⟩
          ·rw [if_neg c14] at H
           have c14b0:(((a0J t242 aA).f0) == 2) = false:=beq_eq_false_iff_ne.mpr c14
           have c14b1:(((a0J t242 aA).f0) != 2) = true:=bne_iff_ne.mpr c14
           have H':=a0A.mk H
           clear H
           have p245:0≤(aA:Int):=of_decide_eq_true (by first | (with_reducible assumption) | assumption)
           have q245:aA < (t242.length:Int):=of_decide_eq_true (by first | (with_reducible assumption) | assumption)
           obtain ⟨ad245,aS6,aS7,aS8,aS9,aT0,aT1,aT2,aT3,e245,lI,lJ,lK,lL,eM,eN,eO,eP,iT,iU,iV,iW,iX,iY,iZ,jA⟩:=a3C (Kd.a1V aD.out).2.2 aA p245 q245
           cases e245
           obtain ⟨ce245,rI,rJ,dB⟩:=Kd.a6I aD.out z46 aA p245 (by first | exact q245 | exact of_decide_eq_true (by first | (with_reducible assumption) | assumption) | (have e_:=(Kd.a1V aD.out).1;omega))
           obtain ⟨aK6,aK7,aK8,aK9,aL0,aL1,aL2,aL3,rfl,eQ,eR,eS,eT,eU,eV,eW,eX⟩:=a2H rJ
           have cO:=dB 4 _ rfl
           rw [a0W _ _ 4 (by omega)] at cO
           replace cO:=Option.some.inj (cO.symm.trans eM)
           injection cO with hva_ hvn_ hvc_
           rw [hva_] at eR
           rw [hvc_] at eQ
           have aL4:=a0A.mk (show Kd.V k56 56 _ w.heap.size _ _ ((a0J t242 aA).f4) from Kd.V_mk eQ eR)
           clear hva_ hvn_ hvc_ eR eQ
           have cR:=dB 5 _ rfl
           rw [a0W _ _ 5 (by omega)] at cR
           replace cR:=Option.some.inj (cR.symm.trans eN)
           injection cR with hva_ hvn_ hvc_
           rw [hva_] at eT
           rw [hvc_] at eS
           have aL5:=a0A.mk (show Kd.V Kd.string 9 _ w.heap.size _ _ ((a0J t242 aA).f5) from Kd.V_mk eS eT)
           clear hva_ hvn_ hvc_ eT eS
           have cS:=dB 6 _ rfl
           rw [a0W _ _ 6 (by omega)] at cS
           replace cS:=Option.some.inj (cS.symm.trans eO)
           injection cS with hva_ hvn_ hvc_
           rw [hva_] at eV
           rw [hvc_] at eU
           have aL6:=a0A.mk (show Kd.V k46 46 _ w.heap.size _ _ ((a0J t242 aA).f6) from Kd.V_mk eU eV)
           clear hva_ hvn_ hvc_ eV eU
           have cT:=dB 7 _ rfl
           rw [a0W _ _ 7 (by omega)] at cT
           replace cT:=Option.some.inj (cT.symm.trans eP)
           injection cT with hva_ hvn_ hvc_
           rw [hva_] at eX
           rw [hvc_] at eW
           have aL7:=a0A.mk (show Kd.V k46 46 _ w.heap.size _ _ ((a0J t242 aA).f7) from Kd.V_mk eW eX)
           clear hva_ hvn_ hvc_ eX eW
           clear dB rI
           have aL8:=a0A.mk iU
           have aL9:=a0A.mk iT
           clear iU iT
           have aM0:=a0A.mk iW
           have aM1:=a0A.mk iV
           clear iW iV
           have aM2:=a0A.mk iY
           have aM3:=a0A.mk iX
           clear iY iX
           have aM4:=a0A.mk jA
           have aM5:=a0A.mk iZ
           clear jA iZ
           replace p245:=eq_true p245
           replace q245:=eq_true q245
           have p246:0≤(aA:Int):=of_decide_eq_true (by first | (with_reducible assumption) | assumption)
           have q246:aA < (t242.length:Int):=of_decide_eq_true (by first | (with_reducible assumption) | assumption)
           obtain ⟨ad246,bO9,bP0,bP1,bP2,bP3,bP4,bP5,bP6,e246,pP,pQ,pR,pS,jB,jC,jD,jE,aB8,aB9,aC0,aC1,aC2,aC3,aC4,aC5⟩:=a3C (Kd.a1V aD.out).2.2 aA p246 q246
           obtain rfl:ad245 = ad246:=(by injection e246)
           obtain ⟨ce246,aT4,aT5,mV⟩:=Kd.a6I aD.out z46 aA p246 (by first | exact q246 | exact of_decide_eq_true (by first | (with_reducible assumption) | assumption) | (have e_:=(Kd.a1V aD.out).1;omega))
           obtain ⟨bG4,bG5,bG6,bG7,bG8,bG9,bH0,bH1,rfl,pT,pU,pV,pW,pX,pY,pZ,qA⟩:=a2H aT5
           have lM:=mV 4 _ rfl
           rw [a0W _ _ 4 (by omega)] at lM
           replace lM:=Option.some.inj (lM.symm.trans jB)
           injection lM with hva_ hvn_ hvc_
           rw [hva_] at pU
           rw [hvc_] at pT
           have bH2:=a0A.mk (show Kd.V k56 56 _ w.heap.size _ _ ((a0J t242 aA).f4) from Kd.V_mk pT pU)
           clear hva_ hvn_ hvc_ pU pT
           have lN:=mV 5 _ rfl
           rw [a0W _ _ 5 (by omega)] at lN
           replace lN:=Option.some.inj (lN.symm.trans jC)
           injection lN with hva_ hvn_ hvc_
           rw [hva_] at pW
           rw [hvc_] at pV
           have bH3:=a0A.mk (show Kd.V Kd.string 9 _ w.heap.size _ _ ((a0J t242 aA).f5) from Kd.V_mk pV pW)
           clear hva_ hvn_ hvc_ pW pV
           have lO:=mV 6 _ rfl
           rw [a0W _ _ 6 (by omega)] at lO
           replace lO:=Option.some.inj (lO.symm.trans jD)
           injection lO with hva_ hvn_ hvc_
           rw [hva_] at pY
           rw [hvc_] at pX
           have bH4:=a0A.mk (show Kd.V k46 46 _ w.heap.size _ _ ((a0J t242 aA).f6) from Kd.V_mk pX pY)
           clear hva_ hvn_ hvc_ pY pX
           have lP:=mV 7 _ rfl
           rw [a0W _ _ 7 (by omega)] at lP
           replace lP:=Option.some.inj (lP.symm.trans jE)
           injection lP with hva_ hvn_ hvc_
           rw [hva_] at qA
           rw [hvc_] at pZ
           have bH5:=a0A.mk (show Kd.V k46 46 _ w.heap.size _ _ ((a0J t242 aA).f7) from Kd.V_mk pZ qA)
           clear hva_ hvn_ hvc_ qA pZ
           clear mV aT4
           have bH6:=a0A.mk aB9
           have bH7:=a0A.mk aB8
           clear aB9 aB8
           have bH8:=a0A.mk aC1
           have bH9:=a0A.mk aC0
           clear aC1 aC0
           have bI0:=a0A.mk aC3
           have bI1:=a0A.mk aC2
           clear aC3 aC2
           have bI2:=a0A.mk aC5
           have bI3:=a0A.mk aC4
           clear aC5 aC4
           replace p246:=eq_true p246
           replace q246:=eq_true q246
           have ea_:=Option.some.inj (eM.symm.trans jB)
           injection ea_ with ea_ en_ ec_
           subst ea_
           subst ec_
           clear en_
           have ea_:=Option.some.inj (eN.symm.trans jC)
           injection ea_ with ea_ en_ ec_
           subst ea_
           subst ec_
           clear en_
           have ea_:=Option.some.inj (eO.symm.trans jD)
           injection ea_ with ea_ en_ ec_
           subst ea_
           subst ec_
           clear en_
           have ea_:=Option.some.inj (eP.symm.trans jE)
           injection ea_ with ea_ en_ ec_
           subst ea_
           subst ec_
           clear en_
           go_wp2
           go_meet
           case rel =>exact ⟨_,((((a0J t242 aA).f0) == 3)),(by first | rfl | (simp;done) | (simp [*];done)),H',⟨by have:=HK1.out;have:=HK2.out;first | omega | exact Nat.le_refl _⟩,⟨by (with_reducible repeat (first | apply Kd.a1N | apply Kd.a1M | apply Kd.a1S));exact aE.out⟩,⟨by (with_reducible repeat (first | apply Kd.a2A | apply Kd.a1Z | apply Kd.a2I));exact aD.out⟩,⟨by (with_reducible repeat (first | refine a0L ?_ _ | refine a0M ?_ | refine a0K ?_ _));exact aX.out⟩,⟨by repeat (first | (with_reducible first | exact HB.out | apply a0D | apply a0B | apply a0E | refine a0I ?_ bR.out) | exact HB.out)⟩⟩
         ·rw [if_neg c13] at H
          exact absurd H (by simp)
        case rest =>
         clear HC11
         try clear c1
         try clear c2
         try clear p2
         try clear q2
         try clear hx2
         try clear c5
         try clear c5b0
         try clear c6
         try clear c6b0
         try clear c10
         try clear c10b0
         try clear c13
         try clear c13b0
         try clear c14
         try clear c14b0
         try clear c14b1
         try clear fG
         try clear fH
         try clear fS
         try clear fT
         try clear fU
         try clear lI
         try clear lJ
         try clear lK
         try clear lL
         try clear eM
         try clear eN
         try clear eO
         try clear eP
         try clear pP
         try clear pQ
         try clear pR
         try clear pS
         try clear jB
         try clear jC
         try clear jD
         try clear jE
         try clear p2
         try clear p241
         try clear p245
         try clear p246
         try clear q2
         try clear q241
         try clear q245
         try clear q246
         obtain ⟨kq,pO,rfl,HA,HJ10,aE,aD,aX,HB⟩:=hcut
         cases kq with
         | zero =>exact absurd HA.out (by simp [r05_Props.j2])
         | succ kj10 =>
          have H:=HA.out
          clear HA
          simp only [r05_Props.j2] at H
          have HC15:=a0A.mk H
          clear H
          go_upto_if 42 with (fail)
          go_cut [3] (fun v3 wc =>∃ (kq:Nat) (aC6:List ByteArray),a0A (r05_Props.j3 kq aC6 aC t242 aA aI = some r)∧a0A (kq≤kj10)∧a0A (Kd.R Kd.string 9 wc w.heap.size (fun _ =>True) v3 aC6)∧a0A (Kd.N k46 46 wc w.heap.size (fun k_ =>some k_≠(v3:Value).ownBlock∧k_≠cC) (.slice Ao12 t242.length co12) t242)∧a0A (wc.heap[cC]? = some (.cells #[(.slice (some ad241) aI.length cY)] 24 (0,0)))∧a0A (Below w.heap.size w wc))
          case first =>
           have H:=HC15.out
           clear HC15
           by_cases c16:pO = true
           ·subst c16
            have H1:(if 0≤aA then (if aA < (t242.length:Int) then ((r05_With.f kj10 fJ ((a0J t242 aA).f3)).bind fun t248 =>(r05_Props.j3 kj10 t248 aC t242 aA aI)) else (none)) else (none)) = some r:=by rw [if_pos rfl] at H;exact H
            clear H
            have H:=H1
            clear H1
            by_cases c17:0≤aA
            ·rw [if_pos c17] at H
             have c17b0:decide (0≤aA) = true:=decide_eq_true c17
             clear c17
             (first | rw [c17b0] | (simp only [a0X,a0Y];rw [c17b0]) | skip)
             by_cases c18:aA < (t242.length:Int)
             ·rw [if_pos c18] at H
              have c18b0:decide (aA < (t242.length:Int)) = true:=decide_eq_true c18
              clear c18
              replace H:=Option.bind_eq_some_iff.mp H
              obtain ⟨t248,A190,H⟩:=H
              replace H:(r05_Props.j3 kj10 t248 aC t242 aA aI) = some r:=H
              have A19:=a0A.mk A190
              clear A190
              have H':=a0A.mk H
              clear H
              have p247:0≤(aA:Int):=of_decide_eq_true (by first | (with_reducible assumption) | assumption)
              have q247:aA < (t242.length:Int):=of_decide_eq_true (by first | (with_reducible assumption) | assumption)
              obtain ⟨ad247,bP7,bP8,bP9,bQ0,bQ1,bQ2,bQ3,bQ4,e247,aC7,aC8,aC9,aD0,qB,qC,qD,qE,aD1,aD2,aD3,aD4,aD5,aD6,aD7,aD8⟩:=a3C (Kd.a1V aD.out).2.2 aA p247 q247
              cases e247
              obtain ⟨ce247,aT6,aT7,mW⟩:=Kd.a6I aD.out z46 aA p247 (by first | exact q247 | exact of_decide_eq_true (by first | (with_reducible assumption) | assumption) | (have e_:=(Kd.a1V aD.out).1;omega))
              obtain ⟨bI4,bI5,bI6,bI7,bI8,bI9,bJ0,bJ1,rfl,qF,qG,qH,qI,qJ,qK,qL,qM⟩:=a2H aT7
              have lQ:=mW 4 _ rfl
              rw [a0W _ _ 4 (by omega)] at lQ
              replace lQ:=Option.some.inj (lQ.symm.trans qB)
              injection lQ with hva_ hvn_ hvc_
              rw [hva_] at qG
              rw [hvc_] at qF
              have qN:=a0A.mk (show Kd.V k56 56 _ w.heap.size _ _ ((a0J t242 aA).f4) from Kd.V_mk qF qG)
              clear hva_ hvn_ hvc_ qG qF
              have lR:=mW 5 _ rfl
              rw [a0W _ _ 5 (by omega)] at lR
              replace lR:=Option.some.inj (lR.symm.trans qC)
              injection lR with hva_ hvn_ hvc_
              rw [hva_] at qI
              rw [hvc_] at qH
              have qO:=a0A.mk (show Kd.V Kd.string 9 _ w.heap.size _ _ ((a0J t242 aA).f5) from Kd.V_mk qH qI)
              clear hva_ hvn_ hvc_ qI qH
              have lS:=mW 6 _ rfl
              rw [a0W _ _ 6 (by omega)] at lS
              replace lS:=Option.some.inj (lS.symm.trans qD)
              injection lS with hva_ hvn_ hvc_
              rw [hva_] at qK
              rw [hvc_] at qJ
              have qP:=a0A.mk (show Kd.V k46 46 _ w.heap.size _ _ ((a0J t242 aA).f6) from Kd.V_mk qJ qK)
              clear hva_ hvn_ hvc_ qK qJ
              have lT:=mW 7 _ rfl
              rw [a0W _ _ 7 (by omega)] at lT
              replace lT:=Option.some.inj (lT.symm.trans qE)
              injection lT with hva_ hvn_ hvc_
              rw [hva_] at qM
              rw [hvc_] at qL
              have qQ:=a0A.mk (show Kd.V k46 46 _ w.heap.size _ _ ((a0J t242 aA).f7) from Kd.V_mk qL qM)
              clear hva_ hvn_ hvc_ qM qL
              clear mW aT6
              have lU:=a0A.mk aD2
              have bJ2:=a0A.mk aD1
              clear aD2 aD1
              have lV:=a0A.mk aD4
              have bJ3:=a0A.mk aD3
              clear aD4 aD3
              have lW:=a0A.mk aD6
              have bJ4:=a0A.mk aD5
              clear aD6 aD5
              have lX:=a0A.mk aD8
              have bJ5:=a0A.mk aD7
              clear aD8 aD7
              replace p247:=eq_true p247
              replace q247:=eq_true q247
              obtain ⟨Ao20,co20,eo20⟩:=Kd.a3O aE.out
              subst eo20
              go_wp2_with (first | ((with_reducible refine a1H (f:=19) rfl ?_);refine a2G (some 49) rfl rfl Try.func19 (by kernel_rfl) rfl #[.slice Ao20 fJ.length co20,.string ((a0J t242 aA).f3)] rfl (by (try simp only [List.map_toArray,List.map_cons,List.map_nil]);first | done | rfl | (simp only [List.length_drop,List.length_take];rfl)) ?_;(with_reducible refine (r05_With.calls kj10 _ _ fJ ((a0J t242 aA).f3) t248 _ ?side1 ?side2 A19.out).mono ?_);(case side1 =>repeat (first | exact (Kd.a1Y aE.out).2.2 | (with_reducible refine Kd.a0R ?_ _) | (with_reducible refine Kd.a0Q ?_ _) | (with_reducible refine Kd.a1B ?_)));(case side2 =>exact (Kd.a1Y aE.out).2.1);rintro e w21 ⟨v249,rfl,ho0,hb⟩;refine ⟨_,rfl,?_⟩;have bD:=a0A.mk (Kd.a4K (by (with_reducible repeat (first | apply Kd.a1N | apply Kd.a1M | apply Kd.a1S));exact aE.out) (Kd.a1X ho0) hb);have bE:=a0A.mk (Kd.a5E (by (with_reducible repeat (first | apply Kd.a2A | apply Kd.a1Z | apply Kd.a2I));exact aD.out) (Kd.a1X ho0) hb);have bT:=a0A.mk (Kd.a1I (by (with_reducible repeat (first | apply Kd.a1G | apply Kd.a1F | apply Kd.a1J));exact qN.out) (Kd.a1X ho0) hb);have cI:=a0A.mk (Kd.a1I (by (with_reducible repeat (first | apply Kd.a1G | apply Kd.a1F | apply Kd.a1J));exact qO.out) (Kd.a1X ho0) hb);have gK:=a0A.mk (Kd.a1I (by (with_reducible repeat (first | apply Kd.a1G | apply Kd.a1F | apply Kd.a1J));exact qP.out) (Kd.a1X ho0) hb);have gL:=a0A.mk (Kd.a1I (by (with_reducible repeat (first | apply Kd.a1G | apply Kd.a1F | apply Kd.a1J));exact qQ.out) (Kd.a1X ho0) hb);have gM:=a0A.mk (Kd.a2Y (Kd.a6U ho0 (Kd.R_lt (by (with_reducible repeat (first | apply Kd.a1N | apply Kd.a1M | apply Kd.a1S));exact aE.out))) (a0V (by repeat (first | (with_reducible first | exact HB.out | apply a0D | apply a0B | apply a0E | refine a0I ?_ bR.out) | exact HB.out))));have jR:=a0A.mk (a0U (g:=cC) (o:=.cells #[.slice (some ad241) aI.length cY] 24 (0,0)) (by (with_reducible repeat (first | refine a0L ?_ _ | refine a0M ?_ | refine a0K ?_ _));exact aX.out) hb);have jS:=a0A.mk (Kd.a0N (by repeat (first | (with_reducible exact lU.out) | (with_reducible refine Kd.a0R ?_ _) | (with_reducible refine Kd.a0Q ?_ _) | (with_reducible refine Kd.a1B ?_) | exact lU.out)) hb);have jT:=a0A.mk (Kd.a0N (by repeat (first | (with_reducible exact lV.out) | (with_reducible refine Kd.a0R ?_ _) | (with_reducible refine Kd.a0Q ?_ _) | (with_reducible refine Kd.a1B ?_) | exact lV.out)) hb);have cE:=a0A.mk (Kd.a0N (by repeat (first | (with_reducible exact lW.out) | (with_reducible refine Kd.a0R ?_ _) | (with_reducible refine Kd.a0Q ?_ _) | (with_reducible refine Kd.a1B ?_) | exact lW.out)) hb);have cF:=a0A.mk (Kd.a0N (by repeat (first | (with_reducible exact lX.out) | (with_reducible refine Kd.a0R ?_ _) | (with_reducible refine Kd.a0Q ?_ _) | (with_reducible refine Kd.a1B ?_) | exact lX.out)) hb);have cZ:=a0A.mk (a0H (by repeat (first | (with_reducible first | exact HB.out | apply a0D | apply a0B | apply a0E | refine a0I ?_ bR.out) | exact HB.out)) hb);clear aE;clear aD;clear qN;clear qO;clear qP;clear qQ;clear aX;clear lU;clear lV;clear lW;clear lX;clear HB;have aE:=bD;have aD:=bE;have qN:=bT;have qO:=cI;have qP:=gK;have qQ:=gL;have HO250:=gM;have aX:=jR;have lU:=jS;have lV:=jT;have lW:=cE;have lX:=cF;have HB:=cZ;clear bD bE bT cI gK gL gM jR jS jT cE cF cZ;(try clear hb);(try clear hb2);(try clear hk);(try clear hi);(try clear ho0)))
              go_meet
              case rel =>exact ⟨_,(t248),H',⟨by have:=HK1.out;have:=HK2.out;have:=HJ10.out;first | omega | exact Nat.le_refl _⟩,⟨by (with_reducible repeat (first | apply Kd.a1N | apply Kd.a1M | apply Kd.a1S));exact Kd.a5P HO250.out (fun _ hk =>trivial)⟩,⟨by (with_reducible repeat (first | apply Kd.a2A | apply Kd.a1Z | apply Kd.a2I));exact Kd.a3P aD.out (fun _ hk =>⟨hk.2,hk.1.2⟩)⟩,⟨by (with_reducible repeat (first | refine a0L ?_ _ | refine a0M ?_ | refine a0K ?_ _));exact aX.out⟩,⟨by repeat (first | (with_reducible first | exact HB.out | apply a0D | apply a0B | apply a0E | refine a0I ?_ bR.out) | exact HB.out)⟩⟩
             ·rw [if_neg c18] at H
              exact absurd H (by simp)
            ·rw [if_neg c17] at H
             exact absurd H (by simp)
           ·replace c16:=Bool.eq_false_iff.mpr c16
            subst c16
            have H1:(r05_Props.j3 kj10 fJ aC t242 aA aI) = some r:=by rw [if_neg (show ¬ (false = true) by decide)] at H;exact H
            clear H
            have H:=H1
            clear H1
            have H':=a0A.mk H
            clear H
            go_wp2
            go_meet
            case rel =>exact ⟨_,(fJ),H',⟨by have:=HK1.out;have:=HK2.out;have:=HJ10.out;first | omega | exact Nat.le_refl _⟩,⟨by (with_reducible repeat (first | apply Kd.a1N | apply Kd.a1M | apply Kd.a1S));exact aE.out⟩,⟨by (with_reducible repeat (first | apply Kd.a2A | apply Kd.a1Z | apply Kd.a2I));exact aD.out⟩,⟨by (with_reducible repeat (first | refine a0L ?_ _ | refine a0M ?_ | refine a0K ?_ _));exact aX.out⟩,⟨by repeat (first | (with_reducible first | exact HB.out | apply a0D | apply a0B | apply a0E | refine a0I ?_ bR.out) | exact HB.out)⟩⟩
          case rest =>
           clear HC15
           try clear c1
           try clear c2
           try clear p2
           try clear q2
           try clear hx2
           try clear c5
           try clear c5b0
           try clear c6
           try clear c6b0
           try clear c10
           try clear c10b0
           try clear c13
           try clear c13b0
           try clear c14
           try clear c14b0
           try clear c14b1
           try clear c16
           try clear c17
           try clear c17b0
           try clear c18
           try clear c18b0
           try clear c19
           try clear fG
           try clear fH
           try clear fS
           try clear fT
           try clear fU
           try clear lI
           try clear lJ
           try clear lK
           try clear lL
           try clear eM
           try clear eN
           try clear eO
           try clear eP
           try clear pP
           try clear pQ
           try clear pR
           try clear pS
           try clear jB
           try clear jC
           try clear jD
           try clear jE
           try clear aC7
           try clear aC8
           try clear aC9
           try clear aD0
           try clear qB
           try clear qC
           try clear qD
           try clear qE
           try clear p2
           try clear p241
           try clear p245
           try clear p246
           try clear p247
           try clear q2
           try clear q241
           try clear q245
           try clear q246
           try clear q247
           obtain ⟨kq,aC6,HA,HJ14,aE,aD,aX,HB⟩:=hcut
           cases kq with
           | zero =>exact absurd HA.out (by simp [r05_Props.j3])
           | succ kj14 =>
            have H:=HA.out
            clear HA
            simp only [r05_Props.j3] at H
            have H':=a0A.mk H
            clear H
            go_wp2
            go_loopg [3,7] kj14 (fun kq v3 v7 w' =>∃ (aF1:List ByteArray) (gA:Int),v7 = .int .i64 gA∧a0A (r05_Props.l2 kq aF1 aC t242 aA gA aI = some r)∧a0A (kq≤kj14)∧a0A (Kd.R Kd.string 9 w' w.heap.size (fun _ =>True) v3 aF1)∧a0A (Kd.N k46 46 w' w.heap.size (fun k_ =>some k_≠(v3:Value).ownBlock∧k_≠cC) (.slice Ao12 t242.length co12) t242)∧a0A (w'.heap[cC]? = some (.cells #[(.slice (some ad241) aI.length cY)] 24 (0,0)))∧a0A (Below w.heap.size w w'))
            case atStart =>exact ⟨(aC6),(0),(by first | rfl | (simp;done) | (simp [*];done)),H',⟨Nat.le_refl _⟩,⟨by (with_reducible repeat (first | apply Kd.a1N | apply Kd.a1M | apply Kd.a1S));exact aE.out⟩,⟨by (with_reducible repeat (first | apply Kd.a2A | apply Kd.a1Z | apply Kd.a2I));exact aD.out⟩,⟨by (with_reducible repeat (first | refine a0L ?_ _ | refine a0M ?_ | refine a0K ?_ _));exact aX.out⟩,⟨by repeat (first | (with_reducible first | exact HB.out | apply a0D | apply a0B | apply a0E | refine a0I ?_ bR.out) | exact HB.out)⟩⟩
            case round =>
             clear H'
             try clear c1
             try clear c2
             try clear p2
             try clear q2
             try clear hx2
             try clear c5
             try clear c5b0
             try clear c6
             try clear c6b0
             try clear c10
             try clear c10b0
             try clear c13
             try clear c13b0
             try clear c14
             try clear c14b0
             try clear c14b1
             try clear c16
             try clear c17
             try clear c17b0
             try clear c18
             try clear c18b0
             try clear c19
             try clear fG
             try clear fH
             try clear fS
             try clear fT
             try clear fU
             try clear lI
             try clear lJ
             try clear lK
             try clear lL
             try clear eM
             try clear eN
             try clear eO
             try clear eP
             try clear pP
             try clear pQ
             try clear pR
             try clear pS
             try clear jB
             try clear jC
             try clear jD
             try clear jE
             try clear aC7
             try clear aC8
             try clear aC9
             try clear aD0
             try clear qB
             try clear qC
             try clear qD
             try clear qE
             try clear p2
             try clear p241
             try clear p245
             try clear p246
             try clear p247
             try clear q2
             try clear q241
             try clear q245
             try clear q246
             try clear q247
             obtain ⟨aF1,gA,rfl,HA,HK5,aE,aD,aX,HB⟩:=hrel
             cases gk with
             | zero =>exact absurd HA.out (by simp [r05_Props.l2])
             | succ k5 =>
              have H:=HA.out
              clear HA
              simp only [r05_Props.l2] at H
              by_cases c22:0≤aA
              ·rw [if_pos c22] at H
               have c22b0:decide (0≤aA) = true:=decide_eq_true c22
               clear c22
               by_cases c23:aA < (t242.length:Int)
               ·rw [if_pos c23] at H
                have c23b0:decide (aA < (t242.length:Int)) = true:=decide_eq_true c23
                clear c23
                by_cases c24:gA < (((a0J t242 aA).f5).length:Int)
                ·rw [if_pos c24] at H
                 have c24b0:decide (gA < (((a0J t242 aA).f5).length:Int)) = true:=decide_eq_true c24
                 clear c24
                 by_cases c25:0≤gA
                 ·rw [if_pos c25] at H
                  have c25b0:decide (0≤gA) = true:=decide_eq_true c25
                  clear c25
                  replace H:=Option.bind_eq_some_iff.mp H
                  obtain ⟨t254,A260,H⟩:=H
                  replace H:(r05_Props.l2 k5 t254 aC t242 aA (wrap64 (gA + 1)) aI) = some r:=H
                  have A26:=a0A.mk A260
                  clear A260
                  have H':=a0A.mk H
                  clear H
                  have p251:0≤(aA:Int):=of_decide_eq_true (by first | (with_reducible assumption) | assumption)
                  have q251:aA < (t242.length:Int):=of_decide_eq_true (by first | (with_reducible assumption) | assumption)
                  obtain ⟨ad251,aT8,aT9,aU0,aU1,aU2,aU3,aU4,aU5,e251,aM6,aM7,aM8,aM9,lY,lZ,mA,mB,jF,jG,jH,jI,jJ,jK,jL,jM⟩:=a3C (Kd.a1V aD.out).2.2 aA p251 q251
                  cases e251
                  obtain ⟨ce251,rK,rL,dC⟩:=Kd.a6I aD.out z46 aA p251 (by first | exact q251 | exact of_decide_eq_true (by first | (with_reducible assumption) | assumption) | (have e_:=(Kd.a1V aD.out).1;omega))
                  obtain ⟨aN0,aN1,aN2,aN3,aN4,aN5,aN6,aN7,rfl,eY,eZ,fA,fB,fC,fD,fE,fF⟩:=a2H rL
                  have cU:=dC 4 _ rfl
                  rw [a0W _ _ 4 (by omega)] at cU
                  replace cU:=Option.some.inj (cU.symm.trans lY)
                  injection cU with hva_ hvn_ hvc_
                  rw [hva_] at eZ
                  rw [hvc_] at eY
                  have mC:=a0A.mk (show Kd.V k56 56 _ w.heap.size _ _ ((a0J t242 aA).f4) from Kd.V_mk eY eZ)
                  clear hva_ hvn_ hvc_ eZ eY
                  have cV:=dC 5 _ rfl
                  rw [a0W _ _ 5 (by omega)] at cV
                  replace cV:=Option.some.inj (cV.symm.trans lZ)
                  injection cV with hva_ hvn_ hvc_
                  rw [hva_] at fB
                  rw [hvc_] at fA
                  have mD:=a0A.mk (show Kd.V Kd.string 9 _ w.heap.size _ _ ((a0J t242 aA).f5) from Kd.V_mk fA fB)
                  clear hva_ hvn_ hvc_ fB fA
                  have cW:=dC 6 _ rfl
                  rw [a0W _ _ 6 (by omega)] at cW
                  replace cW:=Option.some.inj (cW.symm.trans mA)
                  injection cW with hva_ hvn_ hvc_
                  rw [hva_] at fD
                  rw [hvc_] at fC
                  have mE:=a0A.mk (show Kd.V k46 46 _ w.heap.size _ _ ((a0J t242 aA).f6) from Kd.V_mk fC fD)
                  clear hva_ hvn_ hvc_ fD fC
                  have cX:=dC 7 _ rfl
                  rw [a0W _ _ 7 (by omega)] at cX
                  replace cX:=Option.some.inj (cX.symm.trans mB)
                  injection cX with hva_ hvn_ hvc_
                  rw [hva_] at fF
                  rw [hvc_] at fE
                  have mF:=a0A.mk (show Kd.V k46 46 _ w.heap.size _ _ ((a0J t242 aA).f7) from Kd.V_mk fE fF)
                  clear hva_ hvn_ hvc_ fF fE
                  clear dC rK
                  have jN:=a0A.mk jG
                  have aN8:=a0A.mk jF
                  clear jG jF
                  have jO:=a0A.mk jI
                  have aN9:=a0A.mk jH
                  clear jI jH
                  have jP:=a0A.mk jK
                  have aO0:=a0A.mk jJ
                  clear jK jJ
                  have jQ:=a0A.mk jM
                  have aO1:=a0A.mk jL
                  clear jM jL
                  replace p251:=eq_true p251
                  replace q251:=eq_true q251
                  have p252:0≤(aA:Int):=of_decide_eq_true (by first | (with_reducible assumption) | assumption)
                  have q252:aA < (t242.length:Int):=of_decide_eq_true (by first | (with_reducible assumption) | assumption)
                  obtain ⟨ad252,bQ5,bQ6,bQ7,bQ8,bQ9,bR0,bR1,bR2,e252,bJ6,bJ7,bJ8,bJ9,aD9,aE0,aE1,aE2,aE3,aE4,aE5,aE6,aE7,aE8,aE9,aF0⟩:=a3C (Kd.a1V aD.out).2.2 aA p252 q252
                  obtain rfl:ad251 = ad252:=(by injection e252)
                  obtain ⟨ce252,aU6,aU7,mX⟩:=Kd.a6I aD.out z46 aA p252 (by first | exact q252 | exact of_decide_eq_true (by first | (with_reducible assumption) | assumption) | (have e_:=(Kd.a1V aD.out).1;omega))
                  obtain ⟨bK0,bK1,bK2,bK3,bK4,bK5,bK6,bK7,rfl,qR,qS,qT,qU,qV,qW,qX,qY⟩:=a2H aU7
                  have mG:=mX 4 _ rfl
                  rw [a0W _ _ 4 (by omega)] at mG
                  replace mG:=Option.some.inj (mG.symm.trans aD9)
                  injection mG with hva_ hvn_ hvc_
                  rw [hva_] at qS
                  rw [hvc_] at qR
                  have qZ:=a0A.mk (show Kd.V k56 56 _ w.heap.size _ _ ((a0J t242 aA).f4) from Kd.V_mk qR qS)
                  clear hva_ hvn_ hvc_ qS qR
                  have mH:=mX 5 _ rfl
                  rw [a0W _ _ 5 (by omega)] at mH
                  replace mH:=Option.some.inj (mH.symm.trans aE0)
                  injection mH with hva_ hvn_ hvc_
                  rw [hva_] at qU
                  rw [hvc_] at qT
                  have rA:=a0A.mk (show Kd.V Kd.string 9 _ w.heap.size _ _ ((a0J t242 aA).f5) from Kd.V_mk qT qU)
                  clear hva_ hvn_ hvc_ qU qT
                  have mI:=mX 6 _ rfl
                  rw [a0W _ _ 6 (by omega)] at mI
                  replace mI:=Option.some.inj (mI.symm.trans aE1)
                  injection mI with hva_ hvn_ hvc_
                  rw [hva_] at qW
                  rw [hvc_] at qV
                  have rB:=a0A.mk (show Kd.V k46 46 _ w.heap.size _ _ ((a0J t242 aA).f6) from Kd.V_mk qV qW)
                  clear hva_ hvn_ hvc_ qW qV
                  have mJ:=mX 7 _ rfl
                  rw [a0W _ _ 7 (by omega)] at mJ
                  replace mJ:=Option.some.inj (mJ.symm.trans aE2)
                  injection mJ with hva_ hvn_ hvc_
                  rw [hva_] at qY
                  rw [hvc_] at qX
                  have rC:=a0A.mk (show Kd.V k46 46 _ w.heap.size _ _ ((a0J t242 aA).f7) from Kd.V_mk qX qY)
                  clear hva_ hvn_ hvc_ qY qX
                  clear mX aU6
                  have mK:=a0A.mk aE4
                  have bK8:=a0A.mk aE3
                  clear aE4 aE3
                  have fV:=a0A.mk aE6
                  have bK9:=a0A.mk aE5
                  clear aE6 aE5
                  have mL:=a0A.mk aE8
                  have bL0:=a0A.mk aE7
                  clear aE8 aE7
                  have mM:=a0A.mk aF0
                  have bL1:=a0A.mk aE9
                  clear aF0 aE9
                  replace p252:=eq_true p252
                  replace q252:=eq_true q252
                  have ea_:=Option.some.inj (lY.symm.trans aD9)
                  injection ea_ with ea_ en_ ec_
                  subst ea_
                  subst ec_
                  clear en_
                  have ea_:=Option.some.inj (lZ.symm.trans aE0)
                  injection ea_ with ea_ en_ ec_
                  subst ea_
                  subst ec_
                  clear en_
                  have ea_:=Option.some.inj (mA.symm.trans aE1)
                  injection ea_ with ea_ en_ ec_
                  subst ea_
                  subst ec_
                  clear en_
                  have ea_:=Option.some.inj (mB.symm.trans aE2)
                  injection ea_ with ea_ en_ ec_
                  subst ea_
                  subst ec_
                  clear en_
                  have p253:0≤(gA:Int):=of_decide_eq_true (by first | (with_reducible assumption) | assumption)
                  have q253:gA < (((a0J t242 aA).f5).length:Int):=of_decide_eq_true (by first | (with_reducible assumption) | assumption)
                  obtain ⟨ad253,e253,bL2⟩:=Kd.a2D (by repeat (first | (with_reducible exact fV.out) | (with_reducible refine Kd.a0R ?_ _) | (with_reducible refine Kd.a0Q ?_ _) | (with_reducible refine Kd.a1B ?_) | exact fV.out)) gA p253 q253
                  cases e253
                  replace p253:=eq_true p253
                  replace q253:=eq_true q253
                  obtain ⟨Ao27,co27,eo27⟩:=Kd.a3O aE.out
                  subst eo27
                  go_wp2_with (first | ((with_reducible refine a1H (f:=19) rfl ?_);refine a2G (some 69) rfl rfl Try.func19 (by kernel_rfl) rfl #[.slice Ao27 aF1.length co27,.string (rdOf ByteArray.empty ((a0J t242 aA).f5) gA)] rfl (by (try simp only [List.map_toArray,List.map_cons,List.map_nil]);first | done | rfl | (simp only [List.length_drop,List.length_take];rfl)) ?_;(with_reducible refine (r05_With.calls k5 _ _ aF1 (rdOf ByteArray.empty ((a0J t242 aA).f5) gA) t254 _ ?side1 ?side2 A26.out).mono ?_);(case side1 =>repeat (first | exact (Kd.a1Y aE.out).2.2 | (with_reducible refine Kd.a0R ?_ _) | (with_reducible refine Kd.a0Q ?_ _) | (with_reducible refine Kd.a1B ?_)));(case side2 =>exact (Kd.a1Y aE.out).2.1);rintro e w28 ⟨v255,rfl,ho0,hb⟩;refine ⟨_,rfl,?_⟩;have bD:=a0A.mk (Kd.a4K (by (with_reducible repeat (first | apply Kd.a1N | apply Kd.a1M | apply Kd.a1S));exact aE.out) (Kd.a1X ho0) hb);have bE:=a0A.mk (Kd.a5E (by (with_reducible repeat (first | apply Kd.a2A | apply Kd.a1Z | apply Kd.a2I));exact aD.out) (Kd.a1X ho0) hb);have bT:=a0A.mk (Kd.a1I (by (with_reducible repeat (first | apply Kd.a1G | apply Kd.a1F | apply Kd.a1J));exact mC.out) (Kd.a1X ho0) hb);have cI:=a0A.mk (Kd.a1I (by (with_reducible repeat (first | apply Kd.a1G | apply Kd.a1F | apply Kd.a1J));exact mD.out) (Kd.a1X ho0) hb);have gK:=a0A.mk (Kd.a1I (by (with_reducible repeat (first | apply Kd.a1G | apply Kd.a1F | apply Kd.a1J));exact mE.out) (Kd.a1X ho0) hb);have gL:=a0A.mk (Kd.a1I (by (with_reducible repeat (first | apply Kd.a1G | apply Kd.a1F | apply Kd.a1J));exact mF.out) (Kd.a1X ho0) hb);have gM:=a0A.mk (Kd.a1I (by (with_reducible repeat (first | apply Kd.a1G | apply Kd.a1F | apply Kd.a1J));exact qZ.out) (Kd.a1X ho0) hb);have jR:=a0A.mk (Kd.a1I (by (with_reducible repeat (first | apply Kd.a1G | apply Kd.a1F | apply Kd.a1J));exact rA.out) (Kd.a1X ho0) hb);have jS:=a0A.mk (Kd.a1I (by (with_reducible repeat (first | apply Kd.a1G | apply Kd.a1F | apply Kd.a1J));exact rB.out) (Kd.a1X ho0) hb);have jT:=a0A.mk (Kd.a1I (by (with_reducible repeat (first | apply Kd.a1G | apply Kd.a1F | apply Kd.a1J));exact rC.out) (Kd.a1X ho0) hb);have cE:=a0A.mk (Kd.a2Y (Kd.a6U ho0 (Kd.R_lt (by (with_reducible repeat (first | apply Kd.a1N | apply Kd.a1M | apply Kd.a1S));exact aE.out))) (a0V (by repeat (first | (with_reducible first | exact HB.out | apply a0D | apply a0B | apply a0E | refine a0I ?_ bR.out) | exact HB.out))));have cF:=a0A.mk (a0U (g:=cC) (o:=.cells #[.slice (some ad241) aI.length cY] 24 (0,0)) (by (with_reducible repeat (first | refine a0L ?_ _ | refine a0M ?_ | refine a0K ?_ _));exact aX.out) hb);have cZ:=a0A.mk (Kd.a0N (by repeat (first | (with_reducible exact jN.out) | (with_reducible refine Kd.a0R ?_ _) | (with_reducible refine Kd.a0Q ?_ _) | (with_reducible refine Kd.a1B ?_) | exact jN.out)) hb);have dR:=a0A.mk (Kd.a0N (by repeat (first | (with_reducible exact jO.out) | (with_reducible refine Kd.a0R ?_ _) | (with_reducible refine Kd.a0Q ?_ _) | (with_reducible refine Kd.a1B ?_) | exact jO.out)) hb);have dS:=a0A.mk (Kd.a0N (by repeat (first | (with_reducible exact jP.out) | (with_reducible refine Kd.a0R ?_ _) | (with_reducible refine Kd.a0Q ?_ _) | (with_reducible refine Kd.a1B ?_) | exact jP.out)) hb);have dT:=a0A.mk (Kd.a0N (by repeat (first | (with_reducible exact jQ.out) | (with_reducible refine Kd.a0R ?_ _) | (with_reducible refine Kd.a0Q ?_ _) | (with_reducible refine Kd.a1B ?_) | exact jQ.out)) hb);have fI:=a0A.mk (Kd.a0N (by repeat (first | (with_reducible exact mK.out) | (with_reducible refine Kd.a0R ?_ _) | (with_reducible refine Kd.a0Q ?_ _) | (with_reducible refine Kd.a1B ?_) | exact mK.out)) hb);have gN:=a0A.mk (Kd.a0N (by repeat (first | (with_reducible exact fV.out) | (with_reducible refine Kd.a0R ?_ _) | (with_reducible refine Kd.a0Q ?_ _) | (with_reducible refine Kd.a1B ?_) | exact fV.out)) hb);have gO:=a0A.mk (Kd.a0N (by repeat (first | (with_reducible exact mL.out) | (with_reducible refine Kd.a0R ?_ _) | (with_reducible refine Kd.a0Q ?_ _) | (with_reducible refine Kd.a1B ?_) | exact mL.out)) hb);have gP:=a0A.mk (Kd.a0N (by repeat (first | (with_reducible exact mM.out) | (with_reducible refine Kd.a0R ?_ _) | (with_reducible refine Kd.a0Q ?_ _) | (with_reducible refine Kd.a1B ?_) | exact mM.out)) hb);have gQ:=a0A.mk (a0H (by repeat (first | (with_reducible first | exact HB.out | apply a0D | apply a0B | apply a0E | refine a0I ?_ bR.out) | exact HB.out)) hb);clear aE;clear aD;clear mC;clear mD;clear mE;clear mF;clear qZ;clear rA;clear rB;clear rC;clear aX;clear jN;clear jO;clear jP;clear jQ;clear mK;clear fV;clear mL;clear mM;clear HB;have aE:=bD;have aD:=bE;have mC:=bT;have mD:=cI;have mE:=gK;have mF:=gL;have qZ:=gM;have rA:=jR;have rB:=jS;have rC:=jT;have HO256:=cE;have aX:=cF;have jN:=cZ;have jO:=dR;have jP:=dS;have jQ:=dT;have mK:=fI;have fV:=gN;have mL:=gO;have mM:=gP;have HB:=gQ;clear bD bE bT cI gK gL gM jR jS jT cE cF cZ dR dS dT fI gN gO gP gQ;(try clear hb);(try clear hb2);(try clear hk);(try clear hi);(try clear ho0)))
                  go_roundg k5
                  case measure =>have:=HK1.out;have:=HK2.out;have:=HJ10.out;have:=HJ14.out;have:=HK5.out;omega
                  case rel =>exact ⟨(t254),(wrap64 (gA + 1)),(by first | rfl | (simp;done) | (simp [*];done)),H',⟨by have:=HK1.out;have:=HK2.out;have:=HJ10.out;have:=HJ14.out;have:=HK5.out;omega⟩,⟨by (with_reducible repeat (first | apply Kd.a1N | apply Kd.a1M | apply Kd.a1S));exact Kd.a5P HO256.out (fun _ hk =>trivial)⟩,⟨by (with_reducible repeat (first | apply Kd.a2A | apply Kd.a1Z | apply Kd.a2I));exact Kd.a3P aD.out (fun _ hk =>⟨hk.2,hk.1.2⟩)⟩,⟨by (with_reducible repeat (first | refine a0L ?_ _ | refine a0M ?_ | refine a0K ?_ _));exact aX.out⟩,⟨by repeat (first | (with_reducible first | exact HB.out | apply a0D | apply a0B | apply a0E | refine a0I ?_ bR.out) | exact HB.out)⟩⟩
                 ·rw [if_neg c25] at H
                  exact absurd H (by simp)
                ·rw [if_neg c24] at H
                 have c24b0:decide (gA < (((a0J t242 aA).f5).length:Int)) = false:=decide_eq_false c24
                 clear c24
                 have H':=a0A.mk H
                 clear H
                 have p251:0≤(aA:Int):=of_decide_eq_true (by first | (with_reducible assumption) | assumption)
                 have q251:aA < (t242.length:Int):=of_decide_eq_true (by first | (with_reducible assumption) | assumption)
                 obtain ⟨ad251,aT8,aT9,aU0,aU1,aU2,aU3,aU4,aU5,e251,aM6,aM7,aM8,aM9,lY,lZ,mA,mB,jF,jG,jH,jI,jJ,jK,jL,jM⟩:=a3C (Kd.a1V aD.out).2.2 aA p251 q251
                 cases e251
                 obtain ⟨ce251,rK,rL,dC⟩:=Kd.a6I aD.out z46 aA p251 (by first | exact q251 | exact of_decide_eq_true (by first | (with_reducible assumption) | assumption) | (have e_:=(Kd.a1V aD.out).1;omega))
                 obtain ⟨aN0,aN1,aN2,aN3,aN4,aN5,aN6,aN7,rfl,eY,eZ,fA,fB,fC,fD,fE,fF⟩:=a2H rL
                 have cU:=dC 4 _ rfl
                 rw [a0W _ _ 4 (by omega)] at cU
                 replace cU:=Option.some.inj (cU.symm.trans lY)
                 injection cU with hva_ hvn_ hvc_
                 rw [hva_] at eZ
                 rw [hvc_] at eY
                 have mC:=a0A.mk (show Kd.V k56 56 _ w.heap.size _ _ ((a0J t242 aA).f4) from Kd.V_mk eY eZ)
                 clear hva_ hvn_ hvc_ eZ eY
                 have cV:=dC 5 _ rfl
                 rw [a0W _ _ 5 (by omega)] at cV
                 replace cV:=Option.some.inj (cV.symm.trans lZ)
                 injection cV with hva_ hvn_ hvc_
                 rw [hva_] at fB
                 rw [hvc_] at fA
                 have mD:=a0A.mk (show Kd.V Kd.string 9 _ w.heap.size _ _ ((a0J t242 aA).f5) from Kd.V_mk fA fB)
                 clear hva_ hvn_ hvc_ fB fA
                 have cW:=dC 6 _ rfl
                 rw [a0W _ _ 6 (by omega)] at cW
                 replace cW:=Option.some.inj (cW.symm.trans mA)
                 injection cW with hva_ hvn_ hvc_
                 rw [hva_] at fD
                 rw [hvc_] at fC
                 have mE:=a0A.mk (show Kd.V k46 46 _ w.heap.size _ _ ((a0J t242 aA).f6) from Kd.V_mk fC fD)
                 clear hva_ hvn_ hvc_ fD fC
                 have cX:=dC 7 _ rfl
                 rw [a0W _ _ 7 (by omega)] at cX
                 replace cX:=Option.some.inj (cX.symm.trans mB)
                 injection cX with hva_ hvn_ hvc_
                 rw [hva_] at fF
                 rw [hvc_] at fE
                 have mF:=a0A.mk (show Kd.V k46 46 _ w.heap.size _ _ ((a0J t242 aA).f7) from Kd.V_mk fE fF)
                 clear hva_ hvn_ hvc_ fF fE
                 clear dC rK
                 have jN:=a0A.mk jG
                 have aN8:=a0A.mk jF
                 clear jG jF
                 have jO:=a0A.mk jI
                 have aN9:=a0A.mk jH
                 clear jI jH
                 have jP:=a0A.mk jK
                 have aO0:=a0A.mk jJ
                 clear jK jJ
                 have jQ:=a0A.mk jM
                 have aO1:=a0A.mk jL
                 clear jM jL
                 replace p251:=eq_true p251
                 replace q251:=eq_true q251
                 go_wp2
                 go_roundg k5
                 case measure =>have:=HK1.out;have:=HK2.out;have:=HJ10.out;have:=HJ14.out;have:=HK5.out;omega
                 case rel =>exact ⟨(aF1),(wrap64 (aA + 1)),(by first | rfl | (simp;done) | (simp [*];done)),H',⟨by have:=HK1.out;have:=HK2.out;have:=HJ10.out;have:=HJ14.out;have:=HK5.out;omega⟩,⟨by (with_reducible repeat (first | apply Kd.a1N | apply Kd.a1M | apply Kd.a1S));exact aE.out⟩,⟨by (with_reducible repeat (first | apply Kd.a2A | apply Kd.a1Z | apply Kd.a2I));exact aD.out⟩,⟨by (with_reducible repeat (first | refine a0L ?_ _ | refine a0M ?_ | refine a0K ?_ _));exact aX.out⟩,⟨by repeat (first | (with_reducible first | exact HB.out | apply a0D | apply a0B | apply a0E | refine a0I ?_ bR.out) | exact HB.out)⟩⟩
               ·rw [if_neg c23] at H
                exact absurd H (by simp)
              ·rw [if_neg c22] at H
               exact absurd H (by simp)
       ·rw [if_neg c10] at H
        have c10b0:decide (aA < (t242.length:Int)) = false:=decide_eq_false c10
        clear c10
        have H':=a0A.mk H
        clear H
        obtain ⟨Ao29,co29,eo29⟩:=Kd.a5B aD.out
        subst eo29
        go_wp2
        go_roundg k2
        case measure =>have:=HK1.out;have:=HK2.out;omega
        case rel =>exact ⟨(fJ),(wrap64 (aC + 1)),(by first | rfl | (simp;done) | (simp [*];done)),H',⟨by have:=HK1.out;have:=HK2.out;omega⟩,⟨by (with_reducible repeat (first | apply Kd.a1N | apply Kd.a1M | apply Kd.a1S));exact aE.out⟩,⟨by (with_reducible repeat (first | refine a0L ?_ _ | refine a0M ?_ | refine a0K ?_ _));exact aX.out⟩,⟨by repeat (first | (with_reducible first | exact HB.out | apply a0D | apply a0B | apply a0E | refine a0I ?_ bR.out) | exact HB.out)⟩⟩
    ·rw [if_neg c6] at H
     exact absurd H (by simp)
   ·rw [if_neg c5] at H
    have c5b0:decide (aC < (aI.length:Int)) = false:=decide_eq_false c5
    clear c5
    obtain rfl:=Option.some.inj H
    have bL3:wr.cell? ⟨cC,0,none⟩ = some (.slice fY aI.length cY):=(a0G aX.out 0).trans rfl
    have bL4:=a0F aX.out 0
    go_wp2
    go_ret
    exact ⟨_,by first | rfl | (simp [a0T,a0S] <;> rfl) | (simp [*,a0T,a0S] <;> rfl),by (with_reducible repeat (first | apply Kd.a1N | apply Kd.a1M | apply Kd.a1S));exact aE.out,by repeat (first | (with_reducible first | exact HB.out | apply a0D | apply a0B | apply a0E | refine a0I ?_ bR.out) | exact HB.out)⟩
mutual
def r05_Twice.l0:Nat→List ByteArray→Int→Option (Bool)
 | 0,_,_ =>none
 | k + 1,x0,x3 =>if x3 < (x0.length:Int) then (r05_Twice.l1 k x0 x3 0) else (some false)
def r05_Twice.l1:Nat→List ByteArray→Int→Int→Option (Bool)
 | 0,_,_,_ =>none
 | k + 1,x0,x3,x4 =>if x4 < x3 then (if 0≤x3 then (if x3 < (x0.length:Int) then (if 0≤x4 then (if x4 < (x0.length:Int) then (if (rdOf ByteArray.empty x0 x3).toList = (rdOf ByteArray.empty x0 x4).toList then (some true) else (r05_Twice.l1 k x0 x3 (wrap64 (x4 + 1)))) else (none)) else (none)) else (none)) else (none)) else (r05_Twice.l0 k x0 (wrap64 (x3 + 1)))
end
def r05_Twice.f (k:Nat) (l0:List ByteArray):Option (Bool):=r05_Twice.l0 k l0 0
theorem r05_Twice.a3E:∀ k,(∀ y0 y1,LeO (r05_Twice.l0 k y0 y1) (r05_Twice.l0 (k + 1) y0 y1))∧(∀ y0 y1 y2,LeO (r05_Twice.l1 k y0 y1 y2) (r05_Twice.l1 (k + 1) y0 y1 y2))
 | 0 =>⟨fun _ _ r h =>by simp [r05_Twice.l0] at h,fun _ _ _ r h =>by simp [r05_Twice.l1] at h⟩
 | k + 1 =>by
  obtain ⟨ih0,ih1⟩:=r05_Twice.a3E k
  refine ⟨?_,?_⟩
  ·intro y0 y1
   unfold r05_Twice.l0
   repeat' first
   | (with_reducible exact ih0 _ _)
   | (with_reducible exact ih1 _ _ _)
   | (with_reducible exact LeO.refl _)
   | (with_reducible exact LeO.none _)
   | (with_reducible refine LeO.ite ?_ ?_)
   | (with_reducible refine LeO.bind ?_ (fun _ =>?_))
   | exact ih0 _ _
   | exact ih1 _ _ _
   | exact LeO.none _
   | refine LeO.ite ?_ ?_
   | refine LeO.bind ?_ (fun _ =>?_)
  ·intro y0 y1 y2
   unfold r05_Twice.l1
   repeat' first
   | (with_reducible exact ih0 _ _)
   | (with_reducible exact ih1 _ _ _)
   | (with_reducible exact LeO.refl _)
   | (with_reducible exact LeO.none _)
   | (with_reducible refine LeO.ite ?_ ?_)
   | (with_reducible refine LeO.bind ?_ (fun _ =>?_))
   | exact ih0 _ _
   | exact ih1 _ _ _
   | exact LeO.none _
   | refine LeO.ite ?_ ?_
   | refine LeO.bind ?_ (fun _ =>?_)
theorem r05_Twice.mono:∀ a0 k,LeO (r05_Twice.f k a0) (r05_Twice.f (k + 1) a0):=by
 intro a0 k
 obtain ⟨ih0,ih1⟩:=r05_Twice.a3E k
 unfold r05_Twice.f
 repeat' first
   | (with_reducible exact ih0 _ _)
   | (with_reducible exact ih1 _ _ _)
   | (with_reducible exact LeO.refl _)
   | (with_reducible exact LeO.none _)
   | (with_reducible refine LeO.ite ?_ ?_)
   | (with_reducible refine LeO.bind ?_ (fun _ =>?_))
   | exact ih0 _ _
   | exact ih1 _ _ _
   | exact LeO.none _
   | refine LeO.ite ?_ ?_
   | refine LeO.bind ?_ (fun _ =>?_)
set_option maxHeartbeats 8000000 in
set_option maxRecDepth 100000 in
theorem r05_Twice.calls (k:Nat) (A0:Option Addr) (c0:Nat) (l0:List ByteArray) (r:Bool) (w:World) (hr0:Kd.C Kd.string w A0 l0.length l0) (hc0:l0.length≤c0) (h:r05_Twice.f k l0 = some r) :
    Calls Try.prog 31 #[.slice A0 l0.length c0] w fun e w' =>e = .returned (.bool r)∧a1P w w':=by
 have HR0:=a0A.mk hr0
 have HC0:=a0A.mk hc0
 clear hr0 hc0
 have H:(r05_Twice.l0 k l0 0) = some r:=h
 clear h
 have H':=a0A.mk H
 clear H
 go_enter Try.func31,Try.ntmps31
 go_wp2
 repeat (go_quiet (fail);try go_wp2)
 go_loopg [3] k (fun kq v3 w' =>∃ (aY:Int),v3 = .int .i64 aY∧a0A (r05_Twice.l0 kq l0 aY = some r)∧a0A (kq≤k)∧a1P w w')
 case atStart =>exact ⟨(0),(by first | rfl | (simp;done) | (simp [*];done)),H',⟨Nat.le_refl _⟩,by repeat (first | exact a1P.refl _ | apply a1P.step)⟩
 case round =>
  clear H'
  obtain ⟨aY,rfl,HA,HK1,⟨m1,rfl⟩⟩:=hrel
  cases gk with
  | zero =>exact absurd HA.out (by simp [r05_Twice.l0])
  | succ k1 =>
   have H:=HA.out
   clear HA
   simp only [r05_Twice.l0] at H
   by_cases c2:aY < (l0.length:Int)
   ·rw [if_pos c2] at H
    have c2b0:decide (aY < (l0.length:Int)) = true:=decide_eq_true c2
    clear c2
    have H':=a0A.mk H
    clear H
    go_wp2
    repeat (go_quiet (fail);try go_wp2)
    go_loopg [4] k1 (fun kq v4 w' =>∃ (dD:Int),v4 = .int .i64 dD∧a0A (r05_Twice.l1 kq l0 aY dD = some r)∧a0A (kq≤k1)∧a1P w w')
    case atStart =>exact ⟨(0),(by first | rfl | (simp;done) | (simp [*];done)),H',⟨Nat.le_refl _⟩,by repeat (first | exact a1P.refl _ | apply a1P.step)⟩
    case round =>
     clear H'
     try clear c2
     try clear c2b0
     try clear p2
     obtain ⟨dD,rfl,HA,HK2,⟨m2,rfl⟩⟩:=hrel
     cases gk with
     | zero =>exact absurd HA.out (by simp [r05_Twice.l1])
     | succ k2 =>
      have H:=HA.out
      clear HA
      simp only [r05_Twice.l1] at H
      by_cases c3:dD < aY
      ·rw [if_pos c3] at H
       have c3b0:decide (dD < aY) = true:=decide_eq_true c3
       clear c3
       by_cases c4:0≤aY
       ·rw [if_pos c4] at H
        have c4b0:decide (0≤aY) = true:=decide_eq_true c4
        clear c4
        by_cases c5:aY < (l0.length:Int)
        ·rw [if_pos c5] at H
         have c5b0:decide (aY < (l0.length:Int)) = true:=decide_eq_true c5
         clear c5
         by_cases c6:0≤dD
         ·rw [if_pos c6] at H
          have c6b0:decide (0≤dD) = true:=decide_eq_true c6
          clear c6
          by_cases c7:dD < (l0.length:Int)
          ·rw [if_pos c7] at H
           have c7b0:decide (dD < (l0.length:Int)) = true:=decide_eq_true c7
           clear c7
           by_cases c8:(rdOf ByteArray.empty l0 aY).toList = (rdOf ByteArray.empty l0 dD).toList
           ·rw [if_pos c8] at H
            have c8b0:((rdOf ByteArray.empty l0 aY).toList == (rdOf ByteArray.empty l0 dD).toList) = true:=beq_iff_eq.mpr c8
            have c8b1:((rdOf ByteArray.empty l0 aY).toList != (rdOf ByteArray.empty l0 dD).toList) = false:=bne_eq_false_iff_eq.mpr c8
            clear c8
            obtain rfl:=Option.some.inj H
            have p257:0≤(aY:Int):=of_decide_eq_true (by first | (with_reducible assumption) | assumption)
            have q257:aY < (l0.length:Int):=of_decide_eq_true (by first | (with_reducible assumption) | assumption)
            obtain ⟨ad257,e257,aO2⟩:=Kd.a2D HR0.out aY p257 q257
            cases e257
            replace p257:=eq_true p257
            replace q257:=eq_true q257
            have p258:0≤(dD:Int):=of_decide_eq_true (by first | (with_reducible assumption) | assumption)
            have q258:dD < (l0.length:Int):=of_decide_eq_true (by first | (with_reducible assumption) | assumption)
            obtain ⟨ad258,e258,aO3⟩:=Kd.a2D HR0.out dD p258 q258
            obtain rfl:ad257 = ad258:=(by injection e258)
            replace p258:=eq_true p258
            replace q258:=eq_true q258
            go_wp2
            repeat (go_quiet (fail);try go_wp2)
            go_ret
            exact ⟨by first | rfl | (simp;done) | (simp [*];done),by repeat (first | exact a1P.refl _ | apply a1P.step)⟩
           ·rw [if_neg c8] at H
            have c8b0:((rdOf ByteArray.empty l0 aY).toList == (rdOf ByteArray.empty l0 dD).toList) = false:=beq_eq_false_iff_ne.mpr c8
            have c8b1:((rdOf ByteArray.empty l0 aY).toList != (rdOf ByteArray.empty l0 dD).toList) = true:=bne_iff_ne.mpr c8
            have H':=a0A.mk H
            clear H
            have p257:0≤(aY:Int):=of_decide_eq_true (by first | (with_reducible assumption) | assumption)
            have q257:aY < (l0.length:Int):=of_decide_eq_true (by first | (with_reducible assumption) | assumption)
            obtain ⟨ad257,e257,aO2⟩:=Kd.a2D HR0.out aY p257 q257
            cases e257
            replace p257:=eq_true p257
            replace q257:=eq_true q257
            have p258:0≤(dD:Int):=of_decide_eq_true (by first | (with_reducible assumption) | assumption)
            have q258:dD < (l0.length:Int):=of_decide_eq_true (by first | (with_reducible assumption) | assumption)
            obtain ⟨ad258,e258,aO3⟩:=Kd.a2D HR0.out dD p258 q258
            obtain rfl:ad257 = ad258:=(by injection e258)
            replace p258:=eq_true p258
            replace q258:=eq_true q258
            go_wp2
            repeat (go_quiet (fail);try go_wp2)
            go_roundg k2
            case measure =>have:=HK1.out;have:=HK2.out;omega
            case rel =>exact ⟨(wrap64 (dD + 1)),(by first | rfl | (simp;done) | (simp [*];done)),H',⟨by have:=HK1.out;have:=HK2.out;omega⟩,by repeat (first | exact a1P.refl _ | apply a1P.step)⟩
          ·rw [if_neg c7] at H
           exact absurd H (by simp)
         ·rw [if_neg c6] at H
          exact absurd H (by simp)
        ·rw [if_neg c5] at H
         exact absurd H (by simp)
       ·rw [if_neg c4] at H
        exact absurd H (by simp)
      ·rw [if_neg c3] at H
       have c3b0:decide (dD < aY) = false:=decide_eq_false c3
       clear c3
       have H':=a0A.mk H
       clear H
       go_wp2
       repeat (go_quiet (fail);try go_wp2)
       go_roundg k2
       case measure =>have:=HK1.out;have:=HK2.out;omega
       case rel =>exact ⟨(wrap64 (aY + 1)),(by first | rfl | (simp;done) | (simp [*];done)),H',⟨by have:=HK1.out;have:=HK2.out;omega⟩,by repeat (first | exact a1P.refl _ | apply a1P.step)⟩
   ·rw [if_neg c2] at H
    have c2b0:decide (aY < (l0.length:Int)) = false:=decide_eq_false c2
    clear c2
    obtain rfl:=Option.some.inj H
    go_wp2
    repeat (go_quiet (fail);try go_wp2)
    go_ret
    exact ⟨by first | rfl | (simp;done) | (simp [*];done),by repeat (first | exact a1P.refl _ | apply a1P.step)⟩
end Go.Proofs.Ytjiacafeckokeaa.Pr
