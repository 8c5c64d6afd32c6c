/- A part of the proof that ResolveTells returns true for every argument. No conditions beyond the given statement's own. -/
import Derived.Test.YtjiacafeckokeaaRTells2
set_option linter.unusedVariables false
set_option linter.unusedSimpArgs false
namespace Go.Proofs.Ytjiacafeckokeaa.Man
open Go.RowKit Go.Shelf Go.Proofs.Ytjiacafeckokeaa.Pr Go.Proofs.YtjiacafeckokeaaW.PrintWords
attribute [local go_sem] Oper.semAt_some
theorem mixedO:Try.prog.follows .mixedOrders = true:=by kernel_rfl
theorem b3V {n:Nat} {P:Program} {ops:Array Oper} {Q:Exit→Act→World→Prop} {i:Nat} {K:Act→World→Prop} {a:Act} {w:World} {o:Oper} {f:FuncId} {xs:Array Operand} {ts:Array TypeId} {R:Ending→World→Prop}
  (ho:ops[i]? = some o) (hw:Region.wanted o (yielded ops a.tmps) = true) (hop:o.op = .call { callee:=.value (.func f),args:=xs,argTypes:=ts }) (eg:∀ args w,(callFunc f args).run P w = .ok (.enter f args) w)
  (hcall:Calls P f (xs.map a.eval) w R) (hK:∀ e w',R e w'→∃ v,e = .returned v∧K (a.put o.dst v) w'):wpOpIn Fence.wide n P ops Q i K a w:=by
 unfold wpOpIn
 simp only [ho,hw,if_true]
 refine ⟨fun f h =>trivial,?_⟩
 rw [Oper.semAt_eq _ _ _ (by rw [hop];intro c h;cases h)]
 have hrun:(execOp a.eval o).run P w = .ok (.enter f (xs.map a.eval)) w:=by
  simp [execOp,hop,resolve,invoke,go_sem,eg]
 rw [hrun]
 refine ⟨fun h =>by simp [Fence.wide] at h,CallsIn.mono (callsIn_wide.2 hcall) fun e w' hr =>?_⟩
 obtain ⟨v,rfl,hk⟩:=hK e w' hr
 exact hk
end Go.Proofs.Ytjiacafeckokeaa.Man
namespace Go.Proofs.Ytjiacafeckokeaa.Pr
open Go.RowKit Go.Proofs.YtjiacafeckokeaaW.PrintWords Go.Proofs.YtjiacafeckokeaaW.PrintLast Go.Proofs.YtjiacafeckokeaaW.PrintMore
attribute [local go_sem] a4B a3Z a4W a4V a3G a3F a4A a3Y   -- for this text's walks alone
def r02_ok.f (aH:List (S76)) (aA:Int) (aJ:Int) (aW:Int) (aV:Int) (aX:Int):Option (Bool):=some (aV == 0)
set_option maxHeartbeats 8000000 in
set_option maxRecDepth 100000 in
theorem r02_ok.calls (bA:Option Addr) (aY:Nat) (aH:List (S76)) (aA:Int) (aJ:Int) (aW:Int) (aV:Int) (aX:Int) (r:Bool) (w:World) (bT:Kd.C k76 w bA aH.length aH) (bU:aH.length≤aY) (h:r02_ok.f aH aA aJ aW aV aX = some r) :
    Calls Try.prog 50 #[.agg #[.slice bA aH.length aY,.int .i64 aA,.int .i64 aJ,.int .i64 aW,.int .i64 aV,.int .i64 aX]] w fun e w' =>e = .returned (.bool r)∧Below w.heap.size w w':=by
 have hu78:=Try.underlying78
 have bF:=a0A.mk bT
 have bP:=a0A.mk bU
 clear bT bU
 have HB:=a0A.mk (Below.refl w.heap.size w)
 have H:(some (aV == 0)) = some r:=h
 clear h
 obtain rfl:=Option.some.inj H
 go_enter Try.func50,Try.ntmps50
 go_wp2_with (first | ((with_reducible refine a1C (N:=1) rfl ?_);refine a1A ?hg (N:=1) ?hd (cs:=#[.slice bA aH.length aY,.int .i64 aA,.int .i64 aJ,.int .i64 aW,.int .i64 aV,.int .i64 aX]) (t:=78) ?hr ?_;(case hd =>rfl);(case hg =>rfl);(case hr =>first | (go_simp;done) | (go_simp;rfl));intro dH hg w2 hbox hb;have aZ:=a0A.mk (a0H (by repeat (first | (with_reducible first | exact HB.out | apply a0D | apply a0B | apply a0E) | exact HB.out)) hb);have bB:=a0A.mk (hbox);have bI:=a0A.mk ((by rw [hg];exact (a0V (by repeat (first | (with_reducible first | exact HB.out | apply a0D | apply a0B | apply a0E) | exact HB.out))):w.heap.size≤dH));have bQ:=a0A.mk ((by rw [hg];exact (a0V (by repeat (first | (with_reducible first | exact HB.out | apply a0D | apply a0B | apply a0E) | exact HB.out))):w.heap.size≤dH));clear HB;have HB:=aZ;have bR:=bB;have GW101:=bI;have nG:=bQ;clear aZ bB bI bQ;clear hb hbox hg;have aF6:w2.cell? ⟨dH,0,none⟩ = some (.slice bA aH.length aY):=(a0G bR.out 0).trans rfl;have aF7:w2.cell? ⟨dH,1,none⟩ = some (.int .i64 aA):=(a0G bR.out 1).trans rfl;have aF8:w2.cell? ⟨dH,2,none⟩ = some (.int .i64 aJ):=(a0G bR.out 2).trans rfl;have aF9:w2.cell? ⟨dH,3,none⟩ = some (.int .i64 aW):=(a0G bR.out 3).trans rfl;have aG0:w2.cell? ⟨dH,4,none⟩ = some (.int .i64 aV):=(a0G bR.out 4).trans rfl;have aG1:w2.cell? ⟨dH,5,none⟩ = some (.int .i64 aX):=(a0G bR.out 5).trans rfl;have aG2:=a0F bR.out 0;have aG3:=a0F bR.out 1;have aG4:=a0F bR.out 2;have aG5:=a0F bR.out 3;have aG6:=a0F bR.out 4;have aG7:=a0F bR.out 5))
 go_ret
 exact ⟨by first | rfl | (simp [a0T,a0S] <;> rfl) | (simp [*,a0T,a0S] <;> rfl),by repeat (first | (with_reducible first | exact HB.out | apply a0D | apply a0B | apply a0E | refine a0I ?_ nG.out) | exact HB.out)⟩
def r01_Letter.f (a0:Int):Option (Bool):=if a0 ≥ 97 then (if a0≤122 then (some true) else (if a0 ≥ 65 then (some (decide (a0≤90))) else (some false))) else (if a0 ≥ 65 then (some (decide (a0≤90))) else (some false))
set_option maxHeartbeats 8000000 in
set_option maxRecDepth 100000 in
theorem r01_Letter.calls (a0:Int) (r:Bool) (w:World) (h:r01_Letter.f a0 = some r) :
    Calls Try.prog 46 #[.int .u8 a0] w fun e w' =>e = .returned (.bool r)∧a1P w w':=by
 have H:(if a0 ≥ 97 then (if a0≤122 then (some true) else (if a0 ≥ 65 then (some (decide (a0≤90))) else (some false))) else (if a0 ≥ 65 then (some (decide (a0≤90))) else (some false))) = some r:=h
 clear h
 by_cases c2:a0 ≥ 97
 ·rw [if_pos c2] at H
  have c2b0:decide (97≤a0) = true:=decide_eq_true c2
  clear c2
  by_cases c3:a0≤122
  ·rw [if_pos c3] at H
   have c3b0:decide (a0≤122) = true:=decide_eq_true c3
   clear c3
   obtain rfl:=Option.some.inj H
   go_enter Try.func46,Try.ntmps46
   go_wp2
   go_ret
   exact ⟨by first | rfl | (simp;done) | (simp [*];done),by repeat (first | exact a1P.refl _ | apply a1P.step)⟩
  ·rw [if_neg c3] at H
   have c3b0:decide (a0≤122) = false:=decide_eq_false c3
   clear c3
   by_cases c4:a0 ≥ 65
   ·rw [if_pos c4] at H
    have c4b0:decide (65≤a0) = true:=decide_eq_true c4
    clear c4
    obtain rfl:=Option.some.inj H
    go_enter Try.func46,Try.ntmps46
    go_wp2
    go_ret
    exact ⟨by first | rfl | (simp;done) | (simp [*];done),by repeat (first | exact a1P.refl _ | apply a1P.step)⟩
   ·rw [if_neg c4] at H
    have c4b0:decide (65≤a0) = false:=decide_eq_false c4
    clear c4
    obtain rfl:=Option.some.inj H
    go_enter Try.func46,Try.ntmps46
    go_wp2
    go_ret
    exact ⟨by first | rfl | (simp;done) | (simp [*];done),by repeat (first | exact a1P.refl _ | apply a1P.step)⟩
 ·rw [if_neg c2] at H
  have c2b0:decide (97≤a0) = false:=decide_eq_false c2
  clear c2
  by_cases c5:a0 ≥ 65
  ·rw [if_pos c5] at H
   have c5b0:decide (65≤a0) = true:=decide_eq_true c5
   clear c5
   obtain rfl:=Option.some.inj H
   go_enter Try.func46,Try.ntmps46
   go_wp2
   go_ret
   exact ⟨by first | rfl | (simp;done) | (simp [*];done),by repeat (first | exact a1P.refl _ | apply a1P.step)⟩
  ·rw [if_neg c5] at H
   have c5b0:decide (65≤a0) = false:=decide_eq_false c5
   clear c5
   obtain rfl:=Option.some.inj H
   go_enter Try.func46,Try.ntmps46
   go_wp2
   go_ret
   exact ⟨by first | rfl | (simp;done) | (simp [*];done),by repeat (first | exact a1P.refl _ | apply a1P.step)⟩
def r01_Digit.f (a0:Int):Option (Bool):=if a0 ≥ 48 then (some (decide (a0≤57))) else (some false)
set_option maxHeartbeats 8000000 in
set_option maxRecDepth 100000 in
theorem r01_Digit.calls (a0:Int) (r:Bool) (w:World) (h:r01_Digit.f a0 = some r) :
    Calls Try.prog 48 #[.int .u8 a0] w fun e w' =>e = .returned (.bool r)∧a1P w w':=by
 have H:(if a0 ≥ 48 then (some (decide (a0≤57))) else (some false)) = some r:=h
 clear h
 by_cases c2:a0 ≥ 48
 ·rw [if_pos c2] at H
  have c2b0:decide (48≤a0) = true:=decide_eq_true c2
  clear c2
  obtain rfl:=Option.some.inj H
  go_enter Try.func48,Try.ntmps48
  go_wp2
  go_ret
  exact ⟨by first | rfl | (simp;done) | (simp [*];done),by repeat (first | exact a1P.refl _ | apply a1P.step)⟩
 ·rw [if_neg c2] at H
  have c2b0:decide (48≤a0) = false:=decide_eq_false c2
  clear c2
  obtain rfl:=Option.some.inj H
  go_enter Try.func48,Try.ntmps48
  go_wp2
  go_ret
  exact ⟨by first | rfl | (simp;done) | (simp [*];done),by repeat (first | exact a1P.refl _ | apply a1P.step)⟩
def r01_Inner.f (a0:Int):Option (Bool):=(r01_Letter.f a0).bind fun t102 =>(if t102 = true then (some true) else ((r01_Digit.f a0).bind fun t103 =>(if t103 = true then (some true) else (some (a0 == 95)))))
set_option maxHeartbeats 8000000 in
set_option maxRecDepth 100000 in
theorem r01_Inner.calls (a0:Int) (r:Bool) (w:World) (h:r01_Inner.f a0 = some r) :
    Calls Try.prog 47 #[.int .u8 a0] w fun e w' =>e = .returned (.bool r)∧a1P w w':=by
 have H:((r01_Letter.f a0).bind fun t102 =>(if t102 = true then (some true) else ((r01_Digit.f a0).bind fun t103 =>(if t103 = true then (some true) else (some (a0 == 95)))))) = some r:=h
 clear h
 replace H:=Option.bind_eq_some_iff.mp H
 obtain ⟨t102,A20,H⟩:=H
 replace H:(if t102 = true then (some true) else ((r01_Digit.f a0).bind fun t103 =>(if t103 = true then (some true) else (some (a0 == 95))))) = some r:=H
 have A2:=a0A.mk A20
 clear A20
 by_cases c3:t102 = true
 ·subst c3
  have H1:(some true) = some r:=by rw [if_pos rfl] at H;exact H
  clear H
  have H:=H1
  clear H1
  obtain rfl:=Option.some.inj H
  go_enter Try.func47,Try.ntmps47
  go_wp2_with (first | ((with_reducible refine a1H (f:=46) rfl ?_);refine a2G (some 4) rfl rfl Try.func46 (by kernel_rfl) rfl #[.int .u8 a0] rfl (by (try simp only [List.map_toArray,List.map_cons,List.map_nil]);first | done | rfl | (simp only [List.length_drop,List.length_take];rfl)) ?_;(with_reducible refine (r01_Letter.calls a0 true _ A2.out).mono ?_);rintro e w' ⟨rfl,⟨nd,rfl⟩⟩;refine ⟨_,rfl,?_⟩))
  go_ret
  exact ⟨by first | rfl | (simp;done) | (simp [*];done),by repeat (first | exact a1P.refl _ | apply a1P.step)⟩
 ·replace c3:=Bool.eq_false_iff.mpr c3
  subst c3
  have H1:((r01_Digit.f a0).bind fun t103 =>(if t103 = true then (some true) else (some (a0 == 95)))) = some r:=by rw [if_neg (show ¬ (false = true) by decide)] at H;exact H
  clear H
  have H:=H1
  clear H1
  replace H:=Option.bind_eq_some_iff.mp H
  obtain ⟨t103,A40,H⟩:=H
  replace H:(if t103 = true then (some true) else (some (a0 == 95))) = some r:=H
  have A4:=a0A.mk A40
  clear A40
  by_cases c5:t103 = true
  ·subst c5
   have H1:(some true) = some r:=by rw [if_pos rfl] at H;exact H
   clear H
   have H:=H1
   clear H1
   obtain rfl:=Option.some.inj H
   go_enter Try.func47,Try.ntmps47
   go_wp2_with (first | ((with_reducible refine a1H (f:=46) rfl ?_);refine a2G (some 4) rfl rfl Try.func46 (by kernel_rfl) rfl #[.int .u8 a0] rfl (by (try simp only [List.map_toArray,List.map_cons,List.map_nil]);first | done | rfl | (simp only [List.length_drop,List.length_take];rfl)) ?_;(with_reducible refine (r01_Letter.calls a0 false _ A2.out).mono ?_);rintro e w' ⟨rfl,⟨nd,rfl⟩⟩;refine ⟨_,rfl,?_⟩) | (go_at_call 48;(with_reducible refine (r01_Digit.calls a0 true _ A4.out).mono ?_);rintro e w' ⟨rfl,⟨nd,rfl⟩⟩))
   go_ret
   exact ⟨by first | rfl | (simp;done) | (simp [*];done),by repeat (first | exact a1P.refl _ | apply a1P.step)⟩
  ·replace c5:=Bool.eq_false_iff.mpr c5
   subst c5
   have H1:(some (a0 == 95)) = some r:=by rw [if_neg (show ¬ (false = true) by decide)] at H;exact H
   clear H
   have H:=H1
   clear H1
   obtain rfl:=Option.some.inj H
   go_enter Try.func47,Try.ntmps47
   go_wp2_with (first | ((with_reducible refine a1H (f:=46) rfl ?_);refine a2G (some 4) rfl rfl Try.func46 (by kernel_rfl) rfl #[.int .u8 a0] rfl (by (try simp only [List.map_toArray,List.map_cons,List.map_nil]);first | done | rfl | (simp only [List.length_drop,List.length_take];rfl)) ?_;(with_reducible refine (r01_Letter.calls a0 false _ A2.out).mono ?_);rintro e w' ⟨rfl,⟨nd,rfl⟩⟩;refine ⟨_,rfl,?_⟩) | (go_at_call 48;(with_reducible refine (r01_Digit.calls a0 false _ A4.out).mono ?_);rintro e w' ⟨rfl,⟨nd,rfl⟩⟩))
   go_ret
   exact ⟨by first | rfl | (simp;done) | (simp [*];done),by repeat (first | exact a1P.refl _ | apply a1P.step)⟩
def r01_Sign.l0:Nat→Int→ByteArray→Int→Option (Bool)
 | 0,_,_,_ =>none
 | k + 1,x0,x3,x4 =>if x4 < (x3.size:Int) then (if 0≤x4 then (if (bt x3 x4) = x0 then (some true) else (r01_Sign.l0 k x0 x3 (wrap64 (x4 + 1)))) else (none)) else (some false)
def r01_Sign.f (k:Nat) (a0:Int):Option (Bool):=r01_Sign.l0 k a0 (⟨#[123,125,40,41,44,59,46,61,43,45,42,60,38,58]⟩:ByteArray) 0
set_option maxHeartbeats 8000000 in
set_option maxRecDepth 100000 in
theorem r01_Sign.calls (k:Nat) (a0:Int) (r:Bool) (w:World) (h:r01_Sign.f k a0 = some r) :
    Calls Try.prog 49 #[.int .u8 a0] w fun e w' =>e = .returned (.bool r)∧a1P w w':=by
 have H:(r01_Sign.l0 k a0 (⟨#[123,125,40,41,44,59,46,61,43,45,42,60,38,58]⟩:ByteArray) 0) = some r:=h
 clear h
 have H':=a0A.mk H
 clear H
 go_enter Try.func49,Try.ntmps49
 go_wp2
 go_loopg [4] k (fun kq v4 w' =>∃ (aG:Int),v4 = .int .i64 aG∧a0A (r01_Sign.l0 kq a0 (⟨#[123,125,40,41,44,59,46,61,43,45,42,60,38,58]⟩:ByteArray) aG = some r)∧a0A (kq≤k)∧a1P w w')
 case atStart =>exact ⟨(0),(by first | rfl | (simp;done) | (simp [*];done)),H',⟨Nat.le_refl _⟩,by repeat (first | exact a1P.refl _ | apply a1P.step)⟩
 case round =>
  clear H'
  obtain ⟨aG,rfl,HA,HK1,⟨m1,rfl⟩⟩:=hrel
  cases gk with
  | zero =>exact absurd HA.out (by simp [r01_Sign.l0])
  | succ k1 =>
   have H:=HA.out
   clear HA
   simp only [r01_Sign.l0] at H
   by_cases c2:aG < ((⟨#[123,125,40,41,44,59,46,61,43,45,42,60,38,58]⟩:ByteArray).size:Int)
   ·rw [if_pos c2] at H
    have c2b0:decide (aG < ((⟨#[123,125,40,41,44,59,46,61,43,45,42,60,38,58]⟩:ByteArray).size:Int)) = true:=decide_eq_true c2
    have c2b0x:decide (aG < (14:Int)) = true:=c2b0
    clear c2
    by_cases c3:0≤aG
    ·rw [if_pos c3] at H
     have c3b0:decide (0≤aG) = true:=decide_eq_true c3
     clear c3
     by_cases c5:(bt (⟨#[123,125,40,41,44,59,46,61,43,45,42,60,38,58]⟩:ByteArray) aG) = a0
     ·rw [if_pos c5] at H
      have c5b0:((bt (⟨#[123,125,40,41,44,59,46,61,43,45,42,60,38,58]⟩:ByteArray) aG) == a0) = true:=beq_iff_eq.mpr c5
      have c5b1:((bt (⟨#[123,125,40,41,44,59,46,61,43,45,42,60,38,58]⟩:ByteArray) aG) != a0) = false:=bne_eq_false_iff_eq.mpr c5
      clear c5
      obtain rfl:=Option.some.inj H
      have p4:0≤(aG:Int):=of_decide_eq_true (by first | (with_reducible assumption) | assumption)
      have q4:aG < (14:Int):=of_decide_eq_true (by first | (with_reducible assumption) | assumption)
      have hx4:=a5A (⟨#[123,125,40,41,44,59,46,61,43,45,42,60,38,58]⟩:ByteArray) aG
      replace p4:=eq_true p4
      replace q4:=eq_true q4
      go_wp2
      go_ret
      exact ⟨by first | rfl | (simp;done) | (simp [*];done),by repeat (first | exact a1P.refl _ | apply a1P.step)⟩
     ·rw [if_neg c5] at H
      have c5b0:((bt (⟨#[123,125,40,41,44,59,46,61,43,45,42,60,38,58]⟩:ByteArray) aG) == a0) = false:=beq_eq_false_iff_ne.mpr c5
      have c5b1:((bt (⟨#[123,125,40,41,44,59,46,61,43,45,42,60,38,58]⟩:ByteArray) aG) != a0) = true:=bne_iff_ne.mpr c5
      have H':=a0A.mk H
      clear H
      have p4:0≤(aG:Int):=of_decide_eq_true (by first | (with_reducible assumption) | assumption)
      have q4:aG < (14:Int):=of_decide_eq_true (by first | (with_reducible assumption) | assumption)
      have hx4:=a5A (⟨#[123,125,40,41,44,59,46,61,43,45,42,60,38,58]⟩:ByteArray) aG
      replace p4:=eq_true p4
      replace q4:=eq_true q4
      go_wp2
      go_roundg k1
      case measure =>have:=HK1.out;omega
      case rel =>exact ⟨(wrap64 (aG + 1)),(by first | rfl | (simp;done) | (simp [*];done)),H',⟨by have:=HK1.out;omega⟩,by repeat (first | exact a1P.refl _ | apply a1P.step)⟩
    ·rw [if_neg c3] at H
     exact absurd H (by simp)
   ·rw [if_neg c2] at H
    have c2b0:decide (aG < ((⟨#[123,125,40,41,44,59,46,61,43,45,42,60,38,58]⟩:ByteArray).size:Int)) = false:=decide_eq_false c2
    have c2b0x:decide (aG < (14:Int)) = false:=c2b0
    clear c2
    obtain rfl:=Option.some.inj H
    go_wp2
    go_ret
    exact ⟨by first | rfl | (simp;done) | (simp [*];done),by repeat (first | exact a1P.refl _ | apply a1P.step)⟩
mutual
def r01_Right.j0:Nat→Bool→Int→ByteArray→Int→Option (Bool)
 | 0,_,_,_,_ =>none
 | k + 1,x14,x105000,x105001,x105002 =>if x14 = true then (some false) else (r01_Right.l0 k 0 x105000 x105001 x105002)
def r01_Right.l0:Nat→Int→Int→ByteArray→Int→Option (Bool)
 | 0,_,_,_,_ =>none
 | k + 1,x3,x105000,x105001,x105002 =>if x3 < (x105001.size:Int) then (if 0≤x3 then (if x105000 = 0 then ((r01_Inner.f (bt x105001 x3)).bind fun t105 =>(if t105 = true then (if x105000 = 1 then ((r01_Digit.f (bt x105001 x3)).bind fun t106 =>(if t106 = true then (if x105000 = 2 then ((r01_Sign.f k (bt x105001 x3)).bind fun t107 =>(if t107 = true then (r01_Right.l0 k (wrap64 (x3 + 1)) x105000 x105001 x105002) else (some false))) else (r01_Right.l0 k (wrap64 (x3 + 1)) x105000 x105001 x105002)) else (some false))) else (if x105000 = 2 then ((r01_Sign.f k (bt x105001 x3)).bind fun t108 =>(if t108 = true then (r01_Right.l0 k (wrap64 (x3 + 1)) x105000 x105001 x105002) else (some false))) else (r01_Right.l0 k (wrap64 (x3 + 1)) x105000 x105001 x105002))) else (some false))) else (if x105000 = 1 then ((r01_Digit.f (bt x105001 x3)).bind fun t109 =>(if t109 = true then (if x105000 = 2 then ((r01_Sign.f k (bt x105001 x3)).bind fun t110 =>(if t110 = true then (r01_Right.l0 k (wrap64 (x3 + 1)) x105000 x105001 x105002) else (some false))) else (r01_Right.l0 k (wrap64 (x3 + 1)) x105000 x105001 x105002)) else (some false))) else (if x105000 = 2 then ((r01_Sign.f k (bt x105001 x3)).bind fun t111 =>(if t111 = true then (r01_Right.l0 k (wrap64 (x3 + 1)) x105000 x105001 x105002) else (some false))) else (r01_Right.l0 k (wrap64 (x3 + 1)) x105000 x105001 x105002)))) else (none)) else (if x105000 = 0 then (if 0 < (x105001.size:Int) then ((r01_Letter.f (bt x105001 0)).bind fun t112 =>(some t112)) else (none)) else (if x105000 = 1 then (some (decide ((x105001.size:Int)≤9))) else (if x105000 = 2 then (some ((x105001.size:Int) == 1)) else (some false))))
end
def r01_Right.f (k:Nat) (aN:Int) (aA:ByteArray) (aJ:Int):Option (Bool):=if (aA.size:Int) < 1 then (r01_Right.j0 k true aN aA aJ) else (r01_Right.j0 k (decide ((aA.size:Int) > 65536)) aN aA aJ)
set_option maxHeartbeats 8000000 in
set_option maxRecDepth 100000 in
theorem r01_Right.calls (k:Nat) (aN:Int) (aA:ByteArray) (aJ:Int) (r:Bool) (w:World) (h:r01_Right.f k aN aA aJ = some r) :
    Calls Try.prog 75 #[.agg #[.int .i64 aN,.string aA,.int .i64 aJ]] w fun e w' =>e = .returned (.bool r)∧Below w.heap.size w w':=by
 have hu76:=Try.underlying76
 have HB:=a0A.mk (Below.refl w.heap.size w)
 have H:(if (aA.size:Int) < 1 then (r01_Right.j0 k true aN aA aJ) else (r01_Right.j0 k (decide ((aA.size:Int) > 65536)) aN aA aJ)) = some r:=h
 clear h
 have HC2:=a0A.mk H
 clear H
 go_enter Try.func75,Try.ntmps75
 go_upto_region 1 with (first | ((with_reducible refine a1C (N:=1) rfl ?_);(try (refine a2Q (by rfl) ?_;dsimp only));refine a1A ?hg (N:=1) ?hd (cs:=#[.int .i64 aN,.string aA,.int .i64 aJ]) (t:=76) ?hr ?_;(case hd =>rfl);(case hg =>rfl);(case hr =>first | (go_simp;done) | (go_simp;rfl));intro aQ hg w3 hbox hb;have aZ:=a0A.mk (a0H (by repeat (first | (with_reducible first | exact HB.out | apply a0D | apply a0B | apply a0E) | exact HB.out)) hb);have bB:=a0A.mk (hbox);have bI:=a0A.mk ((by rw [hg];exact (a0V (by repeat (first | (with_reducible first | exact HB.out | apply a0D | apply a0B | apply a0E) | exact HB.out))):w.heap.size≤aQ));have bQ:=a0A.mk ((by rw [hg];exact (a0V (by repeat (first | (with_reducible first | exact HB.out | apply a0D | apply a0B | apply a0E) | exact HB.out))):w.heap.size≤aQ));clear HB;have HB:=aZ;have aE:=bB;have GW104:=bI;have bG:=bQ;clear aZ bB bI bQ;clear hb hbox hg))
 (try simp only [Act.put,List.setIfInBounds_toArray,List.set_cons_zero,List.set_cons_succ])
 go_cut [14] (fun v14 wc =>∃ (kq:Nat) (fW:Bool),v14 = .bool fW∧a0A (r01_Right.j0 kq fW aN aA aJ = some r)∧a0A (kq≤k)∧a0A (wc.heap[aQ]? = some (.cells #[.int .i64 aN,.string aA,.int .i64 aJ] 76 (0,0)))∧a0A (Below w.heap.size w wc))
 case first =>
  have H:=HC2.out
  clear HC2
  by_cases c4:(aA.size:Int) < 1
  ·rw [if_pos c4] at H
   have c4b0:decide ((aA.size:Int) < 1) = true:=decide_eq_true c4
   have c4b1:decide (aA.size < 1) = true:=decide_eq_true (by omega)
   clear c4
   (first | rw [c4b0] | (simp only [a0X,a0Y];rw [c4b0]) | skip)
   have H':=a0A.mk H
   clear H
   have jE:w3.cell? ⟨aQ,0,none⟩ = some (.int .i64 aN):=(a0G aE.out 0).trans rfl
   have jF:w3.cell? ⟨aQ,1,none⟩ = some (.string aA):=(a0G aE.out 1).trans rfl
   have jG:w3.cell? ⟨aQ,2,none⟩ = some (.int .i64 aJ):=(a0G aE.out 2).trans rfl
   have jH:=a0F aE.out 0
   have jI:=a0F aE.out 1
   have jJ:=a0F aE.out 2
   go_wp2
   go_meet
   case rel =>exact ⟨_,(true),(by first | rfl | (simp;done) | (simp [*];done)),H',⟨by first | omega | exact Nat.le_refl _⟩,⟨by (with_reducible repeat (first | refine a0L ?_ _ | refine a0M ?_ | refine a0K ?_ _));exact aE.out⟩,⟨by repeat (first | (with_reducible first | exact HB.out | apply a0D | apply a0B | apply a0E | refine a0I ?_ bG.out) | exact HB.out)⟩⟩
  ·rw [if_neg c4] at H
   have c4b0:decide ((aA.size:Int) < 1) = false:=decide_eq_false c4
   have c4b1:decide (aA.size < 1) = false:=decide_eq_false (by omega)
   clear c4
   (first | rw [c4b0] | (simp only [a0X,a0Y];rw [c4b0]) | skip)
   have H':=a0A.mk H
   clear H
   have jK:w3.cell? ⟨aQ,0,none⟩ = some (.int .i64 aN):=(a0G aE.out 0).trans rfl
   have jL:w3.cell? ⟨aQ,1,none⟩ = some (.string aA):=(a0G aE.out 1).trans rfl
   have jM:w3.cell? ⟨aQ,2,none⟩ = some (.int .i64 aJ):=(a0G aE.out 2).trans rfl
   have jN:=a0F aE.out 0
   have jO:=a0F aE.out 1
   have jP:=a0F aE.out 2
   go_wp2
   go_meet
   case rel =>exact ⟨_,(decide ((aA.size:Int) > 65536)),(by first | rfl | (simp;done) | (simp [*];done)),H',⟨by first | omega | exact Nat.le_refl _⟩,⟨by (with_reducible repeat (first | refine a0L ?_ _ | refine a0M ?_ | refine a0K ?_ _));exact aE.out⟩,⟨by repeat (first | (with_reducible first | exact HB.out | apply a0D | apply a0B | apply a0E | refine a0I ?_ bG.out) | exact HB.out)⟩⟩
 case rest =>
  clear HC2
  try clear p2
  try clear c4
  try clear c4b0
  try clear c4b1
  try clear jE
  try clear jF
  try clear jG
  try clear jK
  try clear jL
  try clear jM
  try clear jH
  try clear jI
  try clear jJ
  try clear jN
  try clear jO
  try clear jP
  obtain ⟨kq,fW,rfl,HA,HJ1,aE,HB⟩:=hcut
  cases kq with
  | zero =>exact absurd HA.out (by simp [r01_Right.j0])
  | succ kj1 =>
   have H:=HA.out
   clear HA
   simp only [r01_Right.j0] at H
   by_cases c7:fW = true
   ·subst c7
    have H1:(some false) = some r:=by rw [if_pos rfl] at H;exact H
    clear H
    have H:=H1
    clear H1
    obtain rfl:=Option.some.inj H
    go_wp2
    go_ret
    exact ⟨by first | rfl | (simp [a0T,a0S] <;> rfl) | (simp [*,a0T,a0S] <;> rfl),by repeat (first | (with_reducible first | exact HB.out | apply a0D | apply a0B | apply a0E | refine a0I ?_ bG.out) | exact HB.out)⟩
   ·replace c7:=Bool.eq_false_iff.mpr c7
    subst c7
    have H1:(r01_Right.l0 kj1 0 aN aA aJ) = some r:=by rw [if_neg (show ¬ (false = true) by decide)] at H;exact H
    clear H
    have H:=H1
    clear H1
    have H':=a0A.mk H
    clear H
    go_wp2
    go_loopg [3] kj1 (fun kq v3 w' =>∃ (aM:Int),v3 = .int .i64 aM∧a0A (r01_Right.l0 kq aM aN aA aJ = some r)∧a0A (kq≤kj1)∧a0A (w'.heap[aQ]? = some (.cells #[.int .i64 aN,.string aA,.int .i64 aJ] 76 (0,0)))∧a0A (Below w.heap.size w w'))
    case atStart =>exact ⟨(0),(by first | rfl | (simp;done) | (simp [*];done)),H',⟨Nat.le_refl _⟩,⟨by (with_reducible repeat (first | refine a0L ?_ _ | refine a0M ?_ | refine a0K ?_ _));exact aE.out⟩,⟨by repeat (first | (with_reducible first | exact HB.out | apply a0D | apply a0B | apply a0E | refine a0I ?_ bG.out) | exact HB.out)⟩⟩
    case round =>
     clear H'
     try clear p2
     try clear c4
     try clear c4b0
     try clear c4b1
     try clear c7
     try clear jE
     try clear jF
     try clear jG
     try clear jK
     try clear jL
     try clear jM
     try clear jH
     try clear jI
     try clear jJ
     try clear jN
     try clear jO
     try clear jP
     try clear p2
     obtain ⟨aM,rfl,HA,HK2,aE,HB⟩:=hrel
     cases gk with
     | zero =>exact absurd HA.out (by simp [r01_Right.l0])
     | succ k2 =>
      have H:=HA.out
      clear HA
      simp only [r01_Right.l0] at H
      by_cases c8:aM < (aA.size:Int)
      ·rw [if_pos c8] at H
       have c8b0:decide (aM < (aA.size:Int)) = true:=decide_eq_true c8
       clear c8
       by_cases c9:0≤aM
       ·rw [if_pos c9] at H
        have c9b0:decide (0≤aM) = true:=decide_eq_true c9
        clear c9
        by_cases c11:aN = 0
        ·rw [if_pos c11] at H
         have c11b0:(aN == 0) = true:=beq_iff_eq.mpr c11
         have c11b1:(aN != 0) = false:=bne_eq_false_iff_eq.mpr c11
         clear c11
         replace H:=Option.bind_eq_some_iff.mp H
         obtain ⟨t105,A120,H⟩:=H
         replace H:(if t105 = true then (if aN = 1 then ((r01_Digit.f (bt aA aM)).bind fun t106 =>(if t106 = true then (if aN = 2 then ((r01_Sign.f k2 (bt aA aM)).bind fun t107 =>(if t107 = true then (r01_Right.l0 k2 (wrap64 (aM + 1)) aN aA aJ) else (some false))) else (r01_Right.l0 k2 (wrap64 (aM + 1)) aN aA aJ)) else (some false))) else (if aN = 2 then ((r01_Sign.f k2 (bt aA aM)).bind fun t108 =>(if t108 = true then (r01_Right.l0 k2 (wrap64 (aM + 1)) aN aA aJ) else (some false))) else (r01_Right.l0 k2 (wrap64 (aM + 1)) aN aA aJ))) else (some false)) = some r:=H
         have A12:=a0A.mk A120
         clear A120
         by_cases c13:t105 = true
         ·subst c13
          have H1:(if aN = 1 then ((r01_Digit.f (bt aA aM)).bind fun t106 =>(if t106 = true then (if aN = 2 then ((r01_Sign.f k2 (bt aA aM)).bind fun t107 =>(if t107 = true then (r01_Right.l0 k2 (wrap64 (aM + 1)) aN aA aJ) else (some false))) else (r01_Right.l0 k2 (wrap64 (aM + 1)) aN aA aJ)) else (some false))) else (if aN = 2 then ((r01_Sign.f k2 (bt aA aM)).bind fun t108 =>(if t108 = true then (r01_Right.l0 k2 (wrap64 (aM + 1)) aN aA aJ) else (some false))) else (r01_Right.l0 k2 (wrap64 (aM + 1)) aN aA aJ))) = some r:=by rw [if_pos rfl] at H;exact H
          clear H
          have H:=H1
          clear H1
          by_cases c14:aN = 1
          ·rw [if_pos c14] at H
           have c14b0:(aN == 1) = true:=beq_iff_eq.mpr c14
           have c14b1:(aN != 1) = false:=bne_eq_false_iff_eq.mpr c14
           clear c14
           replace H:=Option.bind_eq_some_iff.mp H
           obtain ⟨t106,A150,H⟩:=H
           replace H:(if t106 = true then (if aN = 2 then ((r01_Sign.f k2 (bt aA aM)).bind fun t107 =>(if t107 = true then (r01_Right.l0 k2 (wrap64 (aM + 1)) aN aA aJ) else (some false))) else (r01_Right.l0 k2 (wrap64 (aM + 1)) aN aA aJ)) else (some false)) = some r:=H
           have A15:=a0A.mk A150
           clear A150
           by_cases c16:t106 = true
           ·subst c16
            have H1:(if aN = 2 then ((r01_Sign.f k2 (bt aA aM)).bind fun t107 =>(if t107 = true then (r01_Right.l0 k2 (wrap64 (aM + 1)) aN aA aJ) else (some false))) else (r01_Right.l0 k2 (wrap64 (aM + 1)) aN aA aJ)) = some r:=by rw [if_pos rfl] at H;exact H
            clear H
            have H:=H1
            clear H1
            by_cases c17:aN = 2
            ·rw [if_pos c17] at H
             have c17b0:(aN == 2) = true:=beq_iff_eq.mpr c17
             have c17b1:(aN != 2) = false:=bne_eq_false_iff_eq.mpr c17
             clear c17
             replace H:=Option.bind_eq_some_iff.mp H
             obtain ⟨t107,A180,H⟩:=H
             replace H:(if t107 = true then (r01_Right.l0 k2 (wrap64 (aM + 1)) aN aA aJ) else (some false)) = some r:=H
             have A18:=a0A.mk A180
             clear A180
             by_cases c19:t107 = true
             ·subst c19
              have H1:(r01_Right.l0 k2 (wrap64 (aM + 1)) aN aA aJ) = some r:=by rw [if_pos rfl] at H;exact H
              clear H
              have H:=H1
              clear H1
              have H':=a0A.mk H
              clear H
              have kA:wr.cell? ⟨aQ,0,none⟩ = some (.int .i64 aN):=(a0G aE.out 0).trans rfl
              have kB:wr.cell? ⟨aQ,1,none⟩ = some (.string aA):=(a0G aE.out 1).trans rfl
              have kC:wr.cell? ⟨aQ,2,none⟩ = some (.int .i64 aJ):=(a0G aE.out 2).trans rfl
              have kD:=a0F aE.out 0
              have kE:=a0F aE.out 1
              have kF:=a0F aE.out 2
              have p10:0≤(aM:Int):=of_decide_eq_true (by first | (with_reducible assumption) | assumption)
              have q10:aM < (aA.size:Int):=of_decide_eq_true (by first | (with_reducible assumption) | assumption)
              have hx10:=a5A aA aM
              replace p10:=eq_true p10
              replace q10:=eq_true q10
              go_wp2_with (first | (go_at_call 47;(with_reducible refine (r01_Inner.calls (bt aA aM) true _ A12.out).mono ?_);rintro e w' ⟨rfl,⟨nd,rfl⟩⟩) | (go_at_call 48;(with_reducible refine (r01_Digit.calls (bt aA aM) true _ A15.out).mono ?_);rintro e w' ⟨rfl,⟨nd,rfl⟩⟩) | (go_at_call 49;(with_reducible refine (r01_Sign.calls k2 (bt aA aM) true _ A18.out).mono ?_);rintro e w' ⟨rfl,⟨nd,rfl⟩⟩))
              go_roundg k2
              case measure =>have:=HJ1.out;have:=HK2.out;omega
              case rel =>exact ⟨(wrap64 (aM + 1)),(by first | rfl | (simp;done) | (simp [*];done)),H',⟨by have:=HJ1.out;have:=HK2.out;omega⟩,⟨by (with_reducible repeat (first | refine a0L ?_ _ | refine a0M ?_ | refine a0K ?_ _));exact aE.out⟩,⟨by repeat (first | (with_reducible first | exact HB.out | apply a0D | apply a0B | apply a0E | refine a0I ?_ bG.out) | exact HB.out)⟩⟩
             ·replace c19:=Bool.eq_false_iff.mpr c19
              subst c19
              have H1:(some false) = some r:=by rw [if_neg (show ¬ (false = true) by decide)] at H;exact H
              clear H
              have H:=H1
              clear H1
              obtain rfl:=Option.some.inj H
              have kG:wr.cell? ⟨aQ,0,none⟩ = some (.int .i64 aN):=(a0G aE.out 0).trans rfl
              have kH:wr.cell? ⟨aQ,1,none⟩ = some (.string aA):=(a0G aE.out 1).trans rfl
              have kI:wr.cell? ⟨aQ,2,none⟩ = some (.int .i64 aJ):=(a0G aE.out 2).trans rfl
              have kJ:=a0F aE.out 0
              have kK:=a0F aE.out 1
              have kL:=a0F aE.out 2
              have p10:0≤(aM:Int):=of_decide_eq_true (by first | (with_reducible assumption) | assumption)
              have q10:aM < (aA.size:Int):=of_decide_eq_true (by first | (with_reducible assumption) | assumption)
              have hx10:=a5A aA aM
              replace p10:=eq_true p10
              replace q10:=eq_true q10
              go_wp2_with (first | (go_at_call 47;(with_reducible refine (r01_Inner.calls (bt aA aM) true _ A12.out).mono ?_);rintro e w' ⟨rfl,⟨nd,rfl⟩⟩) | (go_at_call 48;(with_reducible refine (r01_Digit.calls (bt aA aM) true _ A15.out).mono ?_);rintro e w' ⟨rfl,⟨nd,rfl⟩⟩) | (go_at_call 49;(with_reducible refine (r01_Sign.calls k2 (bt aA aM) false _ A18.out).mono ?_);rintro e w' ⟨rfl,⟨nd,rfl⟩⟩))
              go_ret
              exact ⟨by first | rfl | (simp [a0T,a0S] <;> rfl) | (simp [*,a0T,a0S] <;> rfl),by repeat (first | (with_reducible first | exact HB.out | apply a0D | apply a0B | apply a0E | refine a0I ?_ bG.out) | exact HB.out)⟩
            ·rw [if_neg c17] at H
             have c17b0:(aN == 2) = false:=beq_eq_false_iff_ne.mpr c17
             have c17b1:(aN != 2) = true:=bne_iff_ne.mpr c17
             have H':=a0A.mk H
             clear H
             have kM:wr.cell? ⟨aQ,0,none⟩ = some (.int .i64 aN):=(a0G aE.out 0).trans rfl
             have kN:wr.cell? ⟨aQ,1,none⟩ = some (.string aA):=(a0G aE.out 1).trans rfl
             have kO:wr.cell? ⟨aQ,2,none⟩ = some (.int .i64 aJ):=(a0G aE.out 2).trans rfl
             have kP:=a0F aE.out 0
             have kQ:=a0F aE.out 1
             have kR:=a0F aE.out 2
             have p10:0≤(aM:Int):=of_decide_eq_true (by first | (with_reducible assumption) | assumption)
             have q10:aM < (aA.size:Int):=of_decide_eq_true (by first | (with_reducible assumption) | assumption)
             have hx10:=a5A aA aM
             replace p10:=eq_true p10
             replace q10:=eq_true q10
             go_wp2_with (first | (go_at_call 47;(with_reducible refine (r01_Inner.calls (bt aA aM) true _ A12.out).mono ?_);rintro e w' ⟨rfl,⟨nd,rfl⟩⟩) | (go_at_call 48;(with_reducible refine (r01_Digit.calls (bt aA aM) true _ A15.out).mono ?_);rintro e w' ⟨rfl,⟨nd,rfl⟩⟩))
             go_roundg k2
             case measure =>have:=HJ1.out;have:=HK2.out;omega
             case rel =>exact ⟨(wrap64 (aM + 1)),(by first | rfl | (simp;done) | (simp [*];done)),H',⟨by have:=HJ1.out;have:=HK2.out;omega⟩,⟨by (with_reducible repeat (first | refine a0L ?_ _ | refine a0M ?_ | refine a0K ?_ _));exact aE.out⟩,⟨by repeat (first | (with_reducible first | exact HB.out | apply a0D | apply a0B | apply a0E | refine a0I ?_ bG.out) | exact HB.out)⟩⟩
           ·replace c16:=Bool.eq_false_iff.mpr c16
            subst c16
            have H1:(some false) = some r:=by rw [if_neg (show ¬ (false = true) by decide)] at H;exact H
            clear H
            have H:=H1
            clear H1
            obtain rfl:=Option.some.inj H
            have kS:wr.cell? ⟨aQ,0,none⟩ = some (.int .i64 aN):=(a0G aE.out 0).trans rfl
            have kT:wr.cell? ⟨aQ,1,none⟩ = some (.string aA):=(a0G aE.out 1).trans rfl
            have kU:wr.cell? ⟨aQ,2,none⟩ = some (.int .i64 aJ):=(a0G aE.out 2).trans rfl
            have kV:=a0F aE.out 0
            have kW:=a0F aE.out 1
            have kX:=a0F aE.out 2
            have p10:0≤(aM:Int):=of_decide_eq_true (by first | (with_reducible assumption) | assumption)
            have q10:aM < (aA.size:Int):=of_decide_eq_true (by first | (with_reducible assumption) | assumption)
            have hx10:=a5A aA aM
            replace p10:=eq_true p10
            replace q10:=eq_true q10
            go_wp2_with (first | (go_at_call 47;(with_reducible refine (r01_Inner.calls (bt aA aM) true _ A12.out).mono ?_);rintro e w' ⟨rfl,⟨nd,rfl⟩⟩) | (go_at_call 48;(with_reducible refine (r01_Digit.calls (bt aA aM) false _ A15.out).mono ?_);rintro e w' ⟨rfl,⟨nd,rfl⟩⟩))
            go_ret
            exact ⟨by first | rfl | (simp [a0T,a0S] <;> rfl) | (simp [*,a0T,a0S] <;> rfl),by repeat (first | (with_reducible first | exact HB.out | apply a0D | apply a0B | apply a0E | refine a0I ?_ bG.out) | exact HB.out)⟩
          ·rw [if_neg c14] at H
           have c14b0:(aN == 1) = false:=beq_eq_false_iff_ne.mpr c14
           have c14b1:(aN != 1) = true:=bne_iff_ne.mpr c14
           by_cases c24:aN = 2
           ·rw [if_pos c24] at H
            have c24b0:(aN == 2) = true:=beq_iff_eq.mpr c24
            have c24b1:(aN != 2) = false:=bne_eq_false_iff_eq.mpr c24
            clear c24
            replace H:=Option.bind_eq_some_iff.mp H
            obtain ⟨t108,A250,H⟩:=H
            replace H:(if t108 = true then (r01_Right.l0 k2 (wrap64 (aM + 1)) aN aA aJ) else (some false)) = some r:=H
            have A25:=a0A.mk A250
            clear A250
            by_cases c26:t108 = true
            ·subst c26
             have H1:(r01_Right.l0 k2 (wrap64 (aM + 1)) aN aA aJ) = some r:=by rw [if_pos rfl] at H;exact H
             clear H
             have H:=H1
             clear H1
             have H':=a0A.mk H
             clear H
             have nH:wr.cell? ⟨aQ,0,none⟩ = some (.int .i64 aN):=(a0G aE.out 0).trans rfl
             have nI:wr.cell? ⟨aQ,1,none⟩ = some (.string aA):=(a0G aE.out 1).trans rfl
             have nJ:wr.cell? ⟨aQ,2,none⟩ = some (.int .i64 aJ):=(a0G aE.out 2).trans rfl
             have nK:=a0F aE.out 0
             have nL:=a0F aE.out 1
             have nM:=a0F aE.out 2
             have p10:0≤(aM:Int):=of_decide_eq_true (by first | (with_reducible assumption) | assumption)
             have q10:aM < (aA.size:Int):=of_decide_eq_true (by first | (with_reducible assumption) | assumption)
             have hx10:=a5A aA aM
             replace p10:=eq_true p10
             replace q10:=eq_true q10
             go_wp2_with (first | (go_at_call 47;(with_reducible refine (r01_Inner.calls (bt aA aM) true _ A12.out).mono ?_);rintro e w' ⟨rfl,⟨nd,rfl⟩⟩) | (go_at_call 49;(with_reducible refine (r01_Sign.calls k2 (bt aA aM) true _ A25.out).mono ?_);rintro e w' ⟨rfl,⟨nd,rfl⟩⟩))
             go_roundg k2
             case measure =>have:=HJ1.out;have:=HK2.out;omega
             case rel =>exact ⟨(wrap64 (aM + 1)),(by first | rfl | (simp;done) | (simp [*];done)),H',⟨by have:=HJ1.out;have:=HK2.out;omega⟩,⟨by (with_reducible repeat (first | refine a0L ?_ _ | refine a0M ?_ | refine a0K ?_ _));exact aE.out⟩,⟨by repeat (first | (with_reducible first | exact HB.out | apply a0D | apply a0B | apply a0E | refine a0I ?_ bG.out) | exact HB.out)⟩⟩
            ·replace c26:=Bool.eq_false_iff.mpr c26
             subst c26
             have H1:(some false) = some r:=by rw [if_neg (show ¬ (false = true) by decide)] at H;exact H
             clear H
             have H:=H1
             clear H1
             obtain rfl:=Option.some.inj H
             have kY:wr.cell? ⟨aQ,0,none⟩ = some (.int .i64 aN):=(a0G aE.out 0).trans rfl
             have kZ:wr.cell? ⟨aQ,1,none⟩ = some (.string aA):=(a0G aE.out 1).trans rfl
             have lA:wr.cell? ⟨aQ,2,none⟩ = some (.int .i64 aJ):=(a0G aE.out 2).trans rfl
             have lB:=a0F aE.out 0
             have lC:=a0F aE.out 1
             have lD:=a0F aE.out 2
             have p10:0≤(aM:Int):=of_decide_eq_true (by first | (with_reducible assumption) | assumption)
             have q10:aM < (aA.size:Int):=of_decide_eq_true (by first | (with_reducible assumption) | assumption)
             have hx10:=a5A aA aM
             replace p10:=eq_true p10
             replace q10:=eq_true q10
             go_wp2_with (first | (go_at_call 47;(with_reducible refine (r01_Inner.calls (bt aA aM) true _ A12.out).mono ?_);rintro e w' ⟨rfl,⟨nd,rfl⟩⟩) | (go_at_call 49;(with_reducible refine (r01_Sign.calls k2 (bt aA aM) false _ A25.out).mono ?_);rintro e w' ⟨rfl,⟨nd,rfl⟩⟩))
             go_ret
             exact ⟨by first | rfl | (simp [a0T,a0S] <;> rfl) | (simp [*,a0T,a0S] <;> rfl),by repeat (first | (with_reducible first | exact HB.out | apply a0D | apply a0B | apply a0E | refine a0I ?_ bG.out) | exact HB.out)⟩
           ·rw [if_neg c24] at H
            have c24b0:(aN == 2) = false:=beq_eq_false_iff_ne.mpr c24
            have c24b1:(aN != 2) = true:=bne_iff_ne.mpr c24
            have H':=a0A.mk H
            clear H
            have nN:wr.cell? ⟨aQ,0,none⟩ = some (.int .i64 aN):=(a0G aE.out 0).trans rfl
            have nO:wr.cell? ⟨aQ,1,none⟩ = some (.string aA):=(a0G aE.out 1).trans rfl
            have nP:wr.cell? ⟨aQ,2,none⟩ = some (.int .i64 aJ):=(a0G aE.out 2).trans rfl
            have nQ:=a0F aE.out 0
            have nR:=a0F aE.out 1
            have nS:=a0F aE.out 2
            have p10:0≤(aM:Int):=of_decide_eq_true (by first | (with_reducible assumption) | assumption)
            have q10:aM < (aA.size:Int):=of_decide_eq_true (by first | (with_reducible assumption) | assumption)
            have hx10:=a5A aA aM
            replace p10:=eq_true p10
            replace q10:=eq_true q10
            go_wp2_with (first | (go_at_call 47;(with_reducible refine (r01_Inner.calls (bt aA aM) true _ A12.out).mono ?_);rintro e w' ⟨rfl,⟨nd,rfl⟩⟩))
            go_roundg k2
            case measure =>have:=HJ1.out;have:=HK2.out;omega
            case rel =>exact ⟨(wrap64 (aM + 1)),(by first | rfl | (simp;done) | (simp [*];done)),H',⟨by have:=HJ1.out;have:=HK2.out;omega⟩,⟨by (with_reducible repeat (first | refine a0L ?_ _ | refine a0M ?_ | refine a0K ?_ _));exact aE.out⟩,⟨by repeat (first | (with_reducible first | exact HB.out | apply a0D | apply a0B | apply a0E | refine a0I ?_ bG.out) | exact HB.out)⟩⟩
         ·replace c13:=Bool.eq_false_iff.mpr c13
          subst c13
          have H1:(some false) = some r:=by rw [if_neg (show ¬ (false = true) by decide)] at H;exact H
          clear H
          have H:=H1
          clear H1
          obtain rfl:=Option.some.inj H
          have lE:wr.cell? ⟨aQ,0,none⟩ = some (.int .i64 aN):=(a0G aE.out 0).trans rfl
          have lF:wr.cell? ⟨aQ,1,none⟩ = some (.string aA):=(a0G aE.out 1).trans rfl
          have lG:wr.cell? ⟨aQ,2,none⟩ = some (.int .i64 aJ):=(a0G aE.out 2).trans rfl
          have lH:=a0F aE.out 0
          have lI:=a0F aE.out 1
          have lJ:=a0F aE.out 2
          have p10:0≤(aM:Int):=of_decide_eq_true (by first | (with_reducible assumption) | assumption)
          have q10:aM < (aA.size:Int):=of_decide_eq_true (by first | (with_reducible assumption) | assumption)
          have hx10:=a5A aA aM
          replace p10:=eq_true p10
          replace q10:=eq_true q10
          go_wp2_with (first | (go_at_call 47;(with_reducible refine (r01_Inner.calls (bt aA aM) false _ A12.out).mono ?_);rintro e w' ⟨rfl,⟨nd,rfl⟩⟩))
          go_ret
          exact ⟨by first | rfl | (simp [a0T,a0S] <;> rfl) | (simp [*,a0T,a0S] <;> rfl),by repeat (first | (with_reducible first | exact HB.out | apply a0D | apply a0B | apply a0E | refine a0I ?_ bG.out) | exact HB.out)⟩
        ·rw [if_neg c11] at H
         have c11b0:(aN == 0) = false:=beq_eq_false_iff_ne.mpr c11
         have c11b1:(aN != 0) = true:=bne_iff_ne.mpr c11
         by_cases c31:aN = 1
         ·rw [if_pos c31] at H
          have c31b0:(aN == 1) = true:=beq_iff_eq.mpr c31
          have c31b1:(aN != 1) = false:=bne_eq_false_iff_eq.mpr c31
          clear c31
          replace H:=Option.bind_eq_some_iff.mp H
          obtain ⟨t109,A320,H⟩:=H
          replace H:(if t109 = true then (if aN = 2 then ((r01_Sign.f k2 (bt aA aM)).bind fun t110 =>(if t110 = true then (r01_Right.l0 k2 (wrap64 (aM + 1)) aN aA aJ) else (some false))) else (r01_Right.l0 k2 (wrap64 (aM + 1)) aN aA aJ)) else (some false)) = some r:=H
          have A32:=a0A.mk A320
          clear A320
          by_cases c33:t109 = true
          ·subst c33
           have H1:(if aN = 2 then ((r01_Sign.f k2 (bt aA aM)).bind fun t110 =>(if t110 = true then (r01_Right.l0 k2 (wrap64 (aM + 1)) aN aA aJ) else (some false))) else (r01_Right.l0 k2 (wrap64 (aM + 1)) aN aA aJ)) = some r:=by rw [if_pos rfl] at H;exact H
           clear H
           have H:=H1
           clear H1
           by_cases c34:aN = 2
           ·rw [if_pos c34] at H
            have c34b0:(aN == 2) = true:=beq_iff_eq.mpr c34
            have c34b1:(aN != 2) = false:=bne_eq_false_iff_eq.mpr c34
            clear c34
            replace H:=Option.bind_eq_some_iff.mp H
            obtain ⟨t110,A350,H⟩:=H
            replace H:(if t110 = true then (r01_Right.l0 k2 (wrap64 (aM + 1)) aN aA aJ) else (some false)) = some r:=H
            have A35:=a0A.mk A350
            clear A350
            by_cases c36:t110 = true
            ·subst c36
             have H1:(r01_Right.l0 k2 (wrap64 (aM + 1)) aN aA aJ) = some r:=by rw [if_pos rfl] at H;exact H
             clear H
             have H:=H1
             clear H1
             have H':=a0A.mk H
             clear H
             have nT:wr.cell? ⟨aQ,0,none⟩ = some (.int .i64 aN):=(a0G aE.out 0).trans rfl
             have nU:wr.cell? ⟨aQ,1,none⟩ = some (.string aA):=(a0G aE.out 1).trans rfl
             have nV:wr.cell? ⟨aQ,2,none⟩ = some (.int .i64 aJ):=(a0G aE.out 2).trans rfl
             have nW:=a0F aE.out 0
             have nX:=a0F aE.out 1
             have nY:=a0F aE.out 2
             have p10:0≤(aM:Int):=of_decide_eq_true (by first | (with_reducible assumption) | assumption)
             have q10:aM < (aA.size:Int):=of_decide_eq_true (by first | (with_reducible assumption) | assumption)
             have hx10:=a5A aA aM
             replace p10:=eq_true p10
             replace q10:=eq_true q10
             go_wp2_with (first | (go_at_call 48;(with_reducible refine (r01_Digit.calls (bt aA aM) true _ A32.out).mono ?_);rintro e w' ⟨rfl,⟨nd,rfl⟩⟩) | (go_at_call 49;(with_reducible refine (r01_Sign.calls k2 (bt aA aM) true _ A35.out).mono ?_);rintro e w' ⟨rfl,⟨nd,rfl⟩⟩))
             go_roundg k2
             case measure =>have:=HJ1.out;have:=HK2.out;omega
             case rel =>exact ⟨(wrap64 (aM + 1)),(by first | rfl | (simp;done) | (simp [*];done)),H',⟨by have:=HJ1.out;have:=HK2.out;omega⟩,⟨by (with_reducible repeat (first | refine a0L ?_ _ | refine a0M ?_ | refine a0K ?_ _));exact aE.out⟩,⟨by repeat (first | (with_reducible first | exact HB.out | apply a0D | apply a0B | apply a0E | refine a0I ?_ bG.out) | exact HB.out)⟩⟩
            ·replace c36:=Bool.eq_false_iff.mpr c36
             subst c36
             have H1:(some false) = some r:=by rw [if_neg (show ¬ (false = true) by decide)] at H;exact H
             clear H
             have H:=H1
             clear H1
             obtain rfl:=Option.some.inj H
             have lK:wr.cell? ⟨aQ,0,none⟩ = some (.int .i64 aN):=(a0G aE.out 0).trans rfl
             have lL:wr.cell? ⟨aQ,1,none⟩ = some (.string aA):=(a0G aE.out 1).trans rfl
             have nZ:wr.cell? ⟨aQ,2,none⟩ = some (.int .i64 aJ):=(a0G aE.out 2).trans rfl
             have lM:=a0F aE.out 0
             have lN:=a0F aE.out 1
             have oA:=a0F aE.out 2
             have p10:0≤(aM:Int):=of_decide_eq_true (by first | (with_reducible assumption) | assumption)
             have q10:aM < (aA.size:Int):=of_decide_eq_true (by first | (with_reducible assumption) | assumption)
             have hx10:=a5A aA aM
             replace p10:=eq_true p10
             replace q10:=eq_true q10
             go_wp2_with (first | (go_at_call 48;(with_reducible refine (r01_Digit.calls (bt aA aM) true _ A32.out).mono ?_);rintro e w' ⟨rfl,⟨nd,rfl⟩⟩) | (go_at_call 49;(with_reducible refine (r01_Sign.calls k2 (bt aA aM) false _ A35.out).mono ?_);rintro e w' ⟨rfl,⟨nd,rfl⟩⟩))
             go_ret
             exact ⟨by first | rfl | (simp [a0T,a0S] <;> rfl) | (simp [*,a0T,a0S] <;> rfl),by repeat (first | (with_reducible first | exact HB.out | apply a0D | apply a0B | apply a0E | refine a0I ?_ bG.out) | exact HB.out)⟩
           ·rw [if_neg c34] at H
            have c34b0:(aN == 2) = false:=beq_eq_false_iff_ne.mpr c34
            have c34b1:(aN != 2) = true:=bne_iff_ne.mpr c34
            have H':=a0A.mk H
            clear H
            have oB:wr.cell? ⟨aQ,0,none⟩ = some (.int .i64 aN):=(a0G aE.out 0).trans rfl
            have oC:wr.cell? ⟨aQ,1,none⟩ = some (.string aA):=(a0G aE.out 1).trans rfl
            have oD:wr.cell? ⟨aQ,2,none⟩ = some (.int .i64 aJ):=(a0G aE.out 2).trans rfl
            have oE:=a0F aE.out 0
            have oF:=a0F aE.out 1
            have oG:=a0F aE.out 2
            have p10:0≤(aM:Int):=of_decide_eq_true (by first | (with_reducible assumption) | assumption)
            have q10:aM < (aA.size:Int):=of_decide_eq_true (by first | (with_reducible assumption) | assumption)
            have hx10:=a5A aA aM
            replace p10:=eq_true p10
            replace q10:=eq_true q10
            go_wp2_with (first | (go_at_call 48;(with_reducible refine (r01_Digit.calls (bt aA aM) true _ A32.out).mono ?_);rintro e w' ⟨rfl,⟨nd,rfl⟩⟩))
            go_roundg k2
            case measure =>have:=HJ1.out;have:=HK2.out;omega
            case rel =>exact ⟨(wrap64 (aM + 1)),(by first | rfl | (simp;done) | (simp [*];done)),H',⟨by have:=HJ1.out;have:=HK2.out;omega⟩,⟨by (with_reducible repeat (first | refine a0L ?_ _ | refine a0M ?_ | refine a0K ?_ _));exact aE.out⟩,⟨by repeat (first | (with_reducible first | exact HB.out | apply a0D | apply a0B | apply a0E | refine a0I ?_ bG.out) | exact HB.out)⟩⟩
          ·replace c33:=Bool.eq_false_iff.mpr c33
           subst c33
           have H1:(some false) = some r:=by rw [if_neg (show ¬ (false = true) by decide)] at H;exact H
           clear H
           have H:=H1
           clear H1
           obtain rfl:=Option.some.inj H
           have oH:wr.cell? ⟨aQ,0,none⟩ = some (.int .i64 aN):=(a0G aE.out 0).trans rfl
           have oI:wr.cell? ⟨aQ,1,none⟩ = some (.string aA):=(a0G aE.out 1).trans rfl
           have oJ:wr.cell? ⟨aQ,2,none⟩ = some (.int .i64 aJ):=(a0G aE.out 2).trans rfl
           have oK:=a0F aE.out 0
           have oL:=a0F aE.out 1
           have oM:=a0F aE.out 2
           have p10:0≤(aM:Int):=of_decide_eq_true (by first | (with_reducible assumption) | assumption)
           have q10:aM < (aA.size:Int):=of_decide_eq_true (by first | (with_reducible assumption) | assumption)
           have hx10:=a5A aA aM
           replace p10:=eq_true p10
           replace q10:=eq_true q10
           go_wp2_with (first | (go_at_call 48;(with_reducible refine (r01_Digit.calls (bt aA aM) false _ A32.out).mono ?_);rintro e w' ⟨rfl,⟨nd,rfl⟩⟩))
           go_ret
           exact ⟨by first | rfl | (simp [a0T,a0S] <;> rfl) | (simp [*,a0T,a0S] <;> rfl),by repeat (first | (with_reducible first | exact HB.out | apply a0D | apply a0B | apply a0E | refine a0I ?_ bG.out) | exact HB.out)⟩
         ·rw [if_neg c31] at H
          have c31b0:(aN == 1) = false:=beq_eq_false_iff_ne.mpr c31
          have c31b1:(aN != 1) = true:=bne_iff_ne.mpr c31
          by_cases c41:aN = 2
          ·rw [if_pos c41] at H
           have c41b0:(aN == 2) = true:=beq_iff_eq.mpr c41
           have c41b1:(aN != 2) = false:=bne_eq_false_iff_eq.mpr c41
           clear c41
           replace H:=Option.bind_eq_some_iff.mp H
           obtain ⟨t111,A420,H⟩:=H
           replace H:(if t111 = true then (r01_Right.l0 k2 (wrap64 (aM + 1)) aN aA aJ) else (some false)) = some r:=H
           have A42:=a0A.mk A420
           clear A420
           by_cases c43:t111 = true
           ·subst c43
            have H1:(r01_Right.l0 k2 (wrap64 (aM + 1)) aN aA aJ) = some r:=by rw [if_pos rfl] at H;exact H
            clear H
            have H:=H1
            clear H1
            have H':=a0A.mk H
            clear H
            have oN:wr.cell? ⟨aQ,0,none⟩ = some (.int .i64 aN):=(a0G aE.out 0).trans rfl
            have oO:wr.cell? ⟨aQ,1,none⟩ = some (.string aA):=(a0G aE.out 1).trans rfl
            have oP:wr.cell? ⟨aQ,2,none⟩ = some (.int .i64 aJ):=(a0G aE.out 2).trans rfl
            have oQ:=a0F aE.out 0
            have oR:=a0F aE.out 1
            have oS:=a0F aE.out 2
            have p10:0≤(aM:Int):=of_decide_eq_true (by first | (with_reducible assumption) | assumption)
            have q10:aM < (aA.size:Int):=of_decide_eq_true (by first | (with_reducible assumption) | assumption)
            have hx10:=a5A aA aM
            replace p10:=eq_true p10
            replace q10:=eq_true q10
            go_wp2_with (first | (go_at_call 49;(with_reducible refine (r01_Sign.calls k2 (bt aA aM) true _ A42.out).mono ?_);rintro e w' ⟨rfl,⟨nd,rfl⟩⟩))
            go_roundg k2
            case measure =>have:=HJ1.out;have:=HK2.out;omega
            case rel =>exact ⟨(wrap64 (aM + 1)),(by first | rfl | (simp;done) | (simp [*];done)),H',⟨by have:=HJ1.out;have:=HK2.out;omega⟩,⟨by (with_reducible repeat (first | refine a0L ?_ _ | refine a0M ?_ | refine a0K ?_ _));exact aE.out⟩,⟨by repeat (first | (with_reducible first | exact HB.out | apply a0D | apply a0B | apply a0E | refine a0I ?_ bG.out) | exact HB.out)⟩⟩
           ·replace c43:=Bool.eq_false_iff.mpr c43
            subst c43
            have H1:(some false) = some r:=by rw [if_neg (show ¬ (false = true) by decide)] at H;exact H
            clear H
            have H:=H1
            clear H1
            obtain rfl:=Option.some.inj H
            have oT:wr.cell? ⟨aQ,0,none⟩ = some (.int .i64 aN):=(a0G aE.out 0).trans rfl
            have oU:wr.cell? ⟨aQ,1,none⟩ = some (.string aA):=(a0G aE.out 1).trans rfl
            have oV:wr.cell? ⟨aQ,2,none⟩ = some (.int .i64 aJ):=(a0G aE.out 2).trans rfl
            have oW:=a0F aE.out 0
            have oX:=a0F aE.out 1
            have oY:=a0F aE.out 2
            have p10:0≤(aM:Int):=of_decide_eq_true (by first | (with_reducible assumption) | assumption)
            have q10:aM < (aA.size:Int):=of_decide_eq_true (by first | (with_reducible assumption) | assumption)
            have hx10:=a5A aA aM
            replace p10:=eq_true p10
            replace q10:=eq_true q10
            go_wp2_with (first | (go_at_call 49;(with_reducible refine (r01_Sign.calls k2 (bt aA aM) false _ A42.out).mono ?_);rintro e w' ⟨rfl,⟨nd,rfl⟩⟩))
            go_ret
            exact ⟨by first | rfl | (simp [a0T,a0S] <;> rfl) | (simp [*,a0T,a0S] <;> rfl),by repeat (first | (with_reducible first | exact HB.out | apply a0D | apply a0B | apply a0E | refine a0I ?_ bG.out) | exact HB.out)⟩
          ·rw [if_neg c41] at H
           have c41b0:(aN == 2) = false:=beq_eq_false_iff_ne.mpr c41
           have c41b1:(aN != 2) = true:=bne_iff_ne.mpr c41
           have H':=a0A.mk H
           clear H
           have oZ:wr.cell? ⟨aQ,0,none⟩ = some (.int .i64 aN):=(a0G aE.out 0).trans rfl
           have pA:wr.cell? ⟨aQ,1,none⟩ = some (.string aA):=(a0G aE.out 1).trans rfl
           have pB:wr.cell? ⟨aQ,2,none⟩ = some (.int .i64 aJ):=(a0G aE.out 2).trans rfl
           have pC:=a0F aE.out 0
           have pD:=a0F aE.out 1
           have pE:=a0F aE.out 2
           have p10:0≤(aM:Int):=of_decide_eq_true (by first | (with_reducible assumption) | assumption)
           have q10:aM < (aA.size:Int):=of_decide_eq_true (by first | (with_reducible assumption) | assumption)
           have hx10:=a5A aA aM
           replace p10:=eq_true p10
           replace q10:=eq_true q10
           go_wp2
           go_roundg k2
           case measure =>have:=HJ1.out;have:=HK2.out;omega
           case rel =>exact ⟨(wrap64 (aM + 1)),(by first | rfl | (simp;done) | (simp [*];done)),H',⟨by have:=HJ1.out;have:=HK2.out;omega⟩,⟨by (with_reducible repeat (first | refine a0L ?_ _ | refine a0M ?_ | refine a0K ?_ _));exact aE.out⟩,⟨by repeat (first | (with_reducible first | exact HB.out | apply a0D | apply a0B | apply a0E | refine a0I ?_ bG.out) | exact HB.out)⟩⟩
       ·rw [if_neg c9] at H
        exact absurd H (by simp)
      ·rw [if_neg c8] at H
       have c8b0:decide (aM < (aA.size:Int)) = false:=decide_eq_false c8
       clear c8
       by_cases c47:aN = 0
       ·rw [if_pos c47] at H
        have c47b0:(aN == 0) = true:=beq_iff_eq.mpr c47
        have c47b1:(aN != 0) = false:=bne_eq_false_iff_eq.mpr c47
        clear c47
        by_cases c48:0 < (aA.size:Int)
        ·rw [if_pos c48] at H
         have c48b0:decide (0 < (aA.size:Int)) = true:=decide_eq_true c48
         have c48b1:decide (0 < aA.size) = true:=decide_eq_true (by omega)
         clear c48
         replace H:=Option.bind_eq_some_iff.mp H
         obtain ⟨t112,A500,H⟩:=H
         replace H:(some t112) = some r:=H
         have A50:=a0A.mk A500
         clear A500
         obtain rfl:=Option.some.inj H
         have pF:wr.cell? ⟨aQ,0,none⟩ = some (.int .i64 aN):=(a0G aE.out 0).trans rfl
         have pG:wr.cell? ⟨aQ,1,none⟩ = some (.string aA):=(a0G aE.out 1).trans rfl
         have pH:wr.cell? ⟨aQ,2,none⟩ = some (.int .i64 aJ):=(a0G aE.out 2).trans rfl
         have pI:=a0F aE.out 0
         have pJ:=a0F aE.out 1
         have pK:=a0F aE.out 2
         have p49:0≤(0:Int):=(by omega)
         have q49:0 < aA.size:=(by have:(0:Int) < (aA.size:Int):=of_decide_eq_true (by first | (with_reducible assumption) | assumption);omega)
         have hx49:∀ h:0 < aA.size,((aA[0]'h).toNat:Int) = bt aA 0:=a5A aA 0
         clear p49
         have qi49:(0 < (aA.size:Int)) = True:=eq_true (of_decide_eq_true (by first | (with_reducible assumption) | assumption))
         replace q49:=eq_true q49
         go_wp2_with (first | ((with_reducible refine a1H (f:=46) rfl ?_);refine a2G (some 60) rfl rfl Try.func46 (by kernel_rfl) rfl #[.int .u8 (bt aA 0)] rfl (by (try simp only [List.map_toArray,List.map_cons,List.map_nil]);first | done | rfl | (simp only [List.length_drop,List.length_take];rfl)) ?_;(with_reducible refine (r01_Letter.calls (bt aA 0) t112 _ A50.out).mono ?_);rintro e w' ⟨rfl,⟨nd,rfl⟩⟩;refine ⟨_,rfl,?_⟩))
         go_ret
         exact ⟨by first | rfl | (simp [a0T,a0S] <;> rfl) | (simp [*,a0T,a0S] <;> rfl),by repeat (first | (with_reducible first | exact HB.out | apply a0D | apply a0B | apply a0E | refine a0I ?_ bG.out) | exact HB.out)⟩
        ·rw [if_neg c48] at H
         exact absurd H (by simp)
       ·rw [if_neg c47] at H
        have c47b0:(aN == 0) = false:=beq_eq_false_iff_ne.mpr c47
        have c47b1:(aN != 0) = true:=bne_iff_ne.mpr c47
        by_cases c52:aN = 1
        ·rw [if_pos c52] at H
         have c52b0:(aN == 1) = true:=beq_iff_eq.mpr c52
         have c52b1:(aN != 1) = false:=bne_eq_false_iff_eq.mpr c52
         clear c52
         obtain rfl:=Option.some.inj H
         have pL:wr.cell? ⟨aQ,0,none⟩ = some (.int .i64 aN):=(a0G aE.out 0).trans rfl
         have pM:wr.cell? ⟨aQ,1,none⟩ = some (.string aA):=(a0G aE.out 1).trans rfl
         have pN:wr.cell? ⟨aQ,2,none⟩ = some (.int .i64 aJ):=(a0G aE.out 2).trans rfl
         have pO:=a0F aE.out 0
         have pP:=a0F aE.out 1
         have pQ:=a0F aE.out 2
         go_wp2
         go_ret
         exact ⟨by first | rfl | (simp [a0T,a0S] <;> rfl) | (simp [*,a0T,a0S] <;> rfl),by repeat (first | (with_reducible first | exact HB.out | apply a0D | apply a0B | apply a0E | refine a0I ?_ bG.out) | exact HB.out)⟩
        ·rw [if_neg c52] at H
         have c52b0:(aN == 1) = false:=beq_eq_false_iff_ne.mpr c52
         have c52b1:(aN != 1) = true:=bne_iff_ne.mpr c52
         by_cases c54:aN = 2
         ·rw [if_pos c54] at H
          have c54b0:(aN == 2) = true:=beq_iff_eq.mpr c54
          have c54b1:(aN != 2) = false:=bne_eq_false_iff_eq.mpr c54
          clear c54
          obtain rfl:=Option.some.inj H
          have pR:wr.cell? ⟨aQ,0,none⟩ = some (.int .i64 aN):=(a0G aE.out 0).trans rfl
          have pS:wr.cell? ⟨aQ,1,none⟩ = some (.string aA):=(a0G aE.out 1).trans rfl
          have pT:wr.cell? ⟨aQ,2,none⟩ = some (.int .i64 aJ):=(a0G aE.out 2).trans rfl
          have pU:=a0F aE.out 0
          have pV:=a0F aE.out 1
          have pW:=a0F aE.out 2
          go_wp2
          go_ret
          exact ⟨by first | rfl | (simp [a0T,a0S] <;> rfl) | (simp [*,a0T,a0S] <;> rfl),by repeat (first | (with_reducible first | exact HB.out | apply a0D | apply a0B | apply a0E | refine a0I ?_ bG.out) | exact HB.out)⟩
         ·rw [if_neg c54] at H
          have c54b0:(aN == 2) = false:=beq_eq_false_iff_ne.mpr c54
          have c54b1:(aN != 2) = true:=bne_iff_ne.mpr c54
          obtain rfl:=Option.some.inj H
          have pX:wr.cell? ⟨aQ,0,none⟩ = some (.int .i64 aN):=(a0G aE.out 0).trans rfl
          have pY:wr.cell? ⟨aQ,1,none⟩ = some (.string aA):=(a0G aE.out 1).trans rfl
          have pZ:wr.cell? ⟨aQ,2,none⟩ = some (.int .i64 aJ):=(a0G aE.out 2).trans rfl
          have qA:=a0F aE.out 0
          have qB:=a0F aE.out 1
          have qC:=a0F aE.out 2
          go_wp2
          go_ret
          exact ⟨by first | rfl | (simp [a0T,a0S] <;> rfl) | (simp [*,a0T,a0S] <;> rfl),by repeat (first | (with_reducible first | exact HB.out | apply a0D | apply a0B | apply a0E | refine a0I ?_ bG.out) | exact HB.out)⟩
def r02_is.f (k:Nat) (aH:List (S76)) (aA:Int) (aJ:Int) (aW:Int) (aV:Int) (aX:Int) (a1:ByteArray):Option (Bool):=(r02_ok.f aH aA aJ aW aV aX).bind fun t114 =>(if t114 = true then (if aA < (aH.length:Int) then (if 0≤aA then ((r01_Right.f k ((a1K aH aA).f0) ((a1K aH aA).f1) ((a1K aH aA).f2)).bind fun t116 =>(if t116 = true then (if ((a1K aH aA).f1).toList = a1.toList then (some (((a1K aH aA).f0) != 1)) else (some false)) else (some false))) else (none)) else (some false)) else (some false))
set_option maxHeartbeats 8000000 in
set_option maxRecDepth 100000 in
theorem r02_is.calls (k:Nat) (bA:Option Addr) (aY:Nat) (aH:List (S76)) (aA:Int) (aJ:Int) (aW:Int) (aV:Int) (aX:Int) (a1:ByteArray) (r:Bool) (w:World) (bT:Kd.C k76 w bA aH.length aH) (bU:aH.length≤aY) (h:r02_is.f k aH aA aJ aW aV aX a1 = some r) :
    Calls Try.prog 61 #[.agg #[.slice bA aH.length aY,.int .i64 aA,.int .i64 aJ,.int .i64 aW,.int .i64 aV,.int .i64 aX],.string a1] w fun e w' =>e = .returned (.bool r)∧Below w.heap.size w w':=by
 have hu78:=Try.underlying78
 have hu76:=Try.underlying76
 have bF:=a0A.mk bT
 have bP:=a0A.mk bU
 clear bT bU
 have HB:=a0A.mk (Below.refl w.heap.size w)
 have H:((r02_ok.f aH aA aJ aW aV aX).bind fun t114 =>(if t114 = true then (if aA < (aH.length:Int) then (if 0≤aA then ((r01_Right.f k ((a1K aH aA).f0) ((a1K aH aA).f1) ((a1K aH aA).f2)).bind fun t116 =>(if t116 = true then (if ((a1K aH aA).f1).toList = a1.toList then (some (((a1K aH aA).f0) != 1)) else (some false)) else (some false))) else (none)) else (some false)) else (some false))) = some r:=h
 clear h
 replace H:=Option.bind_eq_some_iff.mp H
 obtain ⟨t114,A30,H⟩:=H
 replace H:(if t114 = true then (if aA < (aH.length:Int) then (if 0≤aA then ((r01_Right.f k ((a1K aH aA).f0) ((a1K aH aA).f1) ((a1K aH aA).f2)).bind fun t116 =>(if t116 = true then (if ((a1K aH aA).f1).toList = a1.toList then (some (((a1K aH aA).f0) != 1)) else (some false)) else (some false))) else (none)) else (some false)) else (some false)) = some r:=H
 have A3:=a0A.mk A30
 clear A30
 by_cases c4:t114 = true
 ·subst c4
  have H1:(if aA < (aH.length:Int) then (if 0≤aA then ((r01_Right.f k ((a1K aH aA).f0) ((a1K aH aA).f1) ((a1K aH aA).f2)).bind fun t116 =>(if t116 = true then (if ((a1K aH aA).f1).toList = a1.toList then (some (((a1K aH aA).f0) != 1)) else (some false)) else (some false))) else (none)) else (some false)) = some r:=by rw [if_pos rfl] at H;exact H
  clear H
  have H:=H1
  clear H1
  by_cases c5:aA < (aH.length:Int)
  ·rw [if_pos c5] at H
   have c5b0:decide (aA < (aH.length:Int)) = true:=decide_eq_true c5
   clear c5
   by_cases c6:0≤aA
   ·rw [if_pos c6] at H
    have c6b0:decide (0≤aA) = true:=decide_eq_true c6
    clear c6
    replace H:=Option.bind_eq_some_iff.mp H
    obtain ⟨t116,A70,H⟩:=H
    replace H:(if t116 = true then (if ((a1K aH aA).f1).toList = a1.toList then (some (((a1K aH aA).f0) != 1)) else (some false)) else (some false)) = some r:=H
    have A7:=a0A.mk A70
    clear A70
    by_cases c8:t116 = true
    ·subst c8
     have H1:(if ((a1K aH aA).f1).toList = a1.toList then (some (((a1K aH aA).f0) != 1)) else (some false)) = some r:=by rw [if_pos rfl] at H;exact H
     clear H
     have H:=H1
     clear H1
     by_cases c9:((a1K aH aA).f1).toList = a1.toList
     ·rw [if_pos c9] at H
      have c9b0:(((a1K aH aA).f1).toList == a1.toList) = true:=beq_iff_eq.mpr c9
      have c9b1:(((a1K aH aA).f1).toList != a1.toList) = false:=bne_eq_false_iff_eq.mpr c9
      clear c9
      obtain rfl:=Option.some.inj H
      go_enter Try.func61,Try.ntmps61
      go_wp2_with (first | ((with_reducible refine a1C (N:=2) rfl ?_);(try (refine a2Q (by rfl) ?_;dsimp only));refine a1A ?hg (N:=2) ?hd (cs:=#[.slice bA aH.length aY,.int .i64 aA,.int .i64 aJ,.int .i64 aW,.int .i64 aV,.int .i64 aX]) (t:=78) ?hr ?_;(case hd =>rfl);(case hg =>rfl);(case hr =>first | (go_simp;done) | (go_simp;rfl));intro aK hg w10 hbox hb;have aZ:=a0A.mk (a0H (by repeat (first | (with_reducible first | exact HB.out | apply a0D | apply a0B | apply a0E) | exact HB.out)) hb);have bB:=a0A.mk (hbox);have bI:=a0A.mk ((by rw [hg];exact (a0V (by repeat (first | (with_reducible first | exact HB.out | apply a0D | apply a0B | apply a0E) | exact HB.out))):w.heap.size≤aK));have bQ:=a0A.mk ((by rw [hg];exact (a0V (by repeat (first | (with_reducible first | exact HB.out | apply a0D | apply a0B | apply a0E) | exact HB.out))):w.heap.size≤aK));clear HB;have HB:=aZ;have aC:=bB;have GW113:=bI;have bH:=bQ;clear aZ bB bI bQ;clear hb hbox hg;have lO:w10.cell? ⟨aK,0,none⟩ = some (.slice bA aH.length aY):=(a0G aC.out 0).trans rfl;have lP:w10.cell? ⟨aK,1,none⟩ = some (.int .i64 aA):=(a0G aC.out 1).trans rfl;have lQ:w10.cell? ⟨aK,2,none⟩ = some (.int .i64 aJ):=(a0G aC.out 2).trans rfl;have lR:w10.cell? ⟨aK,3,none⟩ = some (.int .i64 aW):=(a0G aC.out 3).trans rfl;have lS:w10.cell? ⟨aK,4,none⟩ = some (.int .i64 aV):=(a0G aC.out 4).trans rfl;have lT:w10.cell? ⟨aK,5,none⟩ = some (.int .i64 aX):=(a0G aC.out 5).trans rfl;have lU:=a0F aC.out 0;have lV:=a0F aC.out 1;have lW:=a0F aC.out 2;have lX:=a0F aC.out 3;have lY:=a0F aC.out 4;have lZ:=a0F aC.out 5) | ((with_reducible refine a1H (f:=50) rfl ?_);refine a2G (some 6) rfl rfl Try.func50 (by kernel_rfl) rfl #[.agg #[.slice bA aH.length aY,.int .i64 aA,.int .i64 aJ,.int .i64 aW,.int .i64 aV,.int .i64 aX]] rfl (by (try simp only [List.map_toArray,List.map_cons,List.map_nil]);first | done | rfl | (simp only [List.length_drop,List.length_take];rfl)) ?_;(with_reducible refine (r02_ok.calls _ _ aH aA aJ aW aV aX true _ ?side1 ?side2 A3.out).mono ?_);(case side1 =>repeat (first | exact (Kd.a0N bF.out HB.out) | (with_reducible refine Kd.a0R ?_ _) | (with_reducible refine Kd.a0Q ?_ _) | (with_reducible refine Kd.a1B ?_)));(case side2 =>exact bP.out);rintro e w12 ⟨rfl,hb⟩;refine ⟨_,rfl,?_⟩;have aZ:=a0A.mk (a0U (g:=aK) (o:=.cells #[.slice bA aH.length aY,.int .i64 aA,.int .i64 aJ,.int .i64 aW,.int .i64 aV,.int .i64 aX] 78 (0,0)) (by (with_reducible repeat (first | refine a0L ?_ _ | refine a0M ?_ | refine a0K ?_ _));exact aC.out) hb);have bB:=a0A.mk (a0H (by repeat (first | (with_reducible first | exact HB.out | apply a0D | apply a0B | apply a0E | refine a0I ?_ bH.out) | exact HB.out)) hb);clear aC;clear HB;have aC:=aZ;have HB:=bB;clear aZ bB;(try clear hb);(try clear hb2);(try clear hk);(try clear hi);have qD:w12.cell? ⟨aK,0,none⟩ = some (.slice bA aH.length aY):=(a0G aC.out 0).trans rfl;have qE:w12.cell? ⟨aK,1,none⟩ = some (.int .i64 aA):=(a0G aC.out 1).trans rfl;have qF:w12.cell? ⟨aK,2,none⟩ = some (.int .i64 aJ):=(a0G aC.out 2).trans rfl;have qG:w12.cell? ⟨aK,3,none⟩ = some (.int .i64 aW):=(a0G aC.out 3).trans rfl;have qH:w12.cell? ⟨aK,4,none⟩ = some (.int .i64 aV):=(a0G aC.out 4).trans rfl;have qI:w12.cell? ⟨aK,5,none⟩ = some (.int .i64 aX):=(a0G aC.out 5).trans rfl;have qJ:=a0F aC.out 0;have qK:=a0F aC.out 1;have qL:=a0F aC.out 2;have qM:=a0F aC.out 3;have qN:=a0F aC.out 4;have qO:=a0F aC.out 5;have p115:0≤(aA:Int):=of_decide_eq_true (by first | (with_reducible assumption) | assumption);have q115:aA < (aH.length:Int):=of_decide_eq_true (by first | (with_reducible assumption) | assumption);obtain ⟨ad115,e115,bK,bM,bN⟩:=a5Z bF.out aA p115 q115;cases e115;replace bK:=a0C HB.out bK;replace bM:=a0C HB.out bM;replace bN:=a0C HB.out bN;replace p115:=eq_true p115;replace q115:=eq_true q115) | (go_at_call 75;(with_reducible refine (r01_Right.calls k ((a1K aH aA).f0) ((a1K aH aA).f1) ((a1K aH aA).f2) true _ A7.out).mono ?_);rintro e w14 ⟨rfl,hb⟩;have aZ:=a0A.mk (a0U (g:=aK) (o:=.cells #[.slice (some ad115) aH.length aY,.int .i64 aA,.int .i64 aJ,.int .i64 aW,.int .i64 aV,.int .i64 aX] 78 (0,0)) (by (with_reducible repeat (first | refine a0L ?_ _ | refine a0M ?_ | refine a0K ?_ _));exact aC.out) hb);have bB:=a0A.mk (a0H (by repeat (first | (with_reducible first | exact HB.out | apply a0D | apply a0B | apply a0E | refine a0I ?_ bH.out) | exact HB.out)) hb);clear aC;clear HB;have aC:=aZ;have HB:=bB;clear aZ bB;(try clear hb);(try clear hb2);(try clear hk);(try clear hi);have mA:w14.cell? ⟨aK,0,none⟩ = some (.slice (some ad115) aH.length aY):=(a0G aC.out 0).trans rfl;have qP:w14.cell? ⟨aK,1,none⟩ = some (.int .i64 aA):=(a0G aC.out 1).trans rfl;have qQ:w14.cell? ⟨aK,2,none⟩ = some (.int .i64 aJ):=(a0G aC.out 2).trans rfl;have qR:w14.cell? ⟨aK,3,none⟩ = some (.int .i64 aW):=(a0G aC.out 3).trans rfl;have qS:w14.cell? ⟨aK,4,none⟩ = some (.int .i64 aV):=(a0G aC.out 4).trans rfl;have qT:w14.cell? ⟨aK,5,none⟩ = some (.int .i64 aX):=(a0G aC.out 5).trans rfl;have mB:=a0F aC.out 0;have qU:=a0F aC.out 1;have qV:=a0F aC.out 2;have qW:=a0F aC.out 3;have qX:=a0F aC.out 4;have qY:=a0F aC.out 5;have p117:0≤(aA:Int):=of_decide_eq_true (by first | (with_reducible assumption) | assumption);have q117:aA < (aH.length:Int):=of_decide_eq_true (by first | (with_reducible assumption) | assumption);obtain ⟨ad117,e117,bX,bY,bZ⟩:=a5Z bF.out aA p117 q117;obtain rfl:ad115 = ad117:=(by injection e117);replace bX:=a0C HB.out bX;replace bY:=a0C HB.out bY;replace bZ:=a0C HB.out bZ;replace p117:=eq_true p117;replace q117:=eq_true q117;have p118:0≤(aA:Int):=of_decide_eq_true (by first | (with_reducible assumption) | assumption);have q118:aA < (aH.length:Int):=of_decide_eq_true (by first | (with_reducible assumption) | assumption);obtain ⟨ad118,e118,fX,fY,fZ⟩:=a5Z bF.out aA p118 q118;obtain rfl:ad115 = ad118:=(by injection e118);replace fX:=a0C HB.out fX;replace fY:=a0C HB.out fY;replace fZ:=a0C HB.out fZ;replace p118:=eq_true p118;replace q118:=eq_true q118))
      go_ret
      exact ⟨by first | rfl | (simp [a0T,a0S] <;> rfl) | (simp [*,a0T,a0S] <;> rfl),by repeat (first | (with_reducible first | exact HB.out | apply a0D | apply a0B | apply a0E | refine a0I ?_ bH.out) | exact HB.out)⟩
     ·rw [if_neg c9] at H
      have c9b0:(((a1K aH aA).f1).toList == a1.toList) = false:=beq_eq_false_iff_ne.mpr c9
      have c9b1:(((a1K aH aA).f1).toList != a1.toList) = true:=bne_iff_ne.mpr c9
      obtain rfl:=Option.some.inj H
      go_enter Try.func61,Try.ntmps61
      go_wp2_with (first | ((with_reducible refine a1C (N:=2) rfl ?_);(try (refine a2Q (by rfl) ?_;dsimp only));refine a1A ?hg (N:=2) ?hd (cs:=#[.slice bA aH.length aY,.int .i64 aA,.int .i64 aJ,.int .i64 aW,.int .i64 aV,.int .i64 aX]) (t:=78) ?hr ?_;(case hd =>rfl);(case hg =>rfl);(case hr =>first | (go_simp;done) | (go_simp;rfl));intro aK hg w16 hbox hb;have aZ:=a0A.mk (a0H (by repeat (first | (with_reducible first | exact HB.out | apply a0D | apply a0B | apply a0E) | exact HB.out)) hb);have bB:=a0A.mk (hbox);have bI:=a0A.mk ((by rw [hg];exact (a0V (by repeat (first | (with_reducible first | exact HB.out | apply a0D | apply a0B | apply a0E) | exact HB.out))):w.heap.size≤aK));have bQ:=a0A.mk ((by rw [hg];exact (a0V (by repeat (first | (with_reducible first | exact HB.out | apply a0D | apply a0B | apply a0E) | exact HB.out))):w.heap.size≤aK));clear HB;have HB:=aZ;have aC:=bB;have GW113:=bI;have bH:=bQ;clear aZ bB bI bQ;clear hb hbox hg;have qZ:w16.cell? ⟨aK,0,none⟩ = some (.slice bA aH.length aY):=(a0G aC.out 0).trans rfl;have rA:w16.cell? ⟨aK,1,none⟩ = some (.int .i64 aA):=(a0G aC.out 1).trans rfl;have rB:w16.cell? ⟨aK,2,none⟩ = some (.int .i64 aJ):=(a0G aC.out 2).trans rfl;have rC:w16.cell? ⟨aK,3,none⟩ = some (.int .i64 aW):=(a0G aC.out 3).trans rfl;have rD:w16.cell? ⟨aK,4,none⟩ = some (.int .i64 aV):=(a0G aC.out 4).trans rfl;have rE:w16.cell? ⟨aK,5,none⟩ = some (.int .i64 aX):=(a0G aC.out 5).trans rfl;have rF:=a0F aC.out 0;have rG:=a0F aC.out 1;have rH:=a0F aC.out 2;have rI:=a0F aC.out 3;have rJ:=a0F aC.out 4;have rK:=a0F aC.out 5) | ((with_reducible refine a1H (f:=50) rfl ?_);refine a2G (some 6) rfl rfl Try.func50 (by kernel_rfl) rfl #[.agg #[.slice bA aH.length aY,.int .i64 aA,.int .i64 aJ,.int .i64 aW,.int .i64 aV,.int .i64 aX]] rfl (by (try simp only [List.map_toArray,List.map_cons,List.map_nil]);first | done | rfl | (simp only [List.length_drop,List.length_take];rfl)) ?_;(with_reducible refine (r02_ok.calls _ _ aH aA aJ aW aV aX true _ ?side1 ?side2 A3.out).mono ?_);(case side1 =>repeat (first | exact (Kd.a0N bF.out HB.out) | (with_reducible refine Kd.a0R ?_ _) | (with_reducible refine Kd.a0Q ?_ _) | (with_reducible refine Kd.a1B ?_)));(case side2 =>exact bP.out);rintro e w18 ⟨rfl,hb⟩;refine ⟨_,rfl,?_⟩;have aZ:=a0A.mk (a0U (g:=aK) (o:=.cells #[.slice bA aH.length aY,.int .i64 aA,.int .i64 aJ,.int .i64 aW,.int .i64 aV,.int .i64 aX] 78 (0,0)) (by (with_reducible repeat (first | refine a0L ?_ _ | refine a0M ?_ | refine a0K ?_ _));exact aC.out) hb);have bB:=a0A.mk (a0H (by repeat (first | (with_reducible first | exact HB.out | apply a0D | apply a0B | apply a0E | refine a0I ?_ bH.out) | exact HB.out)) hb);clear aC;clear HB;have aC:=aZ;have HB:=bB;clear aZ bB;(try clear hb);(try clear hb2);(try clear hk);(try clear hi);have rL:w18.cell? ⟨aK,0,none⟩ = some (.slice bA aH.length aY):=(a0G aC.out 0).trans rfl;have rM:w18.cell? ⟨aK,1,none⟩ = some (.int .i64 aA):=(a0G aC.out 1).trans rfl;have rN:w18.cell? ⟨aK,2,none⟩ = some (.int .i64 aJ):=(a0G aC.out 2).trans rfl;have rO:w18.cell? ⟨aK,3,none⟩ = some (.int .i64 aW):=(a0G aC.out 3).trans rfl;have rP:w18.cell? ⟨aK,4,none⟩ = some (.int .i64 aV):=(a0G aC.out 4).trans rfl;have rQ:w18.cell? ⟨aK,5,none⟩ = some (.int .i64 aX):=(a0G aC.out 5).trans rfl;have rR:=a0F aC.out 0;have rS:=a0F aC.out 1;have rT:=a0F aC.out 2;have rU:=a0F aC.out 3;have rV:=a0F aC.out 4;have rW:=a0F aC.out 5;have p115:0≤(aA:Int):=of_decide_eq_true (by first | (with_reducible assumption) | assumption);have q115:aA < (aH.length:Int):=of_decide_eq_true (by first | (with_reducible assumption) | assumption);obtain ⟨ad115,e115,bK,bM,bN⟩:=a5Z bF.out aA p115 q115;cases e115;replace bK:=a0C HB.out bK;replace bM:=a0C HB.out bM;replace bN:=a0C HB.out bN;replace p115:=eq_true p115;replace q115:=eq_true q115) | (go_at_call 75;(with_reducible refine (r01_Right.calls k ((a1K aH aA).f0) ((a1K aH aA).f1) ((a1K aH aA).f2) true _ A7.out).mono ?_);rintro e w20 ⟨rfl,hb⟩;have aZ:=a0A.mk (a0U (g:=aK) (o:=.cells #[.slice (some ad115) aH.length aY,.int .i64 aA,.int .i64 aJ,.int .i64 aW,.int .i64 aV,.int .i64 aX] 78 (0,0)) (by (with_reducible repeat (first | refine a0L ?_ _ | refine a0M ?_ | refine a0K ?_ _));exact aC.out) hb);have bB:=a0A.mk (a0H (by repeat (first | (with_reducible first | exact HB.out | apply a0D | apply a0B | apply a0E | refine a0I ?_ bH.out) | exact HB.out)) hb);clear aC;clear HB;have aC:=aZ;have HB:=bB;clear aZ bB;(try clear hb);(try clear hb2);(try clear hk);(try clear hi);have kG:w20.cell? ⟨aK,0,none⟩ = some (.slice (some ad115) aH.length aY):=(a0G aC.out 0).trans rfl;have kH:w20.cell? ⟨aK,1,none⟩ = some (.int .i64 aA):=(a0G aC.out 1).trans rfl;have kI:w20.cell? ⟨aK,2,none⟩ = some (.int .i64 aJ):=(a0G aC.out 2).trans rfl;have rX:w20.cell? ⟨aK,3,none⟩ = some (.int .i64 aW):=(a0G aC.out 3).trans rfl;have rY:w20.cell? ⟨aK,4,none⟩ = some (.int .i64 aV):=(a0G aC.out 4).trans rfl;have rZ:w20.cell? ⟨aK,5,none⟩ = some (.int .i64 aX):=(a0G aC.out 5).trans rfl;have kJ:=a0F aC.out 0;have kK:=a0F aC.out 1;have kL:=a0F aC.out 2;have sA:=a0F aC.out 3;have sB:=a0F aC.out 4;have sC:=a0F aC.out 5;have p117:0≤(aA:Int):=of_decide_eq_true (by first | (with_reducible assumption) | assumption);have q117:aA < (aH.length:Int):=of_decide_eq_true (by first | (with_reducible assumption) | assumption);obtain ⟨ad117,e117,bX,bY,bZ⟩:=a5Z bF.out aA p117 q117;obtain rfl:ad115 = ad117:=(by injection e117);replace bX:=a0C HB.out bX;replace bY:=a0C HB.out bY;replace bZ:=a0C HB.out bZ;replace p117:=eq_true p117;replace q117:=eq_true q117))
      go_ret
      exact ⟨by first | rfl | (simp [a0T,a0S] <;> rfl) | (simp [*,a0T,a0S] <;> rfl),by repeat (first | (with_reducible first | exact HB.out | apply a0D | apply a0B | apply a0E | refine a0I ?_ bH.out) | exact HB.out)⟩
    ·replace c8:=Bool.eq_false_iff.mpr c8
     subst c8
     have H1:(some false) = some r:=by rw [if_neg (show ¬ (false = true) by decide)] at H;exact H
     clear H
     have H:=H1
     clear H1
     obtain rfl:=Option.some.inj H
     go_enter Try.func61,Try.ntmps61
     go_wp2_with (first | ((with_reducible refine a1C (N:=2) rfl ?_);(try (refine a2Q (by rfl) ?_;dsimp only));refine a1A ?hg (N:=2) ?hd (cs:=#[.slice bA aH.length aY,.int .i64 aA,.int .i64 aJ,.int .i64 aW,.int .i64 aV,.int .i64 aX]) (t:=78) ?hr ?_;(case hd =>rfl);(case hg =>rfl);(case hr =>first | (go_simp;done) | (go_simp;rfl));intro aK hg w22 hbox hb;have aZ:=a0A.mk (a0H (by repeat (first | (with_reducible first | exact HB.out | apply a0D | apply a0B | apply a0E) | exact HB.out)) hb);have bB:=a0A.mk (hbox);have bI:=a0A.mk ((by rw [hg];exact (a0V (by repeat (first | (with_reducible first | exact HB.out | apply a0D | apply a0B | apply a0E) | exact HB.out))):w.heap.size≤aK));have bQ:=a0A.mk ((by rw [hg];exact (a0V (by repeat (first | (with_reducible first | exact HB.out | apply a0D | apply a0B | apply a0E) | exact HB.out))):w.heap.size≤aK));clear HB;have HB:=aZ;have aC:=bB;have GW113:=bI;have bH:=bQ;clear aZ bB bI bQ;clear hb hbox hg;have kS:w22.cell? ⟨aK,0,none⟩ = some (.slice bA aH.length aY):=(a0G aC.out 0).trans rfl;have kT:w22.cell? ⟨aK,1,none⟩ = some (.int .i64 aA):=(a0G aC.out 1).trans rfl;have kU:w22.cell? ⟨aK,2,none⟩ = some (.int .i64 aJ):=(a0G aC.out 2).trans rfl;have sD:w22.cell? ⟨aK,3,none⟩ = some (.int .i64 aW):=(a0G aC.out 3).trans rfl;have sE:w22.cell? ⟨aK,4,none⟩ = some (.int .i64 aV):=(a0G aC.out 4).trans rfl;have sF:w22.cell? ⟨aK,5,none⟩ = some (.int .i64 aX):=(a0G aC.out 5).trans rfl;have kV:=a0F aC.out 0;have kW:=a0F aC.out 1;have kX:=a0F aC.out 2;have sG:=a0F aC.out 3;have sH:=a0F aC.out 4;have sI:=a0F aC.out 5) | ((with_reducible refine a1H (f:=50) rfl ?_);refine a2G (some 6) rfl rfl Try.func50 (by kernel_rfl) rfl #[.agg #[.slice bA aH.length aY,.int .i64 aA,.int .i64 aJ,.int .i64 aW,.int .i64 aV,.int .i64 aX]] rfl (by (try simp only [List.map_toArray,List.map_cons,List.map_nil]);first | done | rfl | (simp only [List.length_drop,List.length_take];rfl)) ?_;(with_reducible refine (r02_ok.calls _ _ aH aA aJ aW aV aX true _ ?side1 ?side2 A3.out).mono ?_);(case side1 =>repeat (first | exact (Kd.a0N bF.out HB.out) | (with_reducible refine Kd.a0R ?_ _) | (with_reducible refine Kd.a0Q ?_ _) | (with_reducible refine Kd.a1B ?_)));(case side2 =>exact bP.out);rintro e w24 ⟨rfl,hb⟩;refine ⟨_,rfl,?_⟩;have aZ:=a0A.mk (a0U (g:=aK) (o:=.cells #[.slice bA aH.length aY,.int .i64 aA,.int .i64 aJ,.int .i64 aW,.int .i64 aV,.int .i64 aX] 78 (0,0)) (by (with_reducible repeat (first | refine a0L ?_ _ | refine a0M ?_ | refine a0K ?_ _));exact aC.out) hb);have bB:=a0A.mk (a0H (by repeat (first | (with_reducible first | exact HB.out | apply a0D | apply a0B | apply a0E | refine a0I ?_ bH.out) | exact HB.out)) hb);clear aC;clear HB;have aC:=aZ;have HB:=bB;clear aZ bB;(try clear hb);(try clear hb2);(try clear hk);(try clear hi);have sJ:w24.cell? ⟨aK,0,none⟩ = some (.slice bA aH.length aY):=(a0G aC.out 0).trans rfl;have sK:w24.cell? ⟨aK,1,none⟩ = some (.int .i64 aA):=(a0G aC.out 1).trans rfl;have sL:w24.cell? ⟨aK,2,none⟩ = some (.int .i64 aJ):=(a0G aC.out 2).trans rfl;have sM:w24.cell? ⟨aK,3,none⟩ = some (.int .i64 aW):=(a0G aC.out 3).trans rfl;have sN:w24.cell? ⟨aK,4,none⟩ = some (.int .i64 aV):=(a0G aC.out 4).trans rfl;have sO:w24.cell? ⟨aK,5,none⟩ = some (.int .i64 aX):=(a0G aC.out 5).trans rfl;have sP:=a0F aC.out 0;have sQ:=a0F aC.out 1;have sR:=a0F aC.out 2;have sS:=a0F aC.out 3;have sT:=a0F aC.out 4;have sU:=a0F aC.out 5;have p115:0≤(aA:Int):=of_decide_eq_true (by first | (with_reducible assumption) | assumption);have q115:aA < (aH.length:Int):=of_decide_eq_true (by first | (with_reducible assumption) | assumption);obtain ⟨ad115,e115,bK,bM,bN⟩:=a5Z bF.out aA p115 q115;cases e115;replace bK:=a0C HB.out bK;replace bM:=a0C HB.out bM;replace bN:=a0C HB.out bN;replace p115:=eq_true p115;replace q115:=eq_true q115) | (go_at_call 75;(with_reducible refine (r01_Right.calls k ((a1K aH aA).f0) ((a1K aH aA).f1) ((a1K aH aA).f2) false _ A7.out).mono ?_);rintro e w26 ⟨rfl,hb⟩;have aZ:=a0A.mk (a0U (g:=aK) (o:=.cells #[.slice (some ad115) aH.length aY,.int .i64 aA,.int .i64 aJ,.int .i64 aW,.int .i64 aV,.int .i64 aX] 78 (0,0)) (by (with_reducible repeat (first | refine a0L ?_ _ | refine a0M ?_ | refine a0K ?_ _));exact aC.out) hb);have bB:=a0A.mk (a0H (by repeat (first | (with_reducible first | exact HB.out | apply a0D | apply a0B | apply a0E | refine a0I ?_ bH.out) | exact HB.out)) hb);clear aC;clear HB;have aC:=aZ;have HB:=bB;clear aZ bB;(try clear hb);(try clear hb2);(try clear hk);(try clear hi)))
     go_ret
     exact ⟨by first | rfl | (simp [a0T,a0S] <;> rfl) | (simp [*,a0T,a0S] <;> rfl),by repeat (first | (with_reducible first | exact HB.out | apply a0D | apply a0B | apply a0E | refine a0I ?_ bH.out) | exact HB.out)⟩
   ·rw [if_neg c6] at H
    exact absurd H (by simp)
  ·rw [if_neg c5] at H
   have c5b0:decide (aA < (aH.length:Int)) = false:=decide_eq_false c5
   clear c5
   obtain rfl:=Option.some.inj H
   go_enter Try.func61,Try.ntmps61
   go_wp2_with (first | ((with_reducible refine a1C (N:=2) rfl ?_);(try (refine a2Q (by rfl) ?_;dsimp only));refine a1A ?hg (N:=2) ?hd (cs:=#[.slice bA aH.length aY,.int .i64 aA,.int .i64 aJ,.int .i64 aW,.int .i64 aV,.int .i64 aX]) (t:=78) ?hr ?_;(case hd =>rfl);(case hg =>rfl);(case hr =>first | (go_simp;done) | (go_simp;rfl));intro aK hg w27 hbox hb;have aZ:=a0A.mk (a0H (by repeat (first | (with_reducible first | exact HB.out | apply a0D | apply a0B | apply a0E) | exact HB.out)) hb);have bB:=a0A.mk (hbox);have bI:=a0A.mk ((by rw [hg];exact (a0V (by repeat (first | (with_reducible first | exact HB.out | apply a0D | apply a0B | apply a0E) | exact HB.out))):w.heap.size≤aK));have bQ:=a0A.mk ((by rw [hg];exact (a0V (by repeat (first | (with_reducible first | exact HB.out | apply a0D | apply a0B | apply a0E) | exact HB.out))):w.heap.size≤aK));clear HB;have HB:=aZ;have aC:=bB;have GW113:=bI;have bH:=bQ;clear aZ bB bI bQ;clear hb hbox hg;have kY:w27.cell? ⟨aK,0,none⟩ = some (.slice bA aH.length aY):=(a0G aC.out 0).trans rfl;have kZ:w27.cell? ⟨aK,1,none⟩ = some (.int .i64 aA):=(a0G aC.out 1).trans rfl;have lA:w27.cell? ⟨aK,2,none⟩ = some (.int .i64 aJ):=(a0G aC.out 2).trans rfl;have sV:w27.cell? ⟨aK,3,none⟩ = some (.int .i64 aW):=(a0G aC.out 3).trans rfl;have sW:w27.cell? ⟨aK,4,none⟩ = some (.int .i64 aV):=(a0G aC.out 4).trans rfl;have sX:w27.cell? ⟨aK,5,none⟩ = some (.int .i64 aX):=(a0G aC.out 5).trans rfl;have lB:=a0F aC.out 0;have lC:=a0F aC.out 1;have lD:=a0F aC.out 2;have sY:=a0F aC.out 3;have sZ:=a0F aC.out 4;have tA:=a0F aC.out 5) | ((with_reducible refine a1H (f:=50) rfl ?_);refine a2G (some 6) rfl rfl Try.func50 (by kernel_rfl) rfl #[.agg #[.slice bA aH.length aY,.int .i64 aA,.int .i64 aJ,.int .i64 aW,.int .i64 aV,.int .i64 aX]] rfl (by (try simp only [List.map_toArray,List.map_cons,List.map_nil]);first | done | rfl | (simp only [List.length_drop,List.length_take];rfl)) ?_;(with_reducible refine (r02_ok.calls _ _ aH aA aJ aW aV aX true _ ?side1 ?side2 A3.out).mono ?_);(case side1 =>repeat (first | exact (Kd.a0N bF.out HB.out) | (with_reducible refine Kd.a0R ?_ _) | (with_reducible refine Kd.a0Q ?_ _) | (with_reducible refine Kd.a1B ?_)));(case side2 =>exact bP.out);rintro e w29 ⟨rfl,hb⟩;refine ⟨_,rfl,?_⟩;have aZ:=a0A.mk (a0U (g:=aK) (o:=.cells #[.slice bA aH.length aY,.int .i64 aA,.int .i64 aJ,.int .i64 aW,.int .i64 aV,.int .i64 aX] 78 (0,0)) (by (with_reducible repeat (first | refine a0L ?_ _ | refine a0M ?_ | refine a0K ?_ _));exact aC.out) hb);have bB:=a0A.mk (a0H (by repeat (first | (with_reducible first | exact HB.out | apply a0D | apply a0B | apply a0E | refine a0I ?_ bH.out) | exact HB.out)) hb);clear aC;clear HB;have aC:=aZ;have HB:=bB;clear aZ bB;(try clear hb);(try clear hb2);(try clear hk);(try clear hi);have lE:w29.cell? ⟨aK,0,none⟩ = some (.slice bA aH.length aY):=(a0G aC.out 0).trans rfl;have lF:w29.cell? ⟨aK,1,none⟩ = some (.int .i64 aA):=(a0G aC.out 1).trans rfl;have lG:w29.cell? ⟨aK,2,none⟩ = some (.int .i64 aJ):=(a0G aC.out 2).trans rfl;have tB:w29.cell? ⟨aK,3,none⟩ = some (.int .i64 aW):=(a0G aC.out 3).trans rfl;have tC:w29.cell? ⟨aK,4,none⟩ = some (.int .i64 aV):=(a0G aC.out 4).trans rfl;have tD:w29.cell? ⟨aK,5,none⟩ = some (.int .i64 aX):=(a0G aC.out 5).trans rfl;have lH:=a0F aC.out 0;have lI:=a0F aC.out 1;have lJ:=a0F aC.out 2;have tE:=a0F aC.out 3;have tF:=a0F aC.out 4;have tG:=a0F aC.out 5))
   go_ret
   exact ⟨by first | rfl | (simp [a0T,a0S] <;> rfl) | (simp [*,a0T,a0S] <;> rfl),by repeat (first | (with_reducible first | exact HB.out | apply a0D | apply a0B | apply a0E | refine a0I ?_ bH.out) | exact HB.out)⟩
 ·replace c4:=Bool.eq_false_iff.mpr c4
  subst c4
  have H1:(some false) = some r:=by rw [if_neg (show ¬ (false = true) by decide)] at H;exact H
  clear H
  have H:=H1
  clear H1
  obtain rfl:=Option.some.inj H
  go_enter Try.func61,Try.ntmps61
  go_wp2_with (first | ((with_reducible refine a1C (N:=2) rfl ?_);(try (refine a2Q (by rfl) ?_;dsimp only));refine a1A ?hg (N:=2) ?hd (cs:=#[.slice bA aH.length aY,.int .i64 aA,.int .i64 aJ,.int .i64 aW,.int .i64 aV,.int .i64 aX]) (t:=78) ?hr ?_;(case hd =>rfl);(case hg =>rfl);(case hr =>first | (go_simp;done) | (go_simp;rfl));intro aK hg w31 hbox hb;have aZ:=a0A.mk (a0H (by repeat (first | (with_reducible first | exact HB.out | apply a0D | apply a0B | apply a0E) | exact HB.out)) hb);have bB:=a0A.mk (hbox);have bI:=a0A.mk ((by rw [hg];exact (a0V (by repeat (first | (with_reducible first | exact HB.out | apply a0D | apply a0B | apply a0E) | exact HB.out))):w.heap.size≤aK));have bQ:=a0A.mk ((by rw [hg];exact (a0V (by repeat (first | (with_reducible first | exact HB.out | apply a0D | apply a0B | apply a0E) | exact HB.out))):w.heap.size≤aK));clear HB;have HB:=aZ;have aC:=bB;have GW113:=bI;have bH:=bQ;clear aZ bB bI bQ;clear hb hbox hg;have tH:w31.cell? ⟨aK,0,none⟩ = some (.slice bA aH.length aY):=(a0G aC.out 0).trans rfl;have tI:w31.cell? ⟨aK,1,none⟩ = some (.int .i64 aA):=(a0G aC.out 1).trans rfl;have tJ:w31.cell? ⟨aK,2,none⟩ = some (.int .i64 aJ):=(a0G aC.out 2).trans rfl;have tK:w31.cell? ⟨aK,3,none⟩ = some (.int .i64 aW):=(a0G aC.out 3).trans rfl;have tL:w31.cell? ⟨aK,4,none⟩ = some (.int .i64 aV):=(a0G aC.out 4).trans rfl;have tM:w31.cell? ⟨aK,5,none⟩ = some (.int .i64 aX):=(a0G aC.out 5).trans rfl;have tN:=a0F aC.out 0;have tO:=a0F aC.out 1;have tP:=a0F aC.out 2;have tQ:=a0F aC.out 3;have tR:=a0F aC.out 4;have tS:=a0F aC.out 5) | ((with_reducible refine a1H (f:=50) rfl ?_);refine a2G (some 6) rfl rfl Try.func50 (by kernel_rfl) rfl #[.agg #[.slice bA aH.length aY,.int .i64 aA,.int .i64 aJ,.int .i64 aW,.int .i64 aV,.int .i64 aX]] rfl (by (try simp only [List.map_toArray,List.map_cons,List.map_nil]);first | done | rfl | (simp only [List.length_drop,List.length_take];rfl)) ?_;(with_reducible refine (r02_ok.calls _ _ aH aA aJ aW aV aX false _ ?side1 ?side2 A3.out).mono ?_);(case side1 =>repeat (first | exact (Kd.a0N bF.out HB.out) | (with_reducible refine Kd.a0R ?_ _) | (with_reducible refine Kd.a0Q ?_ _) | (with_reducible refine Kd.a1B ?_)));(case side2 =>exact bP.out);rintro e w33 ⟨rfl,hb⟩;refine ⟨_,rfl,?_⟩;have aZ:=a0A.mk (a0U (g:=aK) (o:=.cells #[.slice bA aH.length aY,.int .i64 aA,.int .i64 aJ,.int .i64 aW,.int .i64 aV,.int .i64 aX] 78 (0,0)) (by (with_reducible repeat (first | refine a0L ?_ _ | refine a0M ?_ | refine a0K ?_ _));exact aC.out) hb);have bB:=a0A.mk (a0H (by repeat (first | (with_reducible first | exact HB.out | apply a0D | apply a0B | apply a0E | refine a0I ?_ bH.out) | exact HB.out)) hb);clear aC;clear HB;have aC:=aZ;have HB:=bB;clear aZ bB;(try clear hb);(try clear hb2);(try clear hk);(try clear hi)))
  go_ret
  exact ⟨by first | rfl | (simp [a0T,a0S] <;> rfl) | (simp [*,a0T,a0S] <;> rfl),by repeat (first | (with_reducible first | exact HB.out | apply a0D | apply a0B | apply a0E | refine a0I ?_ bH.out) | exact HB.out)⟩
def r02_Keyword.l0:Nat→ByteArray→List ByteArray→Int→Option (Bool)
 | 0,_,_,_ =>none
 | k + 1,x0,x3,x4 =>if x4 < (x3.length:Int) then (if 0≤x4 then (if (rdOf ByteArray.empty x3 x4).toList = x0.toList then (some true) else (r02_Keyword.l0 k x0 x3 (wrap64 (x4 + 1)))) else (none)) else (some false)
def r02_Keyword.f (k:Nat) (a0:ByteArray):Option (Bool):=r02_Keyword.l0 k a0 (([(⟨#[102,117,110]⟩:ByteArray),(⟨#[111,117,116]⟩:ByteArray),(⟨#[114,101,116,117,114,110]⟩:ByteArray),(⟨#[105,102]⟩:ByteArray),(⟨#[101,108,115,101]⟩:ByteArray),(⟨#[119,104,105,108,101]⟩:ByteArray),(⟨#[110,101,119]⟩:ByteArray),(⟨#[112,114,111,116,111]⟩:ByteArray),(⟨#[99,97,108,108]⟩:ByteArray),(⟨#[105,110]⟩:ByteArray),(⟨#[110,117,108,108]⟩:ByteArray),(⟨#[116,114,117,101]⟩:ByteArray),(⟨#[102,97,108,115,101]⟩:ByteArray)]:List ByteArray)) 0
set_option maxHeartbeats 8000000 in
set_option maxRecDepth 100000 in
theorem r02_Keyword.calls (k:Nat) (a0:ByteArray) (r:Bool) (w:World) (h:r02_Keyword.f k a0 = some r) :
    Calls Try.prog 84 #[.string a0] w fun e w' =>e = .returned (.bool r)∧Below w.heap.size w w':=by
 have HB:=a0A.mk (Below.refl w.heap.size w)
 have H:(r02_Keyword.l0 k a0 (([(⟨#[102,117,110]⟩:ByteArray),(⟨#[111,117,116]⟩:ByteArray),(⟨#[114,101,116,117,114,110]⟩:ByteArray),(⟨#[105,102]⟩:ByteArray),(⟨#[101,108,115,101]⟩:ByteArray),(⟨#[119,104,105,108,101]⟩:ByteArray),(⟨#[110,101,119]⟩:ByteArray),(⟨#[112,114,111,116,111]⟩:ByteArray),(⟨#[99,97,108,108]⟩:ByteArray),(⟨#[105,110]⟩:ByteArray),(⟨#[110,117,108,108]⟩:ByteArray),(⟨#[116,114,117,101]⟩:ByteArray),(⟨#[102,97,108,115,101]⟩:ByteArray)]:List ByteArray)) 0) = some r:=h
 clear h
 obtain ⟨y119,hy119⟩:∃ y_:List ByteArray,y_ = (([(⟨#[102,117,110]⟩:ByteArray),(⟨#[111,117,116]⟩:ByteArray),(⟨#[114,101,116,117,114,110]⟩:ByteArray),(⟨#[105,102]⟩:ByteArray),(⟨#[101,108,115,101]⟩:ByteArray),(⟨#[119,104,105,108,101]⟩:ByteArray),(⟨#[110,101,119]⟩:ByteArray),(⟨#[112,114,111,116,111]⟩:ByteArray),(⟨#[99,97,108,108]⟩:ByteArray),(⟨#[105,110]⟩:ByteArray),(⟨#[110,117,108,108]⟩:ByteArray),(⟨#[116,114,117,101]⟩:ByteArray),(⟨#[102,97,108,115,101]⟩:ByteArray)]:List ByteArray)):=⟨_,rfl⟩
 replace H:(r02_Keyword.l0 k a0 y119 0) = some r:=by first | (rw [hy119];with_reducible exact H) | (have H2_:=(Option.bind_some _ _).symm.trans H;rw [hy119];with_reducible exact H2_) | (have H2_:=(Option.bind_some _ _).symm.trans H;with_reducible exact H2_) | with_reducible exact H | (rw [hy119];exact H) | exact H
 have Ny119:=a0A.mk hy119
 clear hy119
 have H':=a0A.mk H
 clear H
 go_enter Try.func84,Try.ntmps84
 go_wp2_with (first | ((with_reducible refine a1C (N:=5) rfl ?_);refine Kd.b4F Kd.string _ 9 ?hg (N:=5) ?hd (xs:=([(⟨#[102,117,110]⟩:ByteArray),(⟨#[111,117,116]⟩:ByteArray),(⟨#[114,101,116,117,114,110]⟩:ByteArray),(⟨#[105,102]⟩:ByteArray),(⟨#[101,108,115,101]⟩:ByteArray),(⟨#[119,104,105,108,101]⟩:ByteArray),(⟨#[110,101,119]⟩:ByteArray),(⟨#[112,114,111,116,111]⟩:ByteArray),(⟨#[99,97,108,108]⟩:ByteArray),(⟨#[105,110]⟩:ByteArray),(⟨#[110,117,108,108]⟩:ByteArray),(⟨#[116,114,117,101]⟩:ByteArray),(⟨#[102,97,108,115,101]⟩:ByteArray)]:List ByteArray)) (inner:=[.string (⟨#[102,117,110]⟩:ByteArray),.string (⟨#[111,117,116]⟩:ByteArray),.string (⟨#[114,101,116,117,114,110]⟩:ByteArray),.string (⟨#[105,102]⟩:ByteArray),.string (⟨#[101,108,115,101]⟩:ByteArray),.string (⟨#[119,104,105,108,101]⟩:ByteArray),.string (⟨#[110,101,119]⟩:ByteArray),.string (⟨#[112,114,111,116,111]⟩:ByteArray),.string (⟨#[99,97,108,108]⟩:ByteArray),.string (⟨#[105,110]⟩:ByteArray),.string (⟨#[110,117,108,108]⟩:ByteArray),.string (⟨#[116,114,117,101]⟩:ByteArray),.string (⟨#[102,97,108,115,101]⟩:ByteArray)]) (ok:=fun _ =>True) (okp:=fun _ =>True) ?hr ?hp (fun _ hk =>hk) trivial (Below.refl _ _) (Nat.le_refl _) (by simp) ?_;(case hd =>rfl);(case hg =>rfl);(case hr =>first | (go_simp;done) | (go_simp;rfl));(case hp =>exact (Reps.one (show Kd.M Kd.string _ _ _ (⟨#[102,117,110]⟩:ByteArray) [.string (⟨#[102,117,110]⟩:ByteArray)] from rfl) (Reps.one (show Kd.M Kd.string _ _ _ (⟨#[111,117,116]⟩:ByteArray) [.string (⟨#[111,117,116]⟩:ByteArray)] from rfl) (Reps.one (show Kd.M Kd.string _ _ _ (⟨#[114,101,116,117,114,110]⟩:ByteArray) [.string (⟨#[114,101,116,117,114,110]⟩:ByteArray)] from rfl) (Reps.one (show Kd.M Kd.string _ _ _ (⟨#[105,102]⟩:ByteArray) [.string (⟨#[105,102]⟩:ByteArray)] from rfl) (Reps.one (show Kd.M Kd.string _ _ _ (⟨#[101,108,115,101]⟩:ByteArray) [.string (⟨#[101,108,115,101]⟩:ByteArray)] from rfl) (Reps.one (show Kd.M Kd.string _ _ _ (⟨#[119,104,105,108,101]⟩:ByteArray) [.string (⟨#[119,104,105,108,101]⟩:ByteArray)] from rfl) (Reps.one (show Kd.M Kd.string _ _ _ (⟨#[110,101,119]⟩:ByteArray) [.string (⟨#[110,101,119]⟩:ByteArray)] from rfl) (Reps.one (show Kd.M Kd.string _ _ _ (⟨#[112,114,111,116,111]⟩:ByteArray) [.string (⟨#[112,114,111,116,111]⟩:ByteArray)] from rfl) (Reps.one (show Kd.M Kd.string _ _ _ (⟨#[99,97,108,108]⟩:ByteArray) [.string (⟨#[99,97,108,108]⟩:ByteArray)] from rfl) (Reps.one (show Kd.M Kd.string _ _ _ (⟨#[105,110]⟩:ByteArray) [.string (⟨#[105,110]⟩:ByteArray)] from rfl) (Reps.one (show Kd.M Kd.string _ _ _ (⟨#[110,117,108,108]⟩:ByteArray) [.string (⟨#[110,117,108,108]⟩:ByteArray)] from rfl) (Reps.one (show Kd.M Kd.string _ _ _ (⟨#[116,114,117,101]⟩:ByteArray) [.string (⟨#[116,114,117,101]⟩:ByteArray)] from rfl) (Reps.one (show Kd.M Kd.string _ _ _ (⟨#[102,97,108,115,101]⟩:ByteArray) [.string (⟨#[102,97,108,115,101]⟩:ByteArray)] from rfl) (Reps.none _ _)))))))))))))));intro v120 w2 ho3 hb hg_ hnew_;clear hg_ hnew_;(first | rw [← Ny119.out] at ho3 | (simp only [Int.reduceToNat] at ho3;rw [← Ny119.out] at ho3));have aZ:=a0A.mk (Kd.a2Y ho3 (a0V (by repeat (first | (with_reducible first | exact HB.out | apply a0D | apply a0B | apply a0E) | exact HB.out))));have bB:=a0A.mk (a0H (by repeat (first | (with_reducible first | exact HB.out | apply a0D | apply a0B | apply a0E) | exact HB.out)) hb);clear HB;have HO121:=aZ;have HB:=bB;clear aZ bB;clear hb ho3))
 go_loopg [4] k (fun kq v4 w' =>∃ (aG:Int),v4 = .int .i64 aG∧a0A (r02_Keyword.l0 kq a0 y119 aG = some r)∧a0A (kq≤k)∧a0A (Kd.R Kd.string 9 w' w.heap.size (fun _ =>True) v120 y119)∧a0A (Below w.heap.size w w'))
 case atStart =>exact ⟨(0),(by first | rfl | (simp;done) | (simp [*];done)),H',⟨Nat.le_refl _⟩,⟨by (with_reducible repeat (first | apply Kd.a1N | apply Kd.a1M | apply Kd.a1S));exact HO121.out⟩,⟨by repeat (first | (with_reducible first | exact HB.out | apply a0D | apply a0B | apply a0E) | exact HB.out)⟩⟩
 case round =>
  clear H'
  try clear p2
  obtain ⟨aG,rfl,HA,HK1,jD,HB⟩:=hrel
  cases gk with
  | zero =>exact absurd HA.out (by simp [r02_Keyword.l0])
  | succ k1 =>
   have H:=HA.out
   clear HA
   simp only [r02_Keyword.l0] at H
   by_cases c4:aG < (y119.length:Int)
   ·rw [if_pos c4] at H
    have c4b0:decide (aG < (y119.length:Int)) = true:=decide_eq_true c4
    clear c4
    by_cases c5:0≤aG
    ·rw [if_pos c5] at H
     have c5b0:decide (0≤aG) = true:=decide_eq_true c5
     clear c5
     by_cases c6:(rdOf ByteArray.empty y119 aG).toList = a0.toList
     ·rw [if_pos c6] at H
      have c6b0:((rdOf ByteArray.empty y119 aG).toList == a0.toList) = true:=beq_iff_eq.mpr c6
      have c6b1:((rdOf ByteArray.empty y119 aG).toList != a0.toList) = false:=bne_eq_false_iff_eq.mpr c6
      clear c6
      obtain rfl:=Option.some.inj H
      obtain ⟨Ao7,co7,eo7⟩:=Kd.a3O jD.out
      subst eo7
      have p122:0≤(aG:Int):=of_decide_eq_true (by first | (with_reducible assumption) | assumption)
      have q122:aG < (y119.length:Int):=of_decide_eq_true (by first | (with_reducible assumption) | assumption)
      obtain ⟨ad122,e122,mC⟩:=Kd.a2D (Kd.a1Y jD.out).2.2 aG p122 q122
      cases e122
      replace p122:=eq_true p122
      replace q122:=eq_true q122
      go_wp2
      go_ret
      exact ⟨by first | rfl | (simp [a0T,a0S] <;> rfl) | (simp [*,a0T,a0S] <;> rfl),by repeat (first | (with_reducible first | exact HB.out | apply a0D | apply a0B | apply a0E) | exact HB.out)⟩
     ·rw [if_neg c6] at H
      have c6b0:((rdOf ByteArray.empty y119 aG).toList == a0.toList) = false:=beq_eq_false_iff_ne.mpr c6
      have c6b1:((rdOf ByteArray.empty y119 aG).toList != a0.toList) = true:=bne_iff_ne.mpr c6
      have H':=a0A.mk H
      clear H
      obtain ⟨Ao8,co8,eo8⟩:=Kd.a3O jD.out
      subst eo8
      have p122:0≤(aG:Int):=of_decide_eq_true (by first | (with_reducible assumption) | assumption)
      have q122:aG < (y119.length:Int):=of_decide_eq_true (by first | (with_reducible assumption) | assumption)
      obtain ⟨ad122,e122,mC⟩:=Kd.a2D (Kd.a1Y jD.out).2.2 aG p122 q122
      cases e122
      replace p122:=eq_true p122
      replace q122:=eq_true q122
      go_wp2
      go_roundg k1
      case measure =>have:=HK1.out;omega
      case rel =>exact ⟨(wrap64 (aG + 1)),(by first | rfl | (simp;done) | (simp [*];done)),H',⟨by have:=HK1.out;omega⟩,⟨by (with_reducible repeat (first | apply Kd.a1N | apply Kd.a1M | apply Kd.a1S));exact jD.out⟩,⟨by repeat (first | (with_reducible first | exact HB.out | apply a0D | apply a0B | apply a0E) | exact HB.out)⟩⟩
    ·rw [if_neg c5] at H
     exact absurd H (by simp)
   ·rw [if_neg c4] at H
    have c4b0:decide (aG < (y119.length:Int)) = false:=decide_eq_false c4
    clear c4
    obtain rfl:=Option.some.inj H
    obtain ⟨Ao9,co9,eo9⟩:=Kd.a3O jD.out
    subst eo9
    go_wp2
    go_ret
    exact ⟨by first | rfl | (simp [a0T,a0S] <;> rfl) | (simp [*,a0T,a0S] <;> rfl),by repeat (first | (with_reducible first | exact HB.out | apply a0D | apply a0B | apply a0E) | exact HB.out)⟩
def r02_Name.f (k:Nat) (a0:ByteArray):Option (Bool):=(r01_Right.f k 0 a0 0).bind fun t123 =>(if t123 = true then ((r02_Keyword.f k a0).bind fun t124 =>(some (!t124))) else (some false))
set_option maxHeartbeats 8000000 in
set_option maxRecDepth 100000 in
theorem r02_Name.calls (k:Nat) (a0:ByteArray) (r:Bool) (w:World) (h:r02_Name.f k a0 = some r) :
    Calls Try.prog 74 #[.string a0] w fun e w' =>e = .returned (.bool r)∧Below w.heap.size w w':=by
 have hu76:=Try.underlying76
 have HB:=a0A.mk (Below.refl w.heap.size w)
 have H:((r01_Right.f k 0 a0 0).bind fun t123 =>(if t123 = true then ((r02_Keyword.f k a0).bind fun t124 =>(some (!t124))) else (some false))) = some r:=h
 clear h
 replace H:=Option.bind_eq_some_iff.mp H
 obtain ⟨t123,A20,H⟩:=H
 replace H:(if t123 = true then ((r02_Keyword.f k a0).bind fun t124 =>(some (!t124))) else (some false)) = some r:=H
 have A2:=a0A.mk A20
 clear A20
 by_cases c3:t123 = true
 ·subst c3
  have H1:((r02_Keyword.f k a0).bind fun t124 =>(some (!t124))) = some r:=by rw [if_pos rfl] at H;exact H
  clear H
  have H:=H1
  clear H1
  replace H:=Option.bind_eq_some_iff.mp H
  obtain ⟨t124,A40,H⟩:=H
  replace H:(some (!t124)) = some r:=H
  have A4:=a0A.mk A40
  clear A40
  obtain rfl:=Option.some.inj H
  go_enter Try.func74,Try.ntmps74
  go_wp2_with (first | ((with_reducible refine a1H (f:=75) rfl ?_);refine a2G (some 5) rfl rfl Try.func75 (by kernel_rfl) rfl #[.agg #[.int .i64 0,.string a0,.int .i64 0]] rfl (by (try simp only [List.map_toArray,List.map_cons,List.map_nil]);first | done | rfl | (simp only [List.length_drop,List.length_take];rfl)) ?_;(with_reducible refine (r01_Right.calls k 0 a0 0 true _ A2.out).mono ?_);rintro e w5 ⟨rfl,hb⟩;refine ⟨_,rfl,?_⟩;have aZ:=a0A.mk (a0H (by repeat (first | (with_reducible first | exact HB.out | apply a0D | apply a0B | apply a0E) | exact HB.out)) hb);clear HB;have HB:=aZ;clear aZ;(try clear hb);(try clear hb2);(try clear hk);(try clear hi)) | (go_at_call 84;(with_reducible refine (r02_Keyword.calls k a0 t124 _ A4.out).mono ?_);rintro e w6 ⟨rfl,hb⟩;have aZ:=a0A.mk (a0H (by repeat (first | (with_reducible first | exact HB.out | apply a0D | apply a0B | apply a0E) | exact HB.out)) hb);clear HB;have HB:=aZ;clear aZ;(try clear hb);(try clear hb2);(try clear hk);(try clear hi)))
  go_ret
  exact ⟨by first | rfl | (simp [a0T,a0S] <;> rfl) | (simp [*,a0T,a0S] <;> rfl),by repeat (first | (with_reducible first | exact HB.out | apply a0D | apply a0B | apply a0E) | exact HB.out)⟩
 ·replace c3:=Bool.eq_false_iff.mpr c3
  subst c3
  have H1:(some false) = some r:=by rw [if_neg (show ¬ (false = true) by decide)] at H;exact H
  clear H
  have H:=H1
  clear H1
  obtain rfl:=Option.some.inj H
  go_enter Try.func74,Try.ntmps74
  go_wp2_with (first | ((with_reducible refine a1H (f:=75) rfl ?_);refine a2G (some 5) rfl rfl Try.func75 (by kernel_rfl) rfl #[.agg #[.int .i64 0,.string a0,.int .i64 0]] rfl (by (try simp only [List.map_toArray,List.map_cons,List.map_nil]);first | done | rfl | (simp only [List.length_drop,List.length_take];rfl)) ?_;(with_reducible refine (r01_Right.calls k 0 a0 0 false _ A2.out).mono ?_);rintro e w7 ⟨rfl,hb⟩;refine ⟨_,rfl,?_⟩;have aZ:=a0A.mk (a0H (by repeat (first | (with_reducible first | exact HB.out | apply a0D | apply a0B | apply a0E) | exact HB.out)) hb);clear HB;have HB:=aZ;clear aZ;(try clear hb);(try clear hb2);(try clear hk);(try clear hi)))
  go_ret
  exact ⟨by first | rfl | (simp [a0T,a0S] <;> rfl) | (simp [*,a0T,a0S] <;> rfl),by repeat (first | (with_reducible first | exact HB.out | apply a0D | apply a0B | apply a0E) | exact HB.out)⟩
def r02_isName.f (k:Nat) (aH:List (S76)) (aA:Int) (aJ:Int) (aW:Int) (aV:Int) (aX:Int):Option (Bool):=(r02_ok.f aH aA aJ aW aV aX).bind fun t126 =>(if t126 = true then (if aA < (aH.length:Int) then (if 0≤aA then (if ((a1K aH aA).f0) = 0 then ((r02_Name.f k ((a1K aH aA).f1)).bind fun t129 =>(some t129)) else (some false)) else (none)) else (some false)) else (some false))
set_option maxHeartbeats 8000000 in
set_option maxRecDepth 100000 in
theorem r02_isName.calls (k:Nat) (bA:Option Addr) (aY:Nat) (aH:List (S76)) (aA:Int) (aJ:Int) (aW:Int) (aV:Int) (aX:Int) (r:Bool) (w:World) (bT:Kd.C k76 w bA aH.length aH) (bU:aH.length≤aY) (h:r02_isName.f k aH aA aJ aW aV aX = some r) :
    Calls Try.prog 59 #[.agg #[.slice bA aH.length aY,.int .i64 aA,.int .i64 aJ,.int .i64 aW,.int .i64 aV,.int .i64 aX]] w fun e w' =>e = .returned (.bool r)∧Below w.heap.size w w':=by
 have hu78:=Try.underlying78
 have bF:=a0A.mk bT
 have bP:=a0A.mk bU
 clear bT bU
 have HB:=a0A.mk (Below.refl w.heap.size w)
 have H:((r02_ok.f aH aA aJ aW aV aX).bind fun t126 =>(if t126 = true then (if aA < (aH.length:Int) then (if 0≤aA then (if ((a1K aH aA).f0) = 0 then ((r02_Name.f k ((a1K aH aA).f1)).bind fun t129 =>(some t129)) else (some false)) else (none)) else (some false)) else (some false))) = some r:=h
 clear h
 replace H:=Option.bind_eq_some_iff.mp H
 obtain ⟨t126,A20,H⟩:=H
 replace H:(if t126 = true then (if aA < (aH.length:Int) then (if 0≤aA then (if ((a1K aH aA).f0) = 0 then ((r02_Name.f k ((a1K aH aA).f1)).bind fun t129 =>(some t129)) else (some false)) else (none)) else (some false)) else (some false)) = some r:=H
 have A2:=a0A.mk A20
 clear A20
 by_cases c3:t126 = true
 ·subst c3
  have H1:(if aA < (aH.length:Int) then (if 0≤aA then (if ((a1K aH aA).f0) = 0 then ((r02_Name.f k ((a1K aH aA).f1)).bind fun t129 =>(some t129)) else (some false)) else (none)) else (some false)) = some r:=by rw [if_pos rfl] at H;exact H
  clear H
  have H:=H1
  clear H1
  by_cases c4:aA < (aH.length:Int)
  ·rw [if_pos c4] at H
   have c4b0:decide (aA < (aH.length:Int)) = true:=decide_eq_true c4
   clear c4
   by_cases c5:0≤aA
   ·rw [if_pos c5] at H
    have c5b0:decide (0≤aA) = true:=decide_eq_true c5
    clear c5
    by_cases c6:((a1K aH aA).f0) = 0
    ·rw [if_pos c6] at H
     have c6b0:(((a1K aH aA).f0) == 0) = true:=beq_iff_eq.mpr c6
     have c6b1:(((a1K aH aA).f0) != 0) = false:=bne_eq_false_iff_eq.mpr c6
     clear c6
     replace H:=Option.bind_eq_some_iff.mp H
     obtain ⟨t129,A70,H⟩:=H
     replace H:(some t129) = some r:=H
     have A7:=a0A.mk A70
     clear A70
     obtain rfl:=Option.some.inj H
     go_enter Try.func59,Try.ntmps59
     go_wp2_with (first | ((with_reducible refine a1C (N:=1) rfl ?_);(try (refine a2Q (by rfl) ?_;dsimp only));refine a1A ?hg (N:=1) ?hd (cs:=#[.slice bA aH.length aY,.int .i64 aA,.int .i64 aJ,.int .i64 aW,.int .i64 aV,.int .i64 aX]) (t:=78) ?hr ?_;(case hd =>rfl);(case hg =>rfl);(case hr =>first | (go_simp;done) | (go_simp;rfl));intro aT hg w8 hbox hb;have aZ:=a0A.mk (a0H (by repeat (first | (with_reducible first | exact HB.out | apply a0D | apply a0B | apply a0E) | exact HB.out)) hb);have bB:=a0A.mk (hbox);have bI:=a0A.mk ((by rw [hg];exact (a0V (by repeat (first | (with_reducible first | exact HB.out | apply a0D | apply a0B | apply a0E) | exact HB.out))):w.heap.size≤aT));have bQ:=a0A.mk ((by rw [hg];exact (a0V (by repeat (first | (with_reducible first | exact HB.out | apply a0D | apply a0B | apply a0E) | exact HB.out))):w.heap.size≤aT));clear HB;have HB:=aZ;have aI:=bB;have GW125:=bI;have bS:=bQ;clear aZ bB bI bQ;clear hb hbox hg;have aG8:w8.cell? ⟨aT,0,none⟩ = some (.slice bA aH.length aY):=(a0G aI.out 0).trans rfl;have aG9:w8.cell? ⟨aT,1,none⟩ = some (.int .i64 aA):=(a0G aI.out 1).trans rfl;have aH0:w8.cell? ⟨aT,2,none⟩ = some (.int .i64 aJ):=(a0G aI.out 2).trans rfl;have aH1:w8.cell? ⟨aT,3,none⟩ = some (.int .i64 aW):=(a0G aI.out 3).trans rfl;have aH2:w8.cell? ⟨aT,4,none⟩ = some (.int .i64 aV):=(a0G aI.out 4).trans rfl;have aH3:w8.cell? ⟨aT,5,none⟩ = some (.int .i64 aX):=(a0G aI.out 5).trans rfl;have aH4:=a0F aI.out 0;have aH5:=a0F aI.out 1;have aH6:=a0F aI.out 2;have aH7:=a0F aI.out 3;have aH8:=a0F aI.out 4;have aH9:=a0F aI.out 5) | ((with_reducible refine a1H (f:=50) rfl ?_);refine a2G (some 4) rfl rfl Try.func50 (by kernel_rfl) rfl #[.agg #[.slice bA aH.length aY,.int .i64 aA,.int .i64 aJ,.int .i64 aW,.int .i64 aV,.int .i64 aX]] rfl (by (try simp only [List.map_toArray,List.map_cons,List.map_nil]);first | done | rfl | (simp only [List.length_drop,List.length_take];rfl)) ?_;(with_reducible refine (r02_ok.calls _ _ aH aA aJ aW aV aX true _ ?side1 ?side2 A2.out).mono ?_);(case side1 =>repeat (first | exact (Kd.a0N bF.out HB.out) | (with_reducible refine Kd.a0R ?_ _) | (with_reducible refine Kd.a0Q ?_ _) | (with_reducible refine Kd.a1B ?_)));(case side2 =>exact bP.out);rintro e w10 ⟨rfl,hb⟩;refine ⟨_,rfl,?_⟩;have aZ:=a0A.mk (a0U (g:=aT) (o:=.cells #[.slice bA aH.length aY,.int .i64 aA,.int .i64 aJ,.int .i64 aW,.int .i64 aV,.int .i64 aX] 78 (0,0)) (by (with_reducible repeat (first | refine a0L ?_ _ | refine a0M ?_ | refine a0K ?_ _));exact aI.out) hb);have bB:=a0A.mk (a0H (by repeat (first | (with_reducible first | exact HB.out | apply a0D | apply a0B | apply a0E | refine a0I ?_ bS.out) | exact HB.out)) hb);clear aI;clear HB;have aI:=aZ;have HB:=bB;clear aZ bB;(try clear hb);(try clear hb2);(try clear hk);(try clear hi);have lO:w10.cell? ⟨aT,0,none⟩ = some (.slice bA aH.length aY):=(a0G aI.out 0).trans rfl;have lP:w10.cell? ⟨aT,1,none⟩ = some (.int .i64 aA):=(a0G aI.out 1).trans rfl;have lQ:w10.cell? ⟨aT,2,none⟩ = some (.int .i64 aJ):=(a0G aI.out 2).trans rfl;have lR:w10.cell? ⟨aT,3,none⟩ = some (.int .i64 aW):=(a0G aI.out 3).trans rfl;have lS:w10.cell? ⟨aT,4,none⟩ = some (.int .i64 aV):=(a0G aI.out 4).trans rfl;have lT:w10.cell? ⟨aT,5,none⟩ = some (.int .i64 aX):=(a0G aI.out 5).trans rfl;have lU:=a0F aI.out 0;have lV:=a0F aI.out 1;have lW:=a0F aI.out 2;have lX:=a0F aI.out 3;have lY:=a0F aI.out 4;have lZ:=a0F aI.out 5;have p127:0≤(aA:Int):=of_decide_eq_true (by first | (with_reducible assumption) | assumption);have q127:aA < (aH.length:Int):=of_decide_eq_true (by first | (with_reducible assumption) | assumption);obtain ⟨ad127,e127,cA,cB,cC⟩:=a5Z bF.out aA p127 q127;cases e127;replace cA:=a0C HB.out cA;replace cB:=a0C HB.out cB;replace cC:=a0C HB.out cC;replace p127:=eq_true p127;replace q127:=eq_true q127;have p128:0≤(aA:Int):=of_decide_eq_true (by first | (with_reducible assumption) | assumption);have q128:aA < (aH.length:Int):=of_decide_eq_true (by first | (with_reducible assumption) | assumption);obtain ⟨ad128,e128,gA,gB,gC⟩:=a5Z bF.out aA p128 q128;obtain rfl:ad127 = ad128:=(by injection e128);replace gA:=a0C HB.out gA;replace gB:=a0C HB.out gB;replace gC:=a0C HB.out gC;replace p128:=eq_true p128;replace q128:=eq_true q128) | (go_at_call 74;(with_reducible refine (r02_Name.calls k ((a1K aH aA).f1) t129 _ A7.out).mono ?_);rintro e w12 ⟨rfl,hb⟩;have aZ:=a0A.mk (a0U (g:=aT) (o:=.cells #[.slice (some ad127) aH.length aY,.int .i64 aA,.int .i64 aJ,.int .i64 aW,.int .i64 aV,.int .i64 aX] 78 (0,0)) (by (with_reducible repeat (first | refine a0L ?_ _ | refine a0M ?_ | refine a0K ?_ _));exact aI.out) hb);have bB:=a0A.mk (a0H (by repeat (first | (with_reducible first | exact HB.out | apply a0D | apply a0B | apply a0E | refine a0I ?_ bS.out) | exact HB.out)) hb);clear aI;clear HB;have aI:=aZ;have HB:=bB;clear aZ bB;(try clear hb);(try clear hb2);(try clear hk);(try clear hi)))
     go_ret
     exact ⟨by first | rfl | (simp [a0T,a0S] <;> rfl) | (simp [*,a0T,a0S] <;> rfl),by repeat (first | (with_reducible first | exact HB.out | apply a0D | apply a0B | apply a0E | refine a0I ?_ bS.out) | exact HB.out)⟩
    ·rw [if_neg c6] at H
     have c6b0:(((a1K aH aA).f0) == 0) = false:=beq_eq_false_iff_ne.mpr c6
     have c6b1:(((a1K aH aA).f0) != 0) = true:=bne_iff_ne.mpr c6
     obtain rfl:=Option.some.inj H
     go_enter Try.func59,Try.ntmps59
     go_wp2_with (first | ((with_reducible refine a1C (N:=1) rfl ?_);(try (refine a2Q (by rfl) ?_;dsimp only));refine a1A ?hg (N:=1) ?hd (cs:=#[.slice bA aH.length aY,.int .i64 aA,.int .i64 aJ,.int .i64 aW,.int .i64 aV,.int .i64 aX]) (t:=78) ?hr ?_;(case hd =>rfl);(case hg =>rfl);(case hr =>first | (go_simp;done) | (go_simp;rfl));intro aT hg w13 hbox hb;have aZ:=a0A.mk (a0H (by repeat (first | (with_reducible first | exact HB.out | apply a0D | apply a0B | apply a0E) | exact HB.out)) hb);have bB:=a0A.mk (hbox);have bI:=a0A.mk ((by rw [hg];exact (a0V (by repeat (first | (with_reducible first | exact HB.out | apply a0D | apply a0B | apply a0E) | exact HB.out))):w.heap.size≤aT));have bQ:=a0A.mk ((by rw [hg];exact (a0V (by repeat (first | (with_reducible first | exact HB.out | apply a0D | apply a0B | apply a0E) | exact HB.out))):w.heap.size≤aT));clear HB;have HB:=aZ;have aI:=bB;have GW125:=bI;have bS:=bQ;clear aZ bB bI bQ;clear hb hbox hg;have tT:w13.cell? ⟨aT,0,none⟩ = some (.slice bA aH.length aY):=(a0G aI.out 0).trans rfl;have tU:w13.cell? ⟨aT,1,none⟩ = some (.int .i64 aA):=(a0G aI.out 1).trans rfl;have tV:w13.cell? ⟨aT,2,none⟩ = some (.int .i64 aJ):=(a0G aI.out 2).trans rfl;have tW:w13.cell? ⟨aT,3,none⟩ = some (.int .i64 aW):=(a0G aI.out 3).trans rfl;have tX:w13.cell? ⟨aT,4,none⟩ = some (.int .i64 aV):=(a0G aI.out 4).trans rfl;have tY:w13.cell? ⟨aT,5,none⟩ = some (.int .i64 aX):=(a0G aI.out 5).trans rfl;have tZ:=a0F aI.out 0;have aA0:=a0F aI.out 1;have aA1:=a0F aI.out 2;have aA2:=a0F aI.out 3;have aA3:=a0F aI.out 4;have aA4:=a0F aI.out 5) | ((with_reducible refine a1H (f:=50) rfl ?_);refine a2G (some 4) rfl rfl Try.func50 (by kernel_rfl) rfl #[.agg #[.slice bA aH.length aY,.int .i64 aA,.int .i64 aJ,.int .i64 aW,.int .i64 aV,.int .i64 aX]] rfl (by (try simp only [List.map_toArray,List.map_cons,List.map_nil]);first | done | rfl | (simp only [List.length_drop,List.length_take];rfl)) ?_;(with_reducible refine (r02_ok.calls _ _ aH aA aJ aW aV aX true _ ?side1 ?side2 A2.out).mono ?_);(case side1 =>repeat (first | exact (Kd.a0N bF.out HB.out) | (with_reducible refine Kd.a0R ?_ _) | (with_reducible refine Kd.a0Q ?_ _) | (with_reducible refine Kd.a1B ?_)));(case side2 =>exact bP.out);rintro e w15 ⟨rfl,hb⟩;refine ⟨_,rfl,?_⟩;have aZ:=a0A.mk (a0U (g:=aT) (o:=.cells #[.slice bA aH.length aY,.int .i64 aA,.int .i64 aJ,.int .i64 aW,.int .i64 aV,.int .i64 aX] 78 (0,0)) (by (with_reducible repeat (first | refine a0L ?_ _ | refine a0M ?_ | refine a0K ?_ _));exact aI.out) hb);have bB:=a0A.mk (a0H (by repeat (first | (with_reducible first | exact HB.out | apply a0D | apply a0B | apply a0E | refine a0I ?_ bS.out) | exact HB.out)) hb);clear aI;clear HB;have aI:=aZ;have HB:=bB;clear aZ bB;(try clear hb);(try clear hb2);(try clear hk);(try clear hi);have mD:w15.cell? ⟨aT,0,none⟩ = some (.slice bA aH.length aY):=(a0G aI.out 0).trans rfl;have aA5:w15.cell? ⟨aT,1,none⟩ = some (.int .i64 aA):=(a0G aI.out 1).trans rfl;have aA6:w15.cell? ⟨aT,2,none⟩ = some (.int .i64 aJ):=(a0G aI.out 2).trans rfl;have aA7:w15.cell? ⟨aT,3,none⟩ = some (.int .i64 aW):=(a0G aI.out 3).trans rfl;have aA8:w15.cell? ⟨aT,4,none⟩ = some (.int .i64 aV):=(a0G aI.out 4).trans rfl;have aA9:w15.cell? ⟨aT,5,none⟩ = some (.int .i64 aX):=(a0G aI.out 5).trans rfl;have mE:=a0F aI.out 0;have aB0:=a0F aI.out 1;have aB1:=a0F aI.out 2;have aB2:=a0F aI.out 3;have aB3:=a0F aI.out 4;have aB4:=a0F aI.out 5;have p127:0≤(aA:Int):=of_decide_eq_true (by first | (with_reducible assumption) | assumption);have q127:aA < (aH.length:Int):=of_decide_eq_true (by first | (with_reducible assumption) | assumption);obtain ⟨ad127,e127,cA,cB,cC⟩:=a5Z bF.out aA p127 q127;cases e127;replace cA:=a0C HB.out cA;replace cB:=a0C HB.out cB;replace cC:=a0C HB.out cC;replace p127:=eq_true p127;replace q127:=eq_true q127))
     go_ret
     exact ⟨by first | rfl | (simp [a0T,a0S] <;> rfl) | (simp [*,a0T,a0S] <;> rfl),by repeat (first | (with_reducible first | exact HB.out | apply a0D | apply a0B | apply a0E | refine a0I ?_ bS.out) | exact HB.out)⟩
   ·rw [if_neg c5] at H
    exact absurd H (by simp)
  ·rw [if_neg c4] at H
   have c4b0:decide (aA < (aH.length:Int)) = false:=decide_eq_false c4
   clear c4
   obtain rfl:=Option.some.inj H
   go_enter Try.func59,Try.ntmps59
   go_wp2_with (first | ((with_reducible refine a1C (N:=1) rfl ?_);(try (refine a2Q (by rfl) ?_;dsimp only));refine a1A ?hg (N:=1) ?hd (cs:=#[.slice bA aH.length aY,.int .i64 aA,.int .i64 aJ,.int .i64 aW,.int .i64 aV,.int .i64 aX]) (t:=78) ?hr ?_;(case hd =>rfl);(case hg =>rfl);(case hr =>first | (go_simp;done) | (go_simp;rfl));intro aT hg w17 hbox hb;have aZ:=a0A.mk (a0H (by repeat (first | (with_reducible first | exact HB.out | apply a0D | apply a0B | apply a0E) | exact HB.out)) hb);have bB:=a0A.mk (hbox);have bI:=a0A.mk ((by rw [hg];exact (a0V (by repeat (first | (with_reducible first | exact HB.out | apply a0D | apply a0B | apply a0E) | exact HB.out))):w.heap.size≤aT));have bQ:=a0A.mk ((by rw [hg];exact (a0V (by repeat (first | (with_reducible first | exact HB.out | apply a0D | apply a0B | apply a0E) | exact HB.out))):w.heap.size≤aT));clear HB;have HB:=aZ;have aI:=bB;have GW125:=bI;have bS:=bQ;clear aZ bB bI bQ;clear hb hbox hg;have aB5:w17.cell? ⟨aT,0,none⟩ = some (.slice bA aH.length aY):=(a0G aI.out 0).trans rfl;have aB6:w17.cell? ⟨aT,1,none⟩ = some (.int .i64 aA):=(a0G aI.out 1).trans rfl;have aB7:w17.cell? ⟨aT,2,none⟩ = some (.int .i64 aJ):=(a0G aI.out 2).trans rfl;have aB8:w17.cell? ⟨aT,3,none⟩ = some (.int .i64 aW):=(a0G aI.out 3).trans rfl;have aB9:w17.cell? ⟨aT,4,none⟩ = some (.int .i64 aV):=(a0G aI.out 4).trans rfl;have aC0:w17.cell? ⟨aT,5,none⟩ = some (.int .i64 aX):=(a0G aI.out 5).trans rfl;have aC1:=a0F aI.out 0;have aC2:=a0F aI.out 1;have aC3:=a0F aI.out 2;have aC4:=a0F aI.out 3;have aC5:=a0F aI.out 4;have aC6:=a0F aI.out 5) | ((with_reducible refine a1H (f:=50) rfl ?_);refine a2G (some 4) rfl rfl Try.func50 (by kernel_rfl) rfl #[.agg #[.slice bA aH.length aY,.int .i64 aA,.int .i64 aJ,.int .i64 aW,.int .i64 aV,.int .i64 aX]] rfl (by (try simp only [List.map_toArray,List.map_cons,List.map_nil]);first | done | rfl | (simp only [List.length_drop,List.length_take];rfl)) ?_;(with_reducible refine (r02_ok.calls _ _ aH aA aJ aW aV aX true _ ?side1 ?side2 A2.out).mono ?_);(case side1 =>repeat (first | exact (Kd.a0N bF.out HB.out) | (with_reducible refine Kd.a0R ?_ _) | (with_reducible refine Kd.a0Q ?_ _) | (with_reducible refine Kd.a1B ?_)));(case side2 =>exact bP.out);rintro e w19 ⟨rfl,hb⟩;refine ⟨_,rfl,?_⟩;have aZ:=a0A.mk (a0U (g:=aT) (o:=.cells #[.slice bA aH.length aY,.int .i64 aA,.int .i64 aJ,.int .i64 aW,.int .i64 aV,.int .i64 aX] 78 (0,0)) (by (with_reducible repeat (first | refine a0L ?_ _ | refine a0M ?_ | refine a0K ?_ _));exact aI.out) hb);have bB:=a0A.mk (a0H (by repeat (first | (with_reducible first | exact HB.out | apply a0D | apply a0B | apply a0E | refine a0I ?_ bS.out) | exact HB.out)) hb);clear aI;clear HB;have aI:=aZ;have HB:=bB;clear aZ bB;(try clear hb);(try clear hb2);(try clear hk);(try clear hi);have kA:w19.cell? ⟨aT,0,none⟩ = some (.slice bA aH.length aY):=(a0G aI.out 0).trans rfl;have kB:w19.cell? ⟨aT,1,none⟩ = some (.int .i64 aA):=(a0G aI.out 1).trans rfl;have kC:w19.cell? ⟨aT,2,none⟩ = some (.int .i64 aJ):=(a0G aI.out 2).trans rfl;have aC7:w19.cell? ⟨aT,3,none⟩ = some (.int .i64 aW):=(a0G aI.out 3).trans rfl;have aC8:w19.cell? ⟨aT,4,none⟩ = some (.int .i64 aV):=(a0G aI.out 4).trans rfl;have aC9:w19.cell? ⟨aT,5,none⟩ = some (.int .i64 aX):=(a0G aI.out 5).trans rfl;have kD:=a0F aI.out 0;have kE:=a0F aI.out 1;have kF:=a0F aI.out 2;have aD0:=a0F aI.out 3;have aD1:=a0F aI.out 4;have aD2:=a0F aI.out 5))
   go_ret
   exact ⟨by first | rfl | (simp [a0T,a0S] <;> rfl) | (simp [*,a0T,a0S] <;> rfl),by repeat (first | (with_reducible first | exact HB.out | apply a0D | apply a0B | apply a0E | refine a0I ?_ bS.out) | exact HB.out)⟩
 ·replace c3:=Bool.eq_false_iff.mpr c3
  subst c3
  have H1:(some false) = some r:=by rw [if_neg (show ¬ (false = true) by decide)] at H;exact H
  clear H
  have H:=H1
  clear H1
  obtain rfl:=Option.some.inj H
  go_enter Try.func59,Try.ntmps59
  go_wp2_with (first | ((with_reducible refine a1C (N:=1) rfl ?_);(try (refine a2Q (by rfl) ?_;dsimp only));refine a1A ?hg (N:=1) ?hd (cs:=#[.slice bA aH.length aY,.int .i64 aA,.int .i64 aJ,.int .i64 aW,.int .i64 aV,.int .i64 aX]) (t:=78) ?hr ?_;(case hd =>rfl);(case hg =>rfl);(case hr =>first | (go_simp;done) | (go_simp;rfl));intro aT hg w21 hbox hb;have aZ:=a0A.mk (a0H (by repeat (first | (with_reducible first | exact HB.out | apply a0D | apply a0B | apply a0E) | exact HB.out)) hb);have bB:=a0A.mk (hbox);have bI:=a0A.mk ((by rw [hg];exact (a0V (by repeat (first | (with_reducible first | exact HB.out | apply a0D | apply a0B | apply a0E) | exact HB.out))):w.heap.size≤aT));have bQ:=a0A.mk ((by rw [hg];exact (a0V (by repeat (first | (with_reducible first | exact HB.out | apply a0D | apply a0B | apply a0E) | exact HB.out))):w.heap.size≤aT));clear HB;have HB:=aZ;have aI:=bB;have GW125:=bI;have bS:=bQ;clear aZ bB bI bQ;clear hb hbox hg;have kM:w21.cell? ⟨aT,0,none⟩ = some (.slice bA aH.length aY):=(a0G aI.out 0).trans rfl;have kN:w21.cell? ⟨aT,1,none⟩ = some (.int .i64 aA):=(a0G aI.out 1).trans rfl;have kO:w21.cell? ⟨aT,2,none⟩ = some (.int .i64 aJ):=(a0G aI.out 2).trans rfl;have aD3:w21.cell? ⟨aT,3,none⟩ = some (.int .i64 aW):=(a0G aI.out 3).trans rfl;have aD4:w21.cell? ⟨aT,4,none⟩ = some (.int .i64 aV):=(a0G aI.out 4).trans rfl;have aD5:w21.cell? ⟨aT,5,none⟩ = some (.int .i64 aX):=(a0G aI.out 5).trans rfl;have kP:=a0F aI.out 0;have kQ:=a0F aI.out 1;have kR:=a0F aI.out 2;have aD6:=a0F aI.out 3;have aD7:=a0F aI.out 4;have aD8:=a0F aI.out 5) | ((with_reducible refine a1H (f:=50) rfl ?_);refine a2G (some 4) rfl rfl Try.func50 (by kernel_rfl) rfl #[.agg #[.slice bA aH.length aY,.int .i64 aA,.int .i64 aJ,.int .i64 aW,.int .i64 aV,.int .i64 aX]] rfl (by (try simp only [List.map_toArray,List.map_cons,List.map_nil]);first | done | rfl | (simp only [List.length_drop,List.length_take];rfl)) ?_;(with_reducible refine (r02_ok.calls _ _ aH aA aJ aW aV aX false _ ?side1 ?side2 A2.out).mono ?_);(case side1 =>repeat (first | exact (Kd.a0N bF.out HB.out) | (with_reducible refine Kd.a0R ?_ _) | (with_reducible refine Kd.a0Q ?_ _) | (with_reducible refine Kd.a1B ?_)));(case side2 =>exact bP.out);rintro e w23 ⟨rfl,hb⟩;refine ⟨_,rfl,?_⟩;have aZ:=a0A.mk (a0U (g:=aT) (o:=.cells #[.slice bA aH.length aY,.int .i64 aA,.int .i64 aJ,.int .i64 aW,.int .i64 aV,.int .i64 aX] 78 (0,0)) (by (with_reducible repeat (first | refine a0L ?_ _ | refine a0M ?_ | refine a0K ?_ _));exact aI.out) hb);have bB:=a0A.mk (a0H (by repeat (first | (with_reducible first | exact HB.out | apply a0D | apply a0B | apply a0E | refine a0I ?_ bS.out) | exact HB.out)) hb);clear aI;clear HB;have aI:=aZ;have HB:=bB;clear aZ bB;(try clear hb);(try clear hb2);(try clear hk);(try clear hi)))
  go_ret
  exact ⟨by first | rfl | (simp [a0T,a0S] <;> rfl) | (simp [*,a0T,a0S] <;> rfl),by repeat (first | (with_reducible first | exact HB.out | apply a0D | apply a0B | apply a0E | refine a0I ?_ bS.out) | exact HB.out)⟩
def r01_Blank.f (a0:Int):Option (Bool):=if a0 = 9 then (some true) else (if a0 = 10 then (some true) else (if a0 = 13 then (some true) else (some (a0 == 32))))
set_option maxHeartbeats 8000000 in
set_option maxRecDepth 100000 in
theorem r01_Blank.calls (a0:Int) (r:Bool) (w:World) (h:r01_Blank.f a0 = some r) :
    Calls Try.prog 45 #[.int .u8 a0] w fun e w' =>e = .returned (.bool r)∧a1P w w':=by
 have H:(if a0 = 9 then (some true) else (if a0 = 10 then (some true) else (if a0 = 13 then (some true) else (some (a0 == 32))))) = some r:=h
 clear h
 by_cases c2:a0 = 9
 ·rw [if_pos c2] at H
  have c2b0:(a0 == 9) = true:=beq_iff_eq.mpr c2
  have c2b1:(a0 != 9) = false:=bne_eq_false_iff_eq.mpr c2
  clear c2
  obtain rfl:=Option.some.inj H
  go_enter Try.func45,Try.ntmps45
  go_wp2
  go_ret
  exact ⟨by first | rfl | (simp;done) | (simp [*];done),by repeat (first | exact a1P.refl _ | apply a1P.step)⟩
 ·rw [if_neg c2] at H
  have c2b0:(a0 == 9) = false:=beq_eq_false_iff_ne.mpr c2
  have c2b1:(a0 != 9) = true:=bne_iff_ne.mpr c2
  by_cases c3:a0 = 10
  ·rw [if_pos c3] at H
   have c3b0:(a0 == 10) = true:=beq_iff_eq.mpr c3
   have c3b1:(a0 != 10) = false:=bne_eq_false_iff_eq.mpr c3
   clear c3
   obtain rfl:=Option.some.inj H
   go_enter Try.func45,Try.ntmps45
   go_wp2
   go_ret
   exact ⟨by first | rfl | (simp;done) | (simp [*];done),by repeat (first | exact a1P.refl _ | apply a1P.step)⟩
  ·rw [if_neg c3] at H
   have c3b0:(a0 == 10) = false:=beq_eq_false_iff_ne.mpr c3
   have c3b1:(a0 != 10) = true:=bne_iff_ne.mpr c3
   by_cases c4:a0 = 13
   ·rw [if_pos c4] at H
    have c4b0:(a0 == 13) = true:=beq_iff_eq.mpr c4
    have c4b1:(a0 != 13) = false:=bne_eq_false_iff_eq.mpr c4
    clear c4
    obtain rfl:=Option.some.inj H
    go_enter Try.func45,Try.ntmps45
    go_wp2
    go_ret
    exact ⟨by first | rfl | (simp;done) | (simp [*];done),by repeat (first | exact a1P.refl _ | apply a1P.step)⟩
   ·rw [if_neg c4] at H
    have c4b0:(a0 == 13) = false:=beq_eq_false_iff_ne.mpr c4
    have c4b1:(a0 != 13) = true:=bne_iff_ne.mpr c4
    obtain rfl:=Option.some.inj H
    go_enter Try.func45,Try.ntmps45
    go_wp2
    go_ret
    exact ⟨by first | rfl | (simp;done) | (simp [*];done),by repeat (first | exact a1P.refl _ | apply a1P.step)⟩
mutual
def r01_Lex.l0:Nat→ByteArray→List (S76)→Int→Option ((List (S76)) × Int × Int)
 | 0,_,_,_ =>none
 | k + 1,x0,x4,x5 =>if x5 < (x0.size:Int) then (if 0≤x5 then ((r01_Blank.f (bt x0 x5)).bind fun t134 =>(if t134 = true then (r01_Lex.l0 k x0 x4 (wrap64 (x5 + 1))) else (if (bt x0 x5) = 35 then (none) else ((r01_Letter.f (bt x0 x5)).bind fun t135 =>(if t135 = true then (r01_Lex.l1 k x0 x4 x5 (wrap64 (x5 + 1)) 0) else ((r01_Digit.f (bt x0 x5)).bind fun t143 =>(if t143 = true then (none) else ((r01_Sign.f k (bt x0 x5)).bind fun t144 =>(if t144 = true then (if x5≤(wrap64 (x5 + 1)) then (if (wrap64 (x5 + 1))≤(x0.size:Int) then (if x4.length < 4398046511104 then (r01_Lex.l0 k x0 (x4 ++ [(⟨2,x0.extract (x5:Int).toNat ((wrap64 (x5 + 1)):Int).toNat,x5⟩:S76)]) (wrap64 (x5 + 1))) else (none)) else (none)) else (none)) else (none)))))))))) else (none)) else (some (x4,0,0))
def r01_Lex.l1:Nat→ByteArray→List (S76)→Int→Int→Int→Option ((List (S76)) × Int × Int)
 | 0,_,_,_,_,_ =>none
 | k + 1,x0,x4,x5,x7,x8 =>if x7 < (x0.size:Int) then (if 0≤x7 then ((r01_Inner.f (bt x0 x7)).bind fun t136 =>(if t136 = true then (r01_Lex.l1 k x0 x4 x5 (wrap64 (x7 + 1)) x8) else (if 0≤x5 then (if x5≤x7 then (if x7≤(x0.size:Int) then (if x4.length < 4398046511104 then (r01_Lex.l0 k x0 (x4 ++ [(⟨x8,x0.extract (x5:Int).toNat (x7:Int).toNat,x5⟩:S76)]) x7) else (none)) else (none)) else (none)) else (none)))) else (none)) else (if 0≤x5 then (if x5≤x7 then (if x7≤(x0.size:Int) then (if x4.length < 4398046511104 then (r01_Lex.l0 k x0 (x4 ++ [(⟨x8,x0.extract (x5:Int).toNat (x7:Int).toNat,x5⟩:S76)]) x7) else (none)) else (none)) else (none)) else (none))
end
def r01_Lex.f (k:Nat) (a0:ByteArray):Option ((List (S76)) × Int × Int):=if (a0.size:Int) > 65536 then (none) else (r01_Lex.l0 k a0 (([]:List (S76))) 0)
set_option maxHeartbeats 8000000 in
set_option maxRecDepth 100000 in
theorem r01_Lex.calls (k:Nat) (a0:ByteArray) (r1:List (S76)) (r2:Int) (r3:Int) (w:World) (h:r01_Lex.f k a0 = some (r1,r2,r3)) :
    Calls Try.prog 35 #[.string a0] w fun e w' =>∃ v0_:Value,e = .returned (.tuple #[v0_,.agg #[.int .i64 r2,.int .i64 r3]])∧Kd.R k76 76 w' w.heap.size (fun _ =>True) v0_ r1∧Below w.heap.size w w':=by
 have hu35:=Try.underlying35
 have hu76:=Try.underlying76
 have HB:=a0A.mk (Below.refl w.heap.size w)
 have H:(if (a0.size:Int) > 65536 then (none) else (r01_Lex.l0 k a0 (([]:List (S76))) 0)) = some (r1,r2,r3):=h
 clear h
 by_cases c2:(a0.size:Int) > 65536
 ·rw [if_pos c2] at H
  exact absurd H (by simp)
 ·rw [if_neg c2] at H
  have c2b0:decide (65536 < (a0.size:Int)) = false:=decide_eq_false c2
  have c2b1:decide (65536 < a0.size) = false:=decide_eq_false (by omega)
  clear c2
  obtain ⟨y131,hy131⟩:∃ y_:List (S76),y_ = (([]:List (S76))):=⟨_,rfl⟩
  replace H:(r01_Lex.l0 k a0 y131 0) = some (r1,r2,r3):=by first | (rw [hy131];with_reducible exact H) | (have H2_:=(Option.bind_some _ _).symm.trans H;rw [hy131];with_reducible exact H2_) | (have H2_:=(Option.bind_some _ _).symm.trans H;with_reducible exact H2_) | with_reducible exact H | (rw [hy131];exact H) | exact H
  have Ny131:=a0A.mk hy131
  clear hy131
  have H':=a0A.mk H
  clear H
  go_enter Try.func35,Try.ntmps35
  go_wp2_with (first | ((with_reducible refine a1C (N:=3) rfl ?_);refine a1A ?hg (N:=3) ?hd (cs:=#[.int .i64 0,.int .i64 0]) (t:=35) ?hr ?_;(case hd =>rfl);(case hg =>rfl);(case hr =>first | (go_simp;done) | (go_simp;rfl));intro bO hg w3 hbox hb;have aZ:=a0A.mk (a0H (by repeat (first | (with_reducible first | exact HB.out | apply a0D | apply a0B | apply a0E) | exact HB.out)) hb);have bB:=a0A.mk (hbox);have bI:=a0A.mk ((by rw [hg];exact (a0V (by repeat (first | (with_reducible first | exact HB.out | apply a0D | apply a0B | apply a0E) | exact HB.out))):w.heap.size≤bO));have bQ:=a0A.mk ((by rw [hg];exact (a0V (by repeat (first | (with_reducible first | exact HB.out | apply a0D | apply a0B | apply a0E) | exact HB.out))):w.heap.size≤bO));clear HB;have HB:=aZ;have bD:=bB;have GW130:=bI;have bJ:=bQ;clear aZ bB bI bQ;clear hb hbox hg) | ((with_reducible refine a1C (N:=13) rfl ?_);refine Kd.b4F k76 _ 76 ?hg (N:=13) ?hd (xs:=([]:List (S76))) (inner:=[]) (ok:=fun _ =>True) (okp:=fun _ =>True) ?hr ?hp (fun _ hk =>hk) trivial (Below.refl _ _) (Nat.le_refl _) (by simp) ?_;(case hd =>rfl);(case hg =>rfl);(case hr =>first | (go_simp;done) | (go_simp;rfl));(case hp =>exact (Reps.none _ _));intro v132 w4 ho5 hb hg_ hnew_;clear hg_ hnew_;(first | rw [← Ny131.out] at ho5 | (simp only [Int.reduceToNat] at ho5;rw [← Ny131.out] at ho5));have aZ:=a0A.mk (Kd.a2Y ho5 (a0V (by repeat (first | (with_reducible first | exact HB.out | apply a0D | apply a0B | apply a0E | refine a0I ?_ bJ.out) | exact HB.out))));have bB:=a0A.mk (a0U (g:=bO) (o:=.cells #[.int .i64 0,.int .i64 0] 35 (0,0)) (by (with_reducible repeat (first | refine a0L ?_ _ | refine a0M ?_ | refine a0K ?_ _));exact bD.out) hb);have bI:=a0A.mk (a0H (by repeat (first | (with_reducible first | exact HB.out | apply a0D | apply a0B | apply a0E | refine a0I ?_ bJ.out) | exact HB.out)) hb);clear bD;clear HB;have HO133:=aZ;have bD:=bB;have HB:=bI;clear aZ bB bI;clear hb ho5))
  go_loopg [4,5] k (fun kq v4 v5 w' =>∃ (aG:List (S76)) (aD:Int),v5 = .int .i64 aD∧a0A (r01_Lex.l0 kq a0 aG aD = some (r1,r2,r3))∧a0A (kq≤k)∧a0A (Kd.R k76 76 w' w.heap.size (fun _ =>True) v4 aG)∧a0A (w'.heap[bO]? = some (.cells #[.int .i64 0,.int .i64 0] 35 (0,0)))∧a0A (Below w.heap.size w w'))
  case atStart =>exact ⟨(y131),(0),(by first | rfl | (simp;done) | (simp [*];done)),H',⟨Nat.le_refl _⟩,⟨by (with_reducible repeat (first | apply Kd.a1N | apply Kd.a1M | apply Kd.a1S));exact HO133.out⟩,⟨by (with_reducible repeat (first | refine a0L ?_ _ | refine a0M ?_ | refine a0K ?_ _));exact bD.out⟩,⟨by repeat (first | (with_reducible first | exact HB.out | apply a0D | apply a0B | apply a0E | refine a0I ?_ bJ.out) | exact HB.out)⟩⟩
  case round =>
   clear H'
   try clear c2
   try clear c2b0
   try clear c2b1
   try clear p2
   try clear c3
   obtain ⟨aG,aD,rfl,HA,HK1,cD,bD,HB⟩:=hrel
   cases gk with
   | zero =>exact absurd HA.out (by simp [r01_Lex.l0])
   | succ k1 =>
    have H:=HA.out
    clear HA
    simp only [r01_Lex.l0] at H
    by_cases c6:aD < (a0.size:Int)
    ·rw [if_pos c6] at H
     have c6b0:decide (aD < (a0.size:Int)) = true:=decide_eq_true c6
     clear c6
     by_cases c7:0≤aD
     ·rw [if_pos c7] at H
      have c7b0:decide (0≤aD) = true:=decide_eq_true c7
      clear c7
      replace H:=Option.bind_eq_some_iff.mp H
      obtain ⟨t134,A90,H⟩:=H
      replace H:(if t134 = true then (r01_Lex.l0 k1 a0 aG (wrap64 (aD + 1))) else (if (bt a0 aD) = 35 then (none) else ((r01_Letter.f (bt a0 aD)).bind fun t135 =>(if t135 = true then (r01_Lex.l1 k1 a0 aG aD (wrap64 (aD + 1)) 0) else ((r01_Digit.f (bt a0 aD)).bind fun t143 =>(if t143 = true then (none) else ((r01_Sign.f k1 (bt a0 aD)).bind fun t144 =>(if t144 = true then (if aD≤(wrap64 (aD + 1)) then (if (wrap64 (aD + 1))≤(a0.size:Int) then (if aG.length < 4398046511104 then (r01_Lex.l0 k1 a0 (aG ++ [(⟨2,a0.extract (aD:Int).toNat ((wrap64 (aD + 1)):Int).toNat,aD⟩:S76)]) (wrap64 (aD + 1))) else (none)) else (none)) else (none)) else (none))))))))) = some (r1,r2,r3):=H
      have A9:=a0A.mk A90
      clear A90
      by_cases c10:t134 = true
      ·subst c10
       have H1:(r01_Lex.l0 k1 a0 aG (wrap64 (aD + 1))) = some (r1,r2,r3):=by rw [if_pos rfl] at H;exact H
       clear H
       have H:=H1
       clear H1
       have H':=a0A.mk H
       clear H
       have p8:0≤(aD:Int):=of_decide_eq_true (by first | (with_reducible assumption) | assumption)
       have q8:aD < (a0.size:Int):=of_decide_eq_true (by first | (with_reducible assumption) | assumption)
       have hx8:=a5A a0 aD
       replace p8:=eq_true p8
       replace q8:=eq_true q8
       go_wp2_with (first | ((with_reducible refine a1H (f:=45) rfl ?_);refine a2G (some 22) rfl rfl Try.func45 (by kernel_rfl) rfl #[.int .u8 (bt a0 aD)] rfl (by (try simp only [List.map_toArray,List.map_cons,List.map_nil]);first | done | rfl | (simp only [List.length_drop,List.length_take];rfl)) ?_;(with_reducible refine (r01_Blank.calls (bt a0 aD) true _ A9.out).mono ?_);rintro e w' ⟨rfl,⟨nd,rfl⟩⟩;refine ⟨_,rfl,?_⟩))
       go_roundg k1
       case measure =>have:=HK1.out;omega
       case rel =>exact ⟨(aG),(wrap64 (aD + 1)),(by first | rfl | (simp;done) | (simp [*];done)),H',⟨by have:=HK1.out;omega⟩,⟨by (with_reducible repeat (first | apply Kd.a1N | apply Kd.a1M | apply Kd.a1S));exact cD.out⟩,⟨by (with_reducible repeat (first | refine a0L ?_ _ | refine a0M ?_ | refine a0K ?_ _));exact bD.out⟩,⟨by repeat (first | (with_reducible first | exact HB.out | apply a0D | apply a0B | apply a0E | refine a0I ?_ bJ.out) | exact HB.out)⟩⟩
      ·replace c10:=Bool.eq_false_iff.mpr c10
       subst c10
       have H1:(if (bt a0 aD) = 35 then (none) else ((r01_Letter.f (bt a0 aD)).bind fun t135 =>(if t135 = true then (r01_Lex.l1 k1 a0 aG aD (wrap64 (aD + 1)) 0) else ((r01_Digit.f (bt a0 aD)).bind fun t143 =>(if t143 = true then (none) else ((r01_Sign.f k1 (bt a0 aD)).bind fun t144 =>(if t144 = true then (if aD≤(wrap64 (aD + 1)) then (if (wrap64 (aD + 1))≤(a0.size:Int) then (if aG.length < 4398046511104 then (r01_Lex.l0 k1 a0 (aG ++ [(⟨2,a0.extract (aD:Int).toNat ((wrap64 (aD + 1)):Int).toNat,aD⟩:S76)]) (wrap64 (aD + 1))) else (none)) else (none)) else (none)) else (none)))))))) = some (r1,r2,r3):=by rw [if_neg (show ¬ (false = true) by decide)] at H;exact H
       clear H
       have H:=H1
       clear H1
       by_cases c11:(bt a0 aD) = 35
       ·rw [if_pos c11] at H
        exact absurd H (by simp)
       ·rw [if_neg c11] at H
        have c11b0:((bt a0 aD) == 35) = false:=beq_eq_false_iff_ne.mpr c11
        have c11b1:((bt a0 aD) != 35) = true:=bne_iff_ne.mpr c11
        replace H:=Option.bind_eq_some_iff.mp H
        obtain ⟨t135,A120,H⟩:=H
        replace H:(if t135 = true then (r01_Lex.l1 k1 a0 aG aD (wrap64 (aD + 1)) 0) else ((r01_Digit.f (bt a0 aD)).bind fun t143 =>(if t143 = true then (none) else ((r01_Sign.f k1 (bt a0 aD)).bind fun t144 =>(if t144 = true then (if aD≤(wrap64 (aD + 1)) then (if (wrap64 (aD + 1))≤(a0.size:Int) then (if aG.length < 4398046511104 then (r01_Lex.l0 k1 a0 (aG ++ [(⟨2,a0.extract (aD:Int).toNat ((wrap64 (aD + 1)):Int).toNat,aD⟩:S76)]) (wrap64 (aD + 1))) else (none)) else (none)) else (none)) else (none)))))) = some (r1,r2,r3):=H
        have A12:=a0A.mk A120
        clear A120
        by_cases c13:t135 = true
        ·subst c13
         have H1:(r01_Lex.l1 k1 a0 aG aD (wrap64 (aD + 1)) 0) = some (r1,r2,r3):=by rw [if_pos rfl] at H;exact H
         clear H
         have H:=H1
         clear H1
         have H':=a0A.mk H
         clear H
         have p8:0≤(aD:Int):=of_decide_eq_true (by first | (with_reducible assumption) | assumption)
         have q8:aD < (a0.size:Int):=of_decide_eq_true (by first | (with_reducible assumption) | assumption)
         have hx8:=a5A a0 aD
         replace p8:=eq_true p8
         replace q8:=eq_true q8
         go_wp2_with (first | ((with_reducible refine a1H (f:=45) rfl ?_);refine a2G (some 22) rfl rfl Try.func45 (by kernel_rfl) rfl #[.int .u8 (bt a0 aD)] rfl (by (try simp only [List.map_toArray,List.map_cons,List.map_nil]);first | done | rfl | (simp only [List.length_drop,List.length_take];rfl)) ?_;(with_reducible refine (r01_Blank.calls (bt a0 aD) false _ A9.out).mono ?_);rintro e w' ⟨rfl,⟨nd,rfl⟩⟩;refine ⟨_,rfl,?_⟩) | ((with_reducible refine a1H (f:=46) rfl ?_);refine a2G (some 42) rfl rfl Try.func46 (by kernel_rfl) rfl #[.int .u8 (bt a0 aD)] rfl (by (try simp only [List.map_toArray,List.map_cons,List.map_nil]);first | done | rfl | (simp only [List.length_drop,List.length_take];rfl)) ?_;(with_reducible refine (r01_Letter.calls (bt a0 aD) true _ A12.out).mono ?_);rintro e w' ⟨rfl,⟨nd,rfl⟩⟩;refine ⟨_,rfl,?_⟩))
         go_loopg [7] k1 (fun kq v7 w' =>∃ (bC:Int),v7 = .int .i64 bC∧a0A (r01_Lex.l1 kq a0 aG aD bC 0 = some (r1,r2,r3))∧a0A (kq≤k1)∧a0A (Kd.R k76 76 w' w.heap.size (fun _ =>True) u4 aG)∧a0A (w'.heap[bO]? = some (.cells #[.int .i64 0,.int .i64 0] 35 (0,0)))∧a0A (Below w.heap.size w w'))
         case atStart =>exact ⟨(wrap64 (aD + 1)),(by first | rfl | (simp;done) | (simp [*];done)),H',⟨Nat.le_refl _⟩,⟨by (with_reducible repeat (first | apply Kd.a1N | apply Kd.a1M | apply Kd.a1S));exact cD.out⟩,⟨by (with_reducible repeat (first | refine a0L ?_ _ | refine a0M ?_ | refine a0K ?_ _));exact bD.out⟩,⟨by repeat (first | (with_reducible first | exact HB.out | apply a0D | apply a0B | apply a0E | refine a0I ?_ bJ.out) | exact HB.out)⟩⟩
         case round =>
          clear H'
          try clear c1
          try clear c2
          try clear c2b0
          try clear c2b1
          try clear p2
          try clear c3
          try clear c4
          try clear c6
          try clear c6b0
          try clear p6
          try clear c7
          try clear c7b0
          try clear p8
          try clear q8
          try clear hx8
          try clear c10
          try clear c11
          try clear c11b0
          try clear c11b1
          try clear c13
          try clear p2
          try clear p8
          try clear q8
          obtain ⟨bC,rfl,HA,HK2,cD,bD,HB⟩:=hrel
          cases gk with
          | zero =>exact absurd HA.out (by simp [r01_Lex.l1])
          | succ k2 =>
           have H:=HA.out
           clear HA
           simp only [r01_Lex.l1] at H
           by_cases c14:bC < (a0.size:Int)
           ·rw [if_pos c14] at H
            have c14b0:decide (bC < (a0.size:Int)) = true:=decide_eq_true c14
            clear c14
            by_cases c15:0≤bC
            ·rw [if_pos c15] at H
             have c15b0:decide (0≤bC) = true:=decide_eq_true c15
             clear c15
             replace H:=Option.bind_eq_some_iff.mp H
             obtain ⟨t136,A170,H⟩:=H
             replace H:(if t136 = true then (r01_Lex.l1 k2 a0 aG aD (wrap64 (bC + 1)) 0) else (if 0≤aD then (if aD≤bC then (if bC≤(a0.size:Int) then (if aG.length < 4398046511104 then (r01_Lex.l0 k2 a0 (aG ++ [(⟨0,a0.extract (aD:Int).toNat (bC:Int).toNat,aD⟩:S76)]) bC) else (none)) else (none)) else (none)) else (none))) = some (r1,r2,r3):=H
             have A17:=a0A.mk A170
             clear A170
             by_cases c18:t136 = true
             ·subst c18
              have H1:(r01_Lex.l1 k2 a0 aG aD (wrap64 (bC + 1)) 0) = some (r1,r2,r3):=by rw [if_pos rfl] at H;exact H
              clear H
              have H:=H1
              clear H1
              have H':=a0A.mk H
              clear H
              have p16:0≤(bC:Int):=of_decide_eq_true (by first | (with_reducible assumption) | assumption)
              have q16:bC < (a0.size:Int):=of_decide_eq_true (by first | (with_reducible assumption) | assumption)
              have hx16:=a5A a0 bC
              replace p16:=eq_true p16
              replace q16:=eq_true q16
              go_wp2_with (first | (go_at_call 47;(with_reducible refine (r01_Inner.calls (bt a0 bC) true _ A17.out).mono ?_);rintro e w' ⟨rfl,⟨nd,rfl⟩⟩))
              go_roundg k2
              case measure =>have:=HK1.out;have:=HK2.out;omega
              case rel =>exact ⟨(wrap64 (bC + 1)),(by first | rfl | (simp;done) | (simp [*];done)),H',⟨by have:=HK1.out;have:=HK2.out;omega⟩,⟨by (with_reducible repeat (first | apply Kd.a1N | apply Kd.a1M | apply Kd.a1S));exact cD.out⟩,⟨by (with_reducible repeat (first | refine a0L ?_ _ | refine a0M ?_ | refine a0K ?_ _));exact bD.out⟩,⟨by repeat (first | (with_reducible first | exact HB.out | apply a0D | apply a0B | apply a0E | refine a0I ?_ bJ.out) | exact HB.out)⟩⟩
             ·replace c18:=Bool.eq_false_iff.mpr c18
              subst c18
              have H1:(if 0≤aD then (if aD≤bC then (if bC≤(a0.size:Int) then (if aG.length < 4398046511104 then (r01_Lex.l0 k2 a0 (aG ++ [(⟨0,a0.extract (aD:Int).toNat (bC:Int).toNat,aD⟩:S76)]) bC) else (none)) else (none)) else (none)) else (none)) = some (r1,r2,r3):=by rw [if_neg (show ¬ (false = true) by decide)] at H;exact H
              clear H
              have H:=H1
              clear H1
              by_cases c19:0≤aD
              ·rw [if_pos c19] at H
               have c19b0:=eq_true c19
               have c19b1:decide (0≤aD) = true:=decide_eq_true c19
               clear c19
               by_cases c20:aD≤bC
               ·rw [if_pos c20] at H
                have c20b0:=eq_true c20
                have c20b1:decide (aD≤bC) = true:=decide_eq_true c20
                clear c20
                by_cases c21:bC≤(a0.size:Int)
                ·rw [if_pos c21] at H
                 have c21b0:=eq_true c21
                 have c21b1:decide (bC≤(a0.size:Int)) = true:=decide_eq_true c21
                 clear c21
                 by_cases c22:aG.length < 4398046511104
                 ·rw [if_pos c22] at H
                  have LMc22:=a0A.mk c22
                  clear c22
                  obtain ⟨y137,hy137⟩:∃ y_:List (S76),y_ = (aG ++ [(⟨0,a0.extract (aD:Int).toNat (bC:Int).toNat,aD⟩:S76)]):=⟨_,rfl⟩
                  replace H:(r01_Lex.l0 k2 a0 y137 bC) = some (r1,r2,r3):=by first | (rw [hy137];with_reducible exact H) | (have H2_:=(Option.bind_some _ _).symm.trans H;rw [hy137];with_reducible exact H2_) | (have H2_:=(Option.bind_some _ _).symm.trans H;with_reducible exact H2_) | with_reducible exact H | (rw [hy137];exact H) | exact H
                  have Ny137:=a0A.mk hy137
                  clear hy137
                  have H':=a0A.mk H
                  clear H
                  have p16:0≤(bC:Int):=of_decide_eq_true (by first | (with_reducible assumption) | assumption)
                  have q16:bC < (a0.size:Int):=of_decide_eq_true (by first | (with_reducible assumption) | assumption)
                  have hx16:=a5A a0 bC
                  replace p16:=eq_true p16
                  replace q16:=eq_true q16
                  go_wp2_with (first | (go_at_call 47;(with_reducible refine (r01_Inner.calls (bt a0 bC) false _ A17.out).mono ?_);rintro e w' ⟨rfl,⟨nd,rfl⟩⟩) | ((with_reducible refine a2C (b:=.append) (xs:=#[.tmp 87,.tmp 95]) rfl ?_);at_builtin;refine Kd.a4G k76 (w0:=w) w.heap.size rfl (.tmp 87) (.tmp 95) 62 76 (.agg #[(.int .i64 0),(.string ⟨#[]⟩),(.int .i64 0)]) 32 rfl Try.underlying62 b5N rfl (by decide) (by omega) u4 aG (⟨0,a0.extract (aD:Int).toNat (bC:Int).toNat,aD⟩:S76) [.int .i64 0,.string (a0.extract (aD:Int).toNat (bC:Int).toNat),.int .i64 aD] (fun _ =>True) (fun _ =>False) rfl rfl ?aP (fun _ hk =>hk.elim) ?aF ?aO ?aB ?aS ?aL ?_;(case aP =>exact b2F _ _ _ (⟨0,a0.extract (aD:Int).toNat (bC:Int).toNat,aD⟩:S76));(case aB =>exact (by repeat (first | (with_reducible first | exact HB.out | apply a0D | apply a0B | apply a0E | refine a0I ?_ bJ.out) | exact HB.out)));(case aF =>exact (fun _ _ =>trivial));(case aO =>exact (by (with_reducible repeat (first | apply Kd.a1N | apply Kd.a1M | apply Kd.a1S));exact cD.out));(case aS =>exact (a0V (by repeat (first | (with_reducible first | exact HB.out | apply a0D | apply a0B | apply a0E | refine a0I ?_ bJ.out) | exact HB.out))));(case aL =>have:=LMc22.out;omega);intro v138 w23 ho hb hg hat;rw [← Ny137.out] at ho;have aZ:=a0A.mk (a4E (g:=bO) (o:=.cells #[.int .i64 0,.int .i64 0] 35 (0,0)) (by (with_reducible repeat (first | refine a0L ?_ _ | refine a0M ?_ | refine a0K ?_ _));exact bD.out) hg (Kd.R_ne cD.out bD.out (by decide)));have bB:=a0A.mk (hb);have bI:=a0A.mk (ho);clear bD;clear HB;clear cD;have bD:=aZ;have HB:=bB;have HO139:=bI;clear aZ bB bI;clear ho hb hg hat))
                  go_roundg k2
                  case measure =>have:=HK1.out;have:=HK2.out;omega
                  case rel =>exact ⟨(y137),(bC),(by first | rfl | (simp;done) | (simp [*];done)),H',⟨by have:=HK1.out;have:=HK2.out;omega⟩,⟨by (with_reducible repeat (first | apply Kd.a1N | apply Kd.a1M | apply Kd.a1S));exact HO139.out⟩,⟨by (with_reducible repeat (first | refine a0L ?_ _ | refine a0M ?_ | refine a0K ?_ _));exact bD.out⟩,⟨by repeat (first | (with_reducible first | exact HB.out | apply a0D | apply a0B | apply a0E | refine a0I ?_ bJ.out) | exact HB.out)⟩⟩
                 ·rw [if_neg c22] at H
                  exact absurd H (by simp)
                ·rw [if_neg c21] at H
                 exact absurd H (by simp)
               ·rw [if_neg c20] at H
                exact absurd H (by simp)
              ·rw [if_neg c19] at H
               exact absurd H (by simp)
            ·rw [if_neg c15] at H
             exact absurd H (by simp)
           ·rw [if_neg c14] at H
            have c14b0:decide (bC < (a0.size:Int)) = false:=decide_eq_false c14
            clear c14
            by_cases c24:0≤aD
            ·rw [if_pos c24] at H
             have c24b0:=eq_true c24
             have c24b1:decide (0≤aD) = true:=decide_eq_true c24
             clear c24
             by_cases c25:aD≤bC
             ·rw [if_pos c25] at H
              have c25b0:=eq_true c25
              have c25b1:decide (aD≤bC) = true:=decide_eq_true c25
              clear c25
              by_cases c26:bC≤(a0.size:Int)
              ·rw [if_pos c26] at H
               have c26b0:=eq_true c26
               have c26b1:decide (bC≤(a0.size:Int)) = true:=decide_eq_true c26
               clear c26
               by_cases c27:aG.length < 4398046511104
               ·rw [if_pos c27] at H
                have LMc27:=a0A.mk c27
                clear c27
                obtain ⟨y140,hy140⟩:∃ y_:List (S76),y_ = (aG ++ [(⟨0,a0.extract (aD:Int).toNat (bC:Int).toNat,aD⟩:S76)]):=⟨_,rfl⟩
                replace H:(r01_Lex.l0 k2 a0 y140 bC) = some (r1,r2,r3):=by first | (rw [hy140];with_reducible exact H) | (have H2_:=(Option.bind_some _ _).symm.trans H;rw [hy140];with_reducible exact H2_) | (have H2_:=(Option.bind_some _ _).symm.trans H;with_reducible exact H2_) | with_reducible exact H | (rw [hy140];exact H) | exact H
                have Ny140:=a0A.mk hy140
                clear hy140
                have H':=a0A.mk H
                clear H
                go_wp2_with (first | ((with_reducible refine a2C (b:=.append) (xs:=#[.tmp 87,.tmp 95]) rfl ?_);at_builtin;refine Kd.a4G k76 (w0:=w) w.heap.size rfl (.tmp 87) (.tmp 95) 62 76 (.agg #[(.int .i64 0),(.string ⟨#[]⟩),(.int .i64 0)]) 32 rfl Try.underlying62 b5N rfl (by decide) (by omega) u4 aG (⟨0,a0.extract (aD:Int).toNat (bC:Int).toNat,aD⟩:S76) [.int .i64 0,.string (a0.extract (aD:Int).toNat (bC:Int).toNat),.int .i64 aD] (fun _ =>True) (fun _ =>False) rfl rfl ?aP (fun _ hk =>hk.elim) ?aF ?aO ?aB ?aS ?aL ?_;(case aP =>exact b2F _ _ _ (⟨0,a0.extract (aD:Int).toNat (bC:Int).toNat,aD⟩:S76));(case aB =>exact (by repeat (first | (with_reducible first | exact HB.out | apply a0D | apply a0B | apply a0E | refine a0I ?_ bJ.out) | exact HB.out)));(case aF =>exact (fun _ _ =>trivial));(case aO =>exact (by (with_reducible repeat (first | apply Kd.a1N | apply Kd.a1M | apply Kd.a1S));exact cD.out));(case aS =>exact (a0V (by repeat (first | (with_reducible first | exact HB.out | apply a0D | apply a0B | apply a0E | refine a0I ?_ bJ.out) | exact HB.out))));(case aL =>have:=LMc27.out;omega);intro v141 w28 ho hb hg hat;rw [← Ny140.out] at ho;have aZ:=a0A.mk (a4E (g:=bO) (o:=.cells #[.int .i64 0,.int .i64 0] 35 (0,0)) (by (with_reducible repeat (first | refine a0L ?_ _ | refine a0M ?_ | refine a0K ?_ _));exact bD.out) hg (Kd.R_ne cD.out bD.out (by decide)));have bB:=a0A.mk (hb);have bI:=a0A.mk (ho);clear bD;clear HB;clear cD;have bD:=aZ;have HB:=bB;have HO142:=bI;clear aZ bB bI;clear ho hb hg hat))
                go_roundg k2
                case measure =>have:=HK1.out;have:=HK2.out;omega
                case rel =>exact ⟨(y140),(bC),(by first | rfl | (simp;done) | (simp [*];done)),H',⟨by have:=HK1.out;have:=HK2.out;omega⟩,⟨by (with_reducible repeat (first | apply Kd.a1N | apply Kd.a1M | apply Kd.a1S));exact HO142.out⟩,⟨by (with_reducible repeat (first | refine a0L ?_ _ | refine a0M ?_ | refine a0K ?_ _));exact bD.out⟩,⟨by repeat (first | (with_reducible first | exact HB.out | apply a0D | apply a0B | apply a0E | refine a0I ?_ bJ.out) | exact HB.out)⟩⟩
               ·rw [if_neg c27] at H
                exact absurd H (by simp)
              ·rw [if_neg c26] at H
               exact absurd H (by simp)
             ·rw [if_neg c25] at H
              exact absurd H (by simp)
            ·rw [if_neg c24] at H
             exact absurd H (by simp)
        ·replace c13:=Bool.eq_false_iff.mpr c13
         subst c13
         have H1:((r01_Digit.f (bt a0 aD)).bind fun t143 =>(if t143 = true then (none) else ((r01_Sign.f k1 (bt a0 aD)).bind fun t144 =>(if t144 = true then (if aD≤(wrap64 (aD + 1)) then (if (wrap64 (aD + 1))≤(a0.size:Int) then (if aG.length < 4398046511104 then (r01_Lex.l0 k1 a0 (aG ++ [(⟨2,a0.extract (aD:Int).toNat ((wrap64 (aD + 1)):Int).toNat,aD⟩:S76)]) (wrap64 (aD + 1))) else (none)) else (none)) else (none)) else (none))))) = some (r1,r2,r3):=by rw [if_neg (show ¬ (false = true) by decide)] at H;exact H
         clear H
         have H:=H1
         clear H1
         replace H:=Option.bind_eq_some_iff.mp H
         obtain ⟨t143,A290,H⟩:=H
         replace H:(if t143 = true then (none) else ((r01_Sign.f k1 (bt a0 aD)).bind fun t144 =>(if t144 = true then (if aD≤(wrap64 (aD + 1)) then (if (wrap64 (aD + 1))≤(a0.size:Int) then (if aG.length < 4398046511104 then (r01_Lex.l0 k1 a0 (aG ++ [(⟨2,a0.extract (aD:Int).toNat ((wrap64 (aD + 1)):Int).toNat,aD⟩:S76)]) (wrap64 (aD + 1))) else (none)) else (none)) else (none)) else (none)))) = some (r1,r2,r3):=H
         have A29:=a0A.mk A290
         clear A290
         by_cases c30:t143 = true
         ·subst c30
          have H1:(none) = some (r1,r2,r3):=by rw [if_pos rfl] at H;exact H
          clear H
          have H:=H1
          clear H1
          exact absurd H (by simp)
         ·replace c30:=Bool.eq_false_iff.mpr c30
          subst c30
          have H1:((r01_Sign.f k1 (bt a0 aD)).bind fun t144 =>(if t144 = true then (if aD≤(wrap64 (aD + 1)) then (if (wrap64 (aD + 1))≤(a0.size:Int) then (if aG.length < 4398046511104 then (r01_Lex.l0 k1 a0 (aG ++ [(⟨2,a0.extract (aD:Int).toNat ((wrap64 (aD + 1)):Int).toNat,aD⟩:S76)]) (wrap64 (aD + 1))) else (none)) else (none)) else (none)) else (none))) = some (r1,r2,r3):=by rw [if_neg (show ¬ (false = true) by decide)] at H;exact H
          clear H
          have H:=H1
          clear H1
          replace H:=Option.bind_eq_some_iff.mp H
          obtain ⟨t144,A310,H⟩:=H
          replace H:(if t144 = true then (if aD≤(wrap64 (aD + 1)) then (if (wrap64 (aD + 1))≤(a0.size:Int) then (if aG.length < 4398046511104 then (r01_Lex.l0 k1 a0 (aG ++ [(⟨2,a0.extract (aD:Int).toNat ((wrap64 (aD + 1)):Int).toNat,aD⟩:S76)]) (wrap64 (aD + 1))) else (none)) else (none)) else (none)) else (none)) = some (r1,r2,r3):=H
          have A31:=a0A.mk A310
          clear A310
          by_cases c32:t144 = true
          ·subst c32
           have H1:(if aD≤(wrap64 (aD + 1)) then (if (wrap64 (aD + 1))≤(a0.size:Int) then (if aG.length < 4398046511104 then (r01_Lex.l0 k1 a0 (aG ++ [(⟨2,a0.extract (aD:Int).toNat ((wrap64 (aD + 1)):Int).toNat,aD⟩:S76)]) (wrap64 (aD + 1))) else (none)) else (none)) else (none)) = some (r1,r2,r3):=by rw [if_pos rfl] at H;exact H
           clear H
           have H:=H1
           clear H1
           have c33b0:=eq_true (of_decide_eq_true (by first | (with_reducible assumption) | assumption):0≤aD)
           by_cases c34:aD≤(wrap64 (aD + 1))
           ·rw [if_pos c34] at H
            have c34b0:=eq_true c34
            have c34b1:decide (aD≤(wrap64 (aD + 1))) = true:=decide_eq_true c34
            by_cases c35:(wrap64 (aD + 1))≤(a0.size:Int)
            ·rw [if_pos c35] at H
             have c35b0:=eq_true c35
             have c35b1:decide ((wrap64 (aD + 1))≤(a0.size:Int)) = true:=decide_eq_true c35
             by_cases c36:aG.length < 4398046511104
             ·rw [if_pos c36] at H
              have LMc36:=a0A.mk c36
              clear c36
              obtain ⟨y145,hy145⟩:∃ y_:List (S76),y_ = (aG ++ [(⟨2,a0.extract (aD:Int).toNat ((wrap64 (aD + 1)):Int).toNat,aD⟩:S76)]):=⟨_,rfl⟩
              replace H:(r01_Lex.l0 k1 a0 y145 (wrap64 (aD + 1))) = some (r1,r2,r3):=by first | (rw [hy145];with_reducible exact H) | (have H2_:=(Option.bind_some _ _).symm.trans H;rw [hy145];with_reducible exact H2_) | (have H2_:=(Option.bind_some _ _).symm.trans H;with_reducible exact H2_) | with_reducible exact H | (rw [hy145];exact H) | exact H
              have Ny145:=a0A.mk hy145
              clear hy145
              have H':=a0A.mk H
              clear H
              have p8:0≤(aD:Int):=of_decide_eq_true (by first | (with_reducible assumption) | assumption)
              have q8:aD < (a0.size:Int):=of_decide_eq_true (by first | (with_reducible assumption) | assumption)
              have hx8:=a5A a0 aD
              replace p8:=eq_true p8
              replace q8:=eq_true q8
              go_wp2_with (first | ((with_reducible refine a1H (f:=45) rfl ?_);refine a2G (some 22) rfl rfl Try.func45 (by kernel_rfl) rfl #[.int .u8 (bt a0 aD)] rfl (by (try simp only [List.map_toArray,List.map_cons,List.map_nil]);first | done | rfl | (simp only [List.length_drop,List.length_take];rfl)) ?_;(with_reducible refine (r01_Blank.calls (bt a0 aD) false _ A9.out).mono ?_);rintro e w' ⟨rfl,⟨nd,rfl⟩⟩;refine ⟨_,rfl,?_⟩) | ((with_reducible refine a1H (f:=46) rfl ?_);refine a2G (some 42) rfl rfl Try.func46 (by kernel_rfl) rfl #[.int .u8 (bt a0 aD)] rfl (by (try simp only [List.map_toArray,List.map_cons,List.map_nil]);first | done | rfl | (simp only [List.length_drop,List.length_take];rfl)) ?_;(with_reducible refine (r01_Letter.calls (bt a0 aD) false _ A12.out).mono ?_);rintro e w' ⟨rfl,⟨nd,rfl⟩⟩;refine ⟨_,rfl,?_⟩) | ((with_reducible refine a1H (f:=48) rfl ?_);refine a2G (some 56) rfl rfl Try.func48 (by kernel_rfl) rfl #[.int .u8 (bt a0 aD)] rfl (by (try simp only [List.map_toArray,List.map_cons,List.map_nil]);first | done | rfl | (simp only [List.length_drop,List.length_take];rfl)) ?_;(with_reducible refine (r01_Digit.calls (bt a0 aD) false _ A29.out).mono ?_);rintro e w' ⟨rfl,⟨nd,rfl⟩⟩;refine ⟨_,rfl,?_⟩) | ((with_reducible refine a1H (f:=49) rfl ?_);refine a2G (some 83) rfl rfl Try.func49 (by kernel_rfl) rfl #[.int .u8 (bt a0 aD)] rfl (by (try simp only [List.map_toArray,List.map_cons,List.map_nil]);first | done | rfl | (simp only [List.length_drop,List.length_take];rfl)) ?_;(with_reducible refine (r01_Sign.calls k1 (bt a0 aD) true _ A31.out).mono ?_);rintro e w' ⟨rfl,⟨nd,rfl⟩⟩;refine ⟨_,rfl,?_⟩) | ((with_reducible refine a2C (b:=.append) (xs:=#[.tmp 87,.tmp 95]) rfl ?_);at_builtin;refine Kd.a4G k76 (w0:=w) w.heap.size rfl (.tmp 87) (.tmp 95) 62 76 (.agg #[(.int .i64 0),(.string ⟨#[]⟩),(.int .i64 0)]) 32 rfl Try.underlying62 b5N rfl (by decide) (by omega) u4 aG (⟨2,a0.extract (aD:Int).toNat ((wrap64 (aD + 1)):Int).toNat,aD⟩:S76) [.int .i64 2,.string (a0.extract (aD:Int).toNat ((wrap64 (aD + 1)):Int).toNat),.int .i64 aD] (fun _ =>True) (fun _ =>False) rfl rfl ?aP (fun _ hk =>hk.elim) ?aF ?aO ?aB ?aS ?aL ?_;(case aP =>exact b2F _ _ _ (⟨2,a0.extract (aD:Int).toNat ((wrap64 (aD + 1)):Int).toNat,aD⟩:S76));(case aB =>exact (by repeat (first | (with_reducible first | exact HB.out | apply a0D | apply a0B | apply a0E | refine a0I ?_ bJ.out) | exact HB.out)));(case aF =>exact (fun _ _ =>trivial));(case aO =>exact (by (with_reducible repeat (first | apply Kd.a1N | apply Kd.a1M | apply Kd.a1S));exact cD.out));(case aS =>exact (a0V (by repeat (first | (with_reducible first | exact HB.out | apply a0D | apply a0B | apply a0E | refine a0I ?_ bJ.out) | exact HB.out))));(case aL =>have:=LMc36.out;omega);intro v146 w37 ho hb hg hat;rw [← Ny145.out] at ho;have aZ:=a0A.mk (a4E (g:=bO) (o:=.cells #[.int .i64 0,.int .i64 0] 35 (0,0)) (by (with_reducible repeat (first | refine a0L ?_ _ | refine a0M ?_ | refine a0K ?_ _));exact bD.out) hg (Kd.R_ne cD.out bD.out (by decide)));have bB:=a0A.mk (hb);have bI:=a0A.mk (ho);clear bD;clear HB;clear cD;have bD:=aZ;have HB:=bB;have HO147:=bI;clear aZ bB bI;clear ho hb hg hat))
              go_roundg k1
              case measure =>have:=HK1.out;omega
              case rel =>exact ⟨(y145),(wrap64 (aD + 1)),(by first | rfl | (simp;done) | (simp [*];done)),H',⟨by have:=HK1.out;omega⟩,⟨by (with_reducible repeat (first | apply Kd.a1N | apply Kd.a1M | apply Kd.a1S));exact HO147.out⟩,⟨by (with_reducible repeat (first | refine a0L ?_ _ | refine a0M ?_ | refine a0K ?_ _));exact bD.out⟩,⟨by repeat (first | (with_reducible first | exact HB.out | apply a0D | apply a0B | apply a0E | refine a0I ?_ bJ.out) | exact HB.out)⟩⟩
             ·rw [if_neg c36] at H
              exact absurd H (by simp)
            ·rw [if_neg c35] at H
             exact absurd H (by simp)
           ·rw [if_neg c34] at H
            exact absurd H (by simp)
          ·replace c32:=Bool.eq_false_iff.mpr c32
           subst c32
           have H1:(none) = some (r1,r2,r3):=by rw [if_neg (show ¬ (false = true) by decide)] at H;exact H
           clear H
           have H:=H1
           clear H1
           exact absurd H (by simp)
     ·rw [if_neg c7] at H
      exact absurd H (by simp)
    ·rw [if_neg c6] at H
     have c6b0:decide (aD < (a0.size:Int)) = false:=decide_eq_false c6
     clear c6
     simp only [Option.some.injEq,Prod.mk.injEq] at H
     obtain ⟨rfl,rfl,rfl⟩:=H
     have lK:wr.cell? ⟨bO,0,none⟩ = some (.int .i64 0):=(a0G bD.out 0).trans rfl
     have lL:wr.cell? ⟨bO,1,none⟩ = some (.int .i64 0):=(a0G bD.out 1).trans rfl
     have lM:=a0F bD.out 0
     have lN:=a0F bD.out 1
     go_wp2
     refine bodyPost_ret (b3N rfl _ _ bO 35 #[.int .i64 0,.int .i64 0] (0,0) _ rfl (by (with_reducible repeat (first | refine a0L ?_ _ | refine a0M ?_ | refine a0K ?_ _));refine a2N (cs:=#[.int .i64 0,.int .i64 0]) ?_ 1 _ rfl;(with_reducible repeat (first | refine a0L ?_ _ | refine a0M ?_ | refine a0K ?_ _));refine a2N (cs:=#[.int .i64 0,.int .i64 0]) ?_ 0 _ rfl;(with_reducible repeat (first | refine a0L ?_ _ | refine a0M ?_ | refine a0K ?_ _));exact bD.out) Try.underlying35 rfl (by kernel_rfl)) rfl ?_
     exact ⟨_,by first | rfl | (simp [a0T,a0S] <;> rfl) | (simp [*,a0T,a0S] <;> rfl),by (with_reducible repeat (first | apply Kd.a1N | apply Kd.a1M | apply Kd.a1S));exact Kd.a5P (Kd.R_far (p:=⟨bO,1,none⟩) (Kd.R_far (p:=⟨bO,0,none⟩) (Kd.R_types cD.out bD.out (by decide)) (fun _ hk =>hk.2) (.int .i64 0)) (fun _ hk =>hk.2) (.int .i64 0)) (fun _ hk =>trivial),by repeat (first | (with_reducible first | exact HB.out | apply a0D | apply a0B | apply a0E | refine a0I ?_ bJ.out) | exact HB.out)⟩
mutual
def r03_Deep.l0:Nat→List (S46)→Int→Int→Int→Option (Int)
 | 0,_,_,_,_ =>none
 | k + 1,x0,x1,x5,x6 =>if x6 < (x0.length:Int) then (r03_Deep.j1 k x0 x1 x5 x6 (decide (x1 > 0))) else (r03_Deep.j1 k x0 x1 x5 x6 false)
def r03_Deep.j1:Nat→List (S46)→Int→Int→Int→Bool→Option (Int)
 | 0,_,_,_,_,_ =>none
 | k + 1,x0,x1,x5,x6,x14 =>if x14 = true then (if 0≤x6 then (if x6 < (x0.length:Int) then ((r03_Deep.f k ((a0J x0 x6).f6) (wrap64 (x1 - 1))).bind fun t149 =>((r03_Deep.f k ((a0J x0 x6).f7) (wrap64 (x1 - 1))).bind fun t151 =>(r03_Deep.l0 k x0 x1 (mx x5 (wrap64 (1 + (mx t149 t151)))) (wrap64 (x6 + 1))))) else (none)) else (none)) else (some x5)
def r03_Deep.f:Nat→List (S46)→Int→Option (Int)
 | 0,_,_ =>none
 | k + 1,l0,a1 =>r03_Deep.l0 k l0 a1 0 0
end
def r03_Deep.T5:Bool × List (List Nat × List Nat):=(true,[([],[]),([],[]),([],[]),([1,2],[1,2]),([3],[3]),([4],[4]),([],[]),([6],[6]),([5,7],[5,7]),([],[]),([],[]),([9,10],[9,10]),([11],[11]),([12],[12]),([],[]),([14],[14]),([13,15,8],[13,15]),([8,16],[8,16]),([17],[17]),([0,18],[0,18]),([19,16,0,1,2,3,4,5,6,7,8,9,10,11,12,13,14,15,16,17,18,19],[0,19])])
def r03_Deep.B5:List Nat:=[0,0,0,6,14,30,0,64,254,0,0,1536,3584,7680,0,16384,65534,131070,262142,524287,1048575]
theorem r03_Deep.tab5:rtab .any (opsOf Try.f22 5) = r03_Deep.T5:=by kernel_rfl
theorem r03_Deep.bits5:waitsOk r03_Deep.T5.2 r03_Deep.B5 = true:=by kernel_rfl
set_option maxHeartbeats 8000000 in
set_option maxRecDepth 100000 in
theorem r03_Deep.calls (k:Nat):∀ (A0:Option Addr) (c0:Nat) (l0:List (S46)) (a1:Int) (r:Int) (w:World) (hr0:Kd.C k46 w A0 l0.length l0) (hc0:l0.length≤c0) (h:r03_Deep.f k l0 a1 = some r),
    Calls Try.prog 22 #[.slice A0 l0.length c0,.int .i64 a1] w fun e w' =>e = .returned (.int .i64 r)∧Below w.heap.size w w':=by
 induction k using Nat.strongRecOn with
 | _ k ih =>
 intro A0 c0 l0 a1 r w hr0 hc0 h
 cases k with
 | zero =>exact absurd h (by simp [r03_Deep.f])
 | succ k =>
 simp only [r03_Deep.f] at h
 have HR0:=a0A.mk hr0
 have HC0:=a0A.mk hc0
 clear hr0 hc0
 have HB:=a0A.mk (Below.refl w.heap.size w)
 have H:(r03_Deep.l0 k l0 a1 0 0) = some r:=h
 clear h
 have H':=a0A.mk H
 clear H
 go_enter Try.func22,Try.ntmps22
 go_wp2
 go_loopg [5,6] k (fun kq v5 v6 w' =>∃ (aD:Int) (aU:Int),v5 = .int .i64 aD∧v6 = .int .i64 aU∧a0A (r03_Deep.l0 kq l0 a1 aD aU = some r)∧a0A (kq≤k)∧a0A (Below w.heap.size w w'))
 case atStart =>exact ⟨(0),(0),(by first | rfl | (simp;done) | (simp [*];done)),(by first | rfl | (simp;done) | (simp [*];done)),H',⟨Nat.le_refl _⟩,⟨by repeat (first | (with_reducible first | exact HB.out | apply a0D | apply a0B | apply a0E) | exact HB.out)⟩⟩
 case round =>
  clear H'
  try clear c2
  try clear p2
  obtain ⟨aD,aU,rfl,rfl,HA,HK1,HB⟩:=hrel
  cases gk with
  | zero =>exact absurd HA.out (by simp [r03_Deep.l0])
  | succ k1 =>
   have H:=HA.out
   clear HA
   simp only [r03_Deep.l0] at H
   have HC3:=a0A.mk H
   clear H
   go_upto_region 3 with (fail)
   go_cut [14] (fun v14 wc =>∃ (kq:Nat) (gD:Bool),v14 = .bool gD∧a0A (r03_Deep.j1 kq l0 a1 aD aU gD = some r)∧a0A (kq≤k1)∧a0A (Below w.heap.size w wc))
   case first =>
    have H:=HC3.out
    clear HC3
    by_cases c4:aU < (l0.length:Int)
    ·rw [if_pos c4] at H
     have c4b0:decide (aU < (l0.length:Int)) = true:=decide_eq_true c4
     clear c4
     (first | rw [c4b0] | (simp only [a0X,a0Y];rw [c4b0]) | skip)
     have H':=a0A.mk H
     clear H
     go_wp2
     go_meet
     case rel =>exact ⟨_,(decide (a1 > 0)),(by first | rfl | (simp;done) | (simp [*];done)),H',⟨by have:=HK1.out;first | omega | exact Nat.le_refl _⟩,⟨by repeat (first | (with_reducible first | exact HB.out | apply a0D | apply a0B | apply a0E) | exact HB.out)⟩⟩
    ·rw [if_neg c4] at H
     have c4b0:decide (aU < (l0.length:Int)) = false:=decide_eq_false c4
     clear c4
     (first | rw [c4b0] | (simp only [a0X,a0Y];rw [c4b0]) | skip)
     have H':=a0A.mk H
     clear H
     go_wp2
     go_meet
     case rel =>exact ⟨_,(false),(by first | rfl | (simp;done) | (simp [*];done)),H',⟨by have:=HK1.out;first | omega | exact Nat.le_refl _⟩,⟨by repeat (first | (with_reducible first | exact HB.out | apply a0D | apply a0B | apply a0E) | exact HB.out)⟩⟩
   case rest =>
    clear HC3
    try clear c2
    try clear p2
    try clear c4
    try clear c4b0
    try clear p2
    obtain ⟨kq,gD,rfl,HA,HJ2,HB⟩:=hcut
    cases kq with
    | zero =>exact absurd HA.out (by simp [r03_Deep.j1])
    | succ kj2 =>
     have H:=HA.out
     clear HA
     simp only [r03_Deep.j1] at H
     by_cases c5:gD = true
     ·subst c5
      have H1:(if 0≤aU then (if aU < (l0.length:Int) then ((r03_Deep.f kj2 ((a0J l0 aU).f6) (wrap64 (a1 - 1))).bind fun t149 =>((r03_Deep.f kj2 ((a0J l0 aU).f7) (wrap64 (a1 - 1))).bind fun t151 =>(r03_Deep.l0 kj2 l0 a1 (mx aD (wrap64 (1 + (mx t149 t151)))) (wrap64 (aU + 1))))) else (none)) else (none)) = some r:=by rw [if_pos rfl] at H;exact H
      clear H
      have H:=H1
      clear H1
      by_cases c6:0≤aU
      ·rw [if_pos c6] at H
       have c6b0:decide (0≤aU) = true:=decide_eq_true c6
       clear c6
       by_cases c7:aU < (l0.length:Int)
       ·rw [if_pos c7] at H
        have c7b0:decide (aU < (l0.length:Int)) = true:=decide_eq_true c7
        clear c7
        replace H:=Option.bind_eq_some_iff.mp H
        obtain ⟨t149,A80,H⟩:=H
        replace H:((r03_Deep.f kj2 ((a0J l0 aU).f7) (wrap64 (a1 - 1))).bind fun t151 =>(r03_Deep.l0 kj2 l0 a1 (mx aD (wrap64 (1 + (mx t149 t151)))) (wrap64 (aU + 1)))) = some r:=H
        have A8:=a0A.mk A80
        clear A80
        replace H:=Option.bind_eq_some_iff.mp H
        obtain ⟨t151,A90,H⟩:=H
        replace H:(r03_Deep.l0 kj2 l0 a1 (mx aD (wrap64 (1 + (mx t149 t151)))) (wrap64 (aU + 1))) = some r:=H
        have A9:=a0A.mk A90
        clear A90
        obtain ⟨ji10,hji10⟩:∃ j_:Int,(mx t149 t151) = j_:=⟨_,rfl⟩
        replace H:(r03_Deep.l0 kj2 l0 a1 (mx aD (wrap64 (1 + (ji10)))) (wrap64 (aU + 1))) = some r:=by first | (rw [hji10] at H;exact H) | (simp only [hji10] at H ⊢;exact H)
        (try rw [hji10] at A8)
        (try rw [hji10] at A9)
        have hji10_:(if t149 < t151 then t151 else t149) = ji10:=hji10
        obtain ⟨ji11,hji11⟩:∃ j_:Int,(mx aD (wrap64 (1 + (ji10)))) = j_:=⟨_,rfl⟩
        replace H:(r03_Deep.l0 kj2 l0 a1 ji11 (wrap64 (aU + 1))) = some r:=by first | (rw [hji11] at H;exact H) | (simp only [hji11] at H ⊢;exact H)
        (try rw [hji11] at A8)
        (try rw [hji11] at A9)
        have hji11_:(if aD < (wrap64 (1 + (ji10))) then (wrap64 (1 + (ji10))) else aD) = ji11:=hji11
        have H':=a0A.mk H
        clear H
        try go_wp2
        have aZ:=a0A.mk (a0E HB.out)
        clear HB
        have HB:=aZ
        clear aZ
        have p148:0≤(aU:Int):=of_decide_eq_true (by first | (with_reducible assumption) | assumption)
        have q148:aU < (l0.length:Int):=of_decide_eq_true (by first | (with_reducible assumption) | assumption)
        obtain ⟨ad148,jQ,jR,jS,jT,fK,fL,fM,fN,e148,dJ,dK,dL,dM,cE,cF,cG,cH,gE,gF,gG,gH,gI,gJ,gK,gL⟩:=a3C HR0.out aU p148 q148
        have eC:=cH
        have eD:=cG
        have eE:=cF
        have eF:=cE
        have eG:=dM
        have eH:=dL
        have eI:=dK
        have eJ:=dJ
        cases e148
        replace dJ:=a0C HB.out dJ
        replace dK:=a0C HB.out dK
        replace dL:=a0C HB.out dL
        replace dM:=a0C HB.out dM
        replace cE:=a0C HB.out cE
        replace cF:=a0C HB.out cF
        replace cG:=a0C HB.out cG
        replace cH:=a0C HB.out cH
        have mF:=a0A.mk gF
        have aD9:=a0A.mk gE
        clear gF gE
        have mG:=a0A.mk gH
        have aE0:=a0A.mk gG
        clear gH gG
        have gM:=a0A.mk gJ
        have mH:=a0A.mk gI
        clear gJ gI
        have mI:=a0A.mk gL
        have aE1:=a0A.mk gK
        clear gL gK
        replace p148:=eq_true p148
        replace q148:=eq_true q148
        have p150:0≤(aU:Int):=of_decide_eq_true (by first | (with_reducible assumption) | assumption)
        have q150:aU < (l0.length:Int):=of_decide_eq_true (by first | (with_reducible assumption) | assumption)
        obtain ⟨ad150,aI0,aI1,aI2,aI3,aI4,aI5,aI6,aI7,e150,dN,dO,dP,dQ,cI,cJ,cK,cL,gN,gO,gP,gQ,gR,gS,gT,gU⟩:=a3C HR0.out aU p150 q150
        have eK:=cL
        have eL:=cK
        have eM:=cJ
        have eN:=cI
        have eO:=dQ
        have eP:=dP
        have eQ:=dO
        have eR:=dN
        obtain rfl:ad148 = ad150:=(by injection e150)
        replace dN:=a0C HB.out dN
        replace dO:=a0C HB.out dO
        replace dP:=a0C HB.out dP
        replace dQ:=a0C HB.out dQ
        replace cI:=a0C HB.out cI
        replace cJ:=a0C HB.out cJ
        replace cK:=a0C HB.out cK
        replace cL:=a0C HB.out cL
        have mJ:=a0A.mk gO
        have aE2:=a0A.mk gN
        clear gO gN
        have mK:=a0A.mk gQ
        have aE3:=a0A.mk gP
        clear gQ gP
        have mL:=a0A.mk gS
        have aE4:=a0A.mk gR
        clear gS gR
        have gV:=a0A.mk gU
        have mM:=a0A.mk gT
        clear gU gT
        replace p150:=eq_true p150
        replace q150:=eq_true q150
        have ea_:=Option.some.inj (cE.symm.trans cI)
        injection ea_ with ea_ en_ ec_
        subst ea_
        subst ec_
        clear en_
        have ea_:=Option.some.inj (cF.symm.trans cJ)
        injection ea_ with ea_ en_ ec_
        subst ea_
        subst ec_
        clear en_
        have ea_:=Option.some.inj (cG.symm.trans cK)
        injection ea_ with ea_ en_ ec_
        subst ea_
        subst ec_
        clear en_
        have ea_:=Option.some.inj (cH.symm.trans cL)
        injection ea_ with ea_ en_ ec_
        subst ea_
        subst ec_
        clear en_
        refine a4L (n:=21) (S:=fun w' =>w'.cell? (ad148.add ((aU).toNat * 8)) = some (.int .i64 ((a0J l0 aU).f0))∧w'.cell? ⟨(ad148.add ((aU).toNat * 8)).block,(ad148.add ((aU).toNat * 8)).off + 1,none⟩ = some (.string ((a0J l0 aU).f1))∧w'.cell? ⟨(ad148.add ((aU).toNat * 8)).block,(ad148.add ((aU).toNat * 8)).off + 2,none⟩ = some (.string ((a0J l0 aU).f2))∧w'.cell? ⟨(ad148.add ((aU).toNat * 8)).block,(ad148.add ((aU).toNat * 8)).off + 3,none⟩ = some (.string ((a0J l0 aU).f3))∧w'.cell? ⟨(ad148.add ((aU).toNat * 8)).block,(ad148.add ((aU).toNat * 8)).off + 4,none⟩ = some (.slice jQ ((a0J l0 aU).f4).length jR)∧w'.cell? ⟨(ad148.add ((aU).toNat * 8)).block,(ad148.add ((aU).toNat * 8)).off + 5,none⟩ = some (.slice jS ((a0J l0 aU).f5).length jT)∧w'.cell? ⟨(ad148.add ((aU).toNat * 8)).block,(ad148.add ((aU).toNat * 8)).off + 6,none⟩ = some (.slice fK ((a0J l0 aU).f6).length fL)∧w'.cell? ⟨(ad148.add ((aU).toNat * 8)).block,(ad148.add ((aU).toNat * 8)).off + 7,none⟩ = some (.slice fM ((a0J l0 aU).f7).length fN)∧w'.cell? (ad148.add ((aU).toNat * 8)) = some (.int .i64 ((a0J l0 aU).f0))∧w'.cell? ⟨(ad148.add ((aU).toNat * 8)).block,(ad148.add ((aU).toNat * 8)).off + 1,none⟩ = some (.string ((a0J l0 aU).f1))∧w'.cell? ⟨(ad148.add ((aU).toNat * 8)).block,(ad148.add ((aU).toNat * 8)).off + 2,none⟩ = some (.string ((a0J l0 aU).f2))∧w'.cell? ⟨(ad148.add ((aU).toNat * 8)).block,(ad148.add ((aU).toNat * 8)).off + 3,none⟩ = some (.string ((a0J l0 aU).f3))∧w'.cell? ⟨(ad148.add ((aU).toNat * 8)).block,(ad148.add ((aU).toNat * 8)).off + 4,none⟩ = some (.slice jQ ((a0J l0 aU).f4).length jR)∧w'.cell? ⟨(ad148.add ((aU).toNat * 8)).block,(ad148.add ((aU).toNat * 8)).off + 5,none⟩ = some (.slice jS ((a0J l0 aU).f5).length jT)∧w'.cell? ⟨(ad148.add ((aU).toNat * 8)).block,(ad148.add ((aU).toNat * 8)).off + 6,none⟩ = some (.slice fK ((a0J l0 aU).f6).length fL)∧w'.cell? ⟨(ad148.add ((aU).toNat * 8)).block,(ad148.add ((aU).toNat * 8)).off + 7,none⟩ = some (.slice fM ((a0J l0 aU).f7).length fN)) (ds:=[]) #[false,false,false,false,false,false,false,false,false,false,false,false,false,false,false,false,false,false,false,false,false] (by kernel_rfl) rfl rfl ⟨(a0C HB.out eJ),(a0C HB.out eI),(a0C HB.out eH),(a0C HB.out eG),(a0C HB.out eF),(a0C HB.out eE),(a0C HB.out eD),(a0C HB.out eC),(a0C HB.out eR),(a0C HB.out eQ),(a0C HB.out eP),(a0C HB.out eO),(a0C HB.out eN),(a0C HB.out eM),(a0C HB.out eL),(a0C HB.out eK)⟩ (fun hHeld =>?_);refine a2R r03_Deep.tab5 r03_Deep.bits5 (fun HT_ HW_ =>?_)
        generalize wc.drew = w12 at HB mF mG gM mI mJ mK mL gV dJ dK dL dM cE cF cG cH dN dO dP dQ cI cJ cK cL hHeld ⊢
        refine a1E (i:=0) (N:=some 17) (v:=?_) (a':=?_) #[true,false,false,false,false,false,false,false,false,false,false,false,false,false,false,false,false,false,false,false,false] rfl rfl (a0Z HT_.out (by kernel_rfl)) (fun _ _ _ h =>h) (Or.inl ⟨by rfl,?_⟩) ?_ ?_
        rotate_left
        ·intro w'
         go_simp
         with_reducible rfl
        rotate_left
        ·simp only [Act.put,List.setIfInBounds_toArray,List.set_cons_zero,List.set_cons_succ,a0X,a0Y]
         rfl
        refine a1E (i:=1) (N:=some 18) (v:=?_) (a':=?_) #[true,true,false,false,false,false,false,false,false,false,false,false,false,false,false,false,false,false,false,false,false] rfl rfl (a0Z HT_.out (by kernel_rfl)) (fun _ _ _ h =>h) (Or.inl ⟨by rfl,?_⟩) ?_ ?_
        rotate_left
        ·intro w'
         go_simp
         with_reducible rfl
        rotate_left
        ·simp only [Act.put,List.setIfInBounds_toArray,List.set_cons_zero,List.set_cons_succ,a0X,a0Y]
         rfl
        refine a1E (i:=2) (N:=some 19) (v:=?_) (a':=?_) #[true,true,true,false,false,false,false,false,false,false,false,false,false,false,false,false,false,false,false,false,false] rfl rfl (a0Z HT_.out (by kernel_rfl)) (fun _ _ _ h =>h) (Or.inl ⟨by rfl,?_⟩) ?_ ?_
        rotate_left
        ·intro w'
         go_simp
         with_reducible rfl
        rotate_left
        ·simp only [Act.put,List.setIfInBounds_toArray,List.set_cons_zero,List.set_cons_succ,a0X,a0Y]
         rfl
        refine a1E (i:=3) (N:=some 20) (v:=?_) (a':=?_) #[true,true,true,true,false,false,false,false,false,false,false,false,false,false,false,false,false,false,false,false,false] rfl rfl (a0Z HT_.out (by kernel_rfl)) (fun _ _ _ h =>h) (Or.inl ⟨by rfl,?_⟩) ?_ ?_
        rotate_left
        ·intro w'
         go_simp
         with_reducible rfl
        rotate_left
        ·simp only [Act.put,List.setIfInBounds_toArray,List.set_cons_zero,List.set_cons_succ,a0X,a0Y]
         rfl
        refine a1E (i:=4) (N:=some 21) (v:=?_) (a':=?_) #[true,true,true,true,true,false,false,false,false,false,false,false,false,false,false,false,false,false,false,false,false] rfl rfl (a0Z HT_.out (by kernel_rfl)) (fun _ _ _ h =>h) (Or.inl ⟨by rfl,?_⟩) ?_ ?_
        rotate_left
        ·intro w'
         go_simp
         with_reducible rfl
        rotate_left
        ·simp only [Act.put,List.setIfInBounds_toArray,List.set_cons_zero,List.set_cons_succ,a0X,a0Y]
         rfl
        refine a1E (i:=6) (N:=some 23) (v:=?_) (a':=?_) #[true,true,true,true,true,false,true,false,false,false,false,false,false,false,false,false,false,false,false,false,false] rfl rfl (a0Z HT_.out (by kernel_rfl)) (fun _ _ _ h =>h) (Or.inl ⟨by rfl,?_⟩) ?_ ?_
        rotate_left
        ·intro w'
         go_simp
         with_reducible rfl
        rotate_left
        ·simp only [Act.put,List.setIfInBounds_toArray,List.set_cons_zero,List.set_cons_succ,a0X,a0Y]
         rfl
        refine a1E (i:=7) (N:=some 24) (v:=?_) (a':=?_) #[true,true,true,true,true,false,true,true,false,false,false,false,false,false,false,false,false,false,false,false,false] rfl rfl (a0Z HT_.out (by kernel_rfl)) (fun _ _ _ h =>h) (Or.inl ⟨by rfl,?_⟩) ?_ ?_
        rotate_left
        ·intro w'
         go_simp
         with_reducible rfl
        rotate_left
        ·simp only [Act.put,List.setIfInBounds_toArray,List.set_cons_zero,List.set_cons_succ,a0X,a0Y]
         rfl
        refine a1E (i:=9) (N:=some 26) (v:=?_) (a':=?_) #[true,true,true,true,true,false,true,true,false,true,false,false,false,false,false,false,false,false,false,false,false] rfl rfl (a0Z HT_.out (by kernel_rfl)) (fun _ _ _ h =>h) (Or.inl ⟨by rfl,?_⟩) ?_ ?_
        rotate_left
        ·intro w'
         go_simp
         with_reducible rfl
        rotate_left
        ·simp only [Act.put,List.setIfInBounds_toArray,List.set_cons_zero,List.set_cons_succ,a0X,a0Y]
         rfl
        refine a1E (i:=10) (N:=some 27) (v:=?_) (a':=?_) #[true,true,true,true,true,false,true,true,false,true,true,false,false,false,false,false,false,false,false,false,false] rfl rfl (a0Z HT_.out (by kernel_rfl)) (fun _ _ _ h =>h) (Or.inl ⟨by rfl,?_⟩) ?_ ?_
        rotate_left
        ·intro w'
         go_simp
         with_reducible rfl
        rotate_left
        ·simp only [Act.put,List.setIfInBounds_toArray,List.set_cons_zero,List.set_cons_succ,a0X,a0Y]
         rfl
        refine a1E (i:=11) (N:=some 28) (v:=?_) (a':=?_) #[true,true,true,true,true,false,true,true,false,true,true,true,false,false,false,false,false,false,false,false,false] rfl rfl (a0Z HT_.out (by kernel_rfl)) (fun _ _ _ h =>h) (Or.inl ⟨by rfl,?_⟩) ?_ ?_
        rotate_left
        ·intro w'
         go_simp
         with_reducible rfl
        rotate_left
        ·simp only [Act.put,List.setIfInBounds_toArray,List.set_cons_zero,List.set_cons_succ,a0X,a0Y]
         rfl
        refine a1E (i:=12) (N:=some 29) (v:=?_) (a':=?_) #[true,true,true,true,true,false,true,true,false,true,true,true,true,false,false,false,false,false,false,false,false] rfl rfl (a0Z HT_.out (by kernel_rfl)) (fun _ _ _ h =>h) (Or.inl ⟨by rfl,?_⟩) ?_ ?_
        rotate_left
        ·intro w'
         go_simp
         with_reducible rfl
        rotate_left
        ·simp only [Act.put,List.setIfInBounds_toArray,List.set_cons_zero,List.set_cons_succ,a0X,a0Y]
         rfl
        refine a1E (i:=14) (N:=some 31) (v:=?_) (a':=?_) #[true,true,true,true,true,false,true,true,false,true,true,true,true,false,true,false,false,false,false,false,false] rfl rfl (a0Z HT_.out (by kernel_rfl)) (fun _ _ _ h =>h) (Or.inl ⟨by rfl,?_⟩) ?_ ?_
        rotate_left
        ·intro w'
         go_simp
         with_reducible rfl
        rotate_left
        ·simp only [Act.put,List.setIfInBounds_toArray,List.set_cons_zero,List.set_cons_succ,a0X,a0Y]
         rfl
        refine a1E (i:=15) (N:=some 32) (v:=?_) (a':=?_) #[true,true,true,true,true,false,true,true,false,true,true,true,true,false,true,true,false,false,false,false,false] rfl rfl (a0Z HT_.out (by kernel_rfl)) (fun _ _ _ h =>h) (Or.inl ⟨by rfl,?_⟩) ?_ ?_
        rotate_left
        ·intro w'
         go_simp
         with_reducible rfl
        rotate_left
        ·simp only [Act.put,List.setIfInBounds_toArray,List.set_cons_zero,List.set_cons_succ,a0X,a0Y]
         rfl
        refine a2M (i:=5) (N:=some 22) (v:=?_) (a':=?_) #[true,true,true,true,true,true,true,true,false,true,true,true,true,false,true,true,false,false,false,false,false] rfl rfl (a1O HT_.out HW_.out (by kernel_rfl)) (fun _ _ _ h =>h) (Or.inl ⟨by rfl,?_⟩) hHeld ?_ ?_
        rotate_left
        ·rintro w' ⟨s0,s1,s2,s3,s4,s5,s6,s7,s8,s9,s10,s11,s12,s13,s14,s15⟩
         go_simp
         with_reducible rfl
        rotate_left
        ·simp only [Act.put,List.setIfInBounds_toArray,List.set_cons_zero,List.set_cons_succ,a0X,a0Y]
         rfl
        refine a2M (i:=13) (N:=some 30) (v:=?_) (a':=?_) #[true,true,true,true,true,true,true,true,false,true,true,true,true,true,true,true,false,false,false,false,false] rfl rfl (a1O HT_.out HW_.out (by kernel_rfl)) (fun _ _ _ h =>h) (Or.inl ⟨by rfl,?_⟩) hHeld ?_ ?_
        rotate_left
        ·rintro w' ⟨s0,s1,s2,s3,s4,s5,s6,s7,s8,s9,s10,s11,s12,s13,s14,s15⟩
         go_simp
         with_reducible rfl
        rotate_left
        ·simp only [Act.put,List.setIfInBounds_toArray,List.set_cons_zero,List.set_cons_succ,a0X,a0Y]
         rfl
        refine one_ (i:=8) (N:=some 25) #[true,true,true,true,true,true,true,true,true,true,true,true,true,true,true,true,false,false,false,false,false] rfl rfl (a2O HT_.out (by kernel_rfl)) (by decide) (fun K hK =>?_)
        refine a3K Try.func22 (by kernel_rfl) rfl #[.slice fK ((a0J l0 aU).f6).length fL,.int .i64 (wrap64 (a1 - 1))] (by rfl) rfl rfl (by (try simp only [List.map_toArray,List.map_cons,List.map_nil]);first | done | rfl | (simp only [List.length_drop,List.length_take];rfl)) ?_
        with_reducible refine (ih kj2 (by have:=HK1.out;have:=HJ2.out;omega) _ _ ((a0J l0 aU).f6) (wrap64 (a1 - 1)) t149 _ ?side1 ?side2 A8.out).mono ?_
        (case side1 =>repeat (first | exact (Kd.a0N gM.out HB.out) | (with_reducible refine Kd.a0R ?_ _) | (with_reducible refine Kd.a0Q ?_ _) | (with_reducible refine Kd.a1B ?_)))
        (case side2 =>exact mH.out)
        rintro e w13 ⟨rfl,hb⟩
        refine ⟨_,rfl,?_⟩
        have aZ:=a0A.mk (a0H (by repeat (first | (with_reducible first | exact HB.out | apply a0D | apply a0B | apply a0E) | exact HB.out)) hb)
        clear HB
        have HB:=aZ
        clear aZ
        (try clear hb)
        (try clear hb2)
        (try clear hk)
        (try clear hi)
        refine hK.out _ _ ⟨(a0C HB.out eJ),(a0C HB.out eI),(a0C HB.out eH),(a0C HB.out eG),(a0C HB.out eF),(a0C HB.out eE),(a0C HB.out eD),(a0C HB.out eC),(a0C HB.out eR),(a0C HB.out eQ),(a0C HB.out eP),(a0C HB.out eO),(a0C HB.out eN),(a0C HB.out eM),(a0C HB.out eL),(a0C HB.out eK)⟩ (fun hHeld =>?_)
        clear hK K
        refine a3J (a':=?_) ?_ ?_
        rotate_left
        ·show Act.put _ (some 25) _ = _
         simp only [Act.put,List.setIfInBounds_toArray,List.set_cons_zero,List.set_cons_succ,a0X,a0Y]
         rfl
        refine one_ (i:=16) (N:=some 33) #[true,true,true,true,true,true,true,true,true,true,true,true,true,true,true,true,true,false,false,false,false] rfl rfl (a2O HT_.out (by kernel_rfl)) (by decide) (fun K hK =>?_)
        refine a3K Try.func22 (by kernel_rfl) rfl #[.slice fM ((a0J l0 aU).f7).length fN,.int .i64 (wrap64 (a1 - 1))] (by rfl) rfl rfl (by (try simp only [List.map_toArray,List.map_cons,List.map_nil]);first | done | rfl | (simp only [List.length_drop,List.length_take];rfl)) ?_
        with_reducible refine (ih kj2 (by have:=HK1.out;have:=HJ2.out;omega) _ _ ((a0J l0 aU).f7) (wrap64 (a1 - 1)) t151 _ ?side1 ?side2 A9.out).mono ?_
        (case side1 =>repeat (first | exact (Kd.a0N gV.out HB.out) | (with_reducible refine Kd.a0R ?_ _) | (with_reducible refine Kd.a0Q ?_ _) | (with_reducible refine Kd.a1B ?_)))
        (case side2 =>exact mM.out)
        rintro e w14 ⟨rfl,hb⟩
        refine ⟨_,rfl,?_⟩
        have aZ:=a0A.mk (a0H (by repeat (first | (with_reducible first | exact HB.out | apply a0D | apply a0B | apply a0E) | exact HB.out)) hb)
        clear HB
        have HB:=aZ
        clear aZ
        (try clear hb)
        (try clear hb2)
        (try clear hk)
        (try clear hi)
        refine hK.out _ _ ⟨(a0C HB.out eJ),(a0C HB.out eI),(a0C HB.out eH),(a0C HB.out eG),(a0C HB.out eF),(a0C HB.out eE),(a0C HB.out eD),(a0C HB.out eC),(a0C HB.out eR),(a0C HB.out eQ),(a0C HB.out eP),(a0C HB.out eO),(a0C HB.out eN),(a0C HB.out eM),(a0C HB.out eL),(a0C HB.out eK)⟩ (fun hHeld =>?_)
        clear hK K
        refine a3J (a':=?_) ?_ ?_
        rotate_left
        ·show Act.put _ (some 33) _ = _
         simp only [Act.put,List.setIfInBounds_toArray,List.set_cons_zero,List.set_cons_succ,a0X,a0Y]
         rfl
        refine a1E (i:=17) (N:=some 34) (v:=?_) (a':=?_) #[true,true,true,true,true,true,true,true,true,true,true,true,true,true,true,true,true,true,false,false,false] rfl rfl (a0Z HT_.out (by kernel_rfl)) (fun _ _ _ h =>h) (Or.inl ⟨by rfl,?_⟩) ?_ ?_
        rotate_left
        ·intro w'
         go_simp
         with_reducible rfl
        rotate_left
        ·simp only [Act.put,List.setIfInBounds_toArray,List.set_cons_zero,List.set_cons_succ,a0X,a0Y]
         rfl
        refine a1E (i:=18) (N:=some 35) (v:=?_) (a':=?_) #[true,true,true,true,true,true,true,true,true,true,true,true,true,true,true,true,true,true,true,false,false] rfl rfl (a0Z HT_.out (by kernel_rfl)) (fun _ _ _ h =>h) (Or.inl ⟨by rfl,?_⟩) ?_ ?_
        rotate_left
        ·intro w'
         go_simp
         with_reducible rfl
        rotate_left
        ·simp only [Act.put,List.setIfInBounds_toArray,List.set_cons_zero,List.set_cons_succ,a0X,a0Y]
         rfl
        refine a1E (i:=19) (N:=some 36) (v:=?_) (a':=?_) #[true,true,true,true,true,true,true,true,true,true,true,true,true,true,true,true,true,true,true,true,false] rfl rfl (a0Z HT_.out (by kernel_rfl)) (fun _ _ _ h =>h) (Or.inl ⟨by rfl,?_⟩) ?_ ?_
        rotate_left
        ·intro w'
         go_simp
         with_reducible rfl
        rotate_left
        ·simp only [Act.put,List.setIfInBounds_toArray,List.set_cons_zero,List.set_cons_succ,a0X,a0Y]
         rfl
        refine a1E (i:=20) (N:=some 5) (v:=?_) (a':=?_) #[true,true,true,true,true,true,true,true,true,true,true,true,true,true,true,true,true,true,true,true,true] rfl rfl (a0Z HT_.out (by kernel_rfl)) (fun _ _ _ h =>h) (Or.inl ⟨by rfl,?_⟩) ?_ ?_
        rotate_left
        ·intro w'
         go_simp
         with_reducible rfl
        rotate_left
        ·simp only [Act.put,List.setIfInBounds_toArray,List.set_cons_zero,List.set_cons_succ,a0X,a0Y]
         rfl
        refine a6F (a3S HT_.out (by kernel_rfl)) ?_
        try go_wp2
        go_roundg kj2
        case measure =>have:=HK1.out;have:=HJ2.out;omega
        case rel =>exact ⟨(ji11),(wrap64 (aU + 1)),(by first | rfl | (simp;done) | (simp only [← hji11] <;> (first | rfl | simp)) | (simp [*];done)),(by first | rfl | (simp;done) | (simp [*];done)),H',⟨by have:=HK1.out;have:=HJ2.out;omega⟩,⟨by repeat (first | (with_reducible first | exact HB.out | apply a0D | apply a0B | apply a0E) | exact HB.out)⟩⟩
       ·rw [if_neg c7] at H
        exact absurd H (by simp)
      ·rw [if_neg c6] at H
       exact absurd H (by simp)
     ·replace c5:=Bool.eq_false_iff.mpr c5
      subst c5
      have H1:(some aD) = some r:=by rw [if_neg (show ¬ (false = true) by decide)] at H;exact H
      clear H
      have H:=H1
      clear H1
      obtain rfl:=Option.some.inj H
      go_wp2
      go_ret
      exact ⟨by first | rfl | (simp [a0T,a0S] <;> rfl) | (simp [*,a0T,a0S] <;> rfl),by repeat (first | (with_reducible first | exact HB.out | apply a0D | apply a0B | apply a0E) | exact HB.out)⟩
mutual
def r03_Count.l0:Nat→List (S46)→Int→Int→Option (Int)
 | 0,_,_,_ =>none
 | k + 1,x0,x3,x4 =>if x4 < (x0.length:Int) then (if 0≤x4 then ((r03_Count.f k ((a0J x0 x4).f6)).bind fun t153 =>((r03_Count.f k ((a0J x0 x4).f7)).bind fun t155 =>(r03_Count.l0 k x0 (wrap64 (x3 + (wrap64 (t153 + t155)))) (wrap64 (x4 + 1))))) else (none)) else (some x3)
def r03_Count.f:Nat→List (S46)→Option (Int)
 | 0,_ =>none
 | k + 1,l0 =>r03_Count.l0 k l0 (l0.length:Int) 0
end
def r03_Count.T5:Bool × List (List Nat × List Nat):=(true,[([],[]),([],[]),([],[]),([1,2],[1,2]),([3],[3]),([4],[4]),([5],[5]),([],[]),([],[]),([7,8],[7,8]),([9],[9]),([10],[10]),([11,6],[11]),([6,12],[6,12]),([0,13],[0,13]),([14,12,0,1,2,3,4,5,6,7,8,9,10,11,12,13,14],[0,14])])
def r03_Count.B5:List Nat:=[0,0,0,6,14,30,62,0,0,384,896,1920,4094,8190,16383,32767]
theorem r03_Count.tab5:rtab .any (opsOf Try.f23 5) = r03_Count.T5:=by kernel_rfl
theorem r03_Count.bits5:waitsOk r03_Count.T5.2 r03_Count.B5 = true:=by kernel_rfl
set_option maxHeartbeats 8000000 in
set_option maxRecDepth 100000 in
theorem r03_Count.calls (k:Nat):∀ (A0:Option Addr) (c0:Nat) (l0:List (S46)) (r:Int) (w:World) (hr0:Kd.C k46 w A0 l0.length l0) (hc0:l0.length≤c0) (h:r03_Count.f k l0 = some r),
    Calls Try.prog 23 #[.slice A0 l0.length c0] w fun e w' =>e = .returned (.int .i64 r)∧Below w.heap.size w w':=by
 induction k using Nat.strongRecOn with
 | _ k ih =>
 intro A0 c0 l0 r w hr0 hc0 h
 cases k with
 | zero =>exact absurd h (by simp [r03_Count.f])
 | succ k =>
 simp only [r03_Count.f] at h
 have HR0:=a0A.mk hr0
 have HC0:=a0A.mk hc0
 clear hr0 hc0
 have HB:=a0A.mk (Below.refl w.heap.size w)
 have H:(r03_Count.l0 k l0 (l0.length:Int) 0) = some r:=h
 clear h
 have H':=a0A.mk H
 clear H
 go_enter Try.func23,Try.ntmps23
 go_wp2
 go_loopg [3,4] k (fun kq v3 v4 w' =>∃ (bW:Int) (aG:Int),v3 = .int .i64 bW∧v4 = .int .i64 aG∧a0A (r03_Count.l0 kq l0 bW aG = some r)∧a0A (kq≤k)∧a0A (Below w.heap.size w w'))
 case atStart =>exact ⟨((l0.length:Int)),(0),(by first | rfl | (simp;done) | (simp [*];done)),(by first | rfl | (simp;done) | (simp [*];done)),H',⟨Nat.le_refl _⟩,⟨by repeat (first | (with_reducible first | exact HB.out | apply a0D | apply a0B | apply a0E) | exact HB.out)⟩⟩
 case round =>
  clear H'
  obtain ⟨bW,aG,rfl,rfl,HA,HK1,HB⟩:=hrel
  cases gk with
  | zero =>exact absurd HA.out (by simp [r03_Count.l0])
  | succ k1 =>
   have H:=HA.out
   clear HA
   simp only [r03_Count.l0] at H
   by_cases c2:aG < (l0.length:Int)
   ·rw [if_pos c2] at H
    have c2b0:decide (aG < (l0.length:Int)) = true:=decide_eq_true c2
    clear c2
    by_cases c3:0≤aG
    ·rw [if_pos c3] at H
     have c3b0:decide (0≤aG) = true:=decide_eq_true c3
     clear c3
     replace H:=Option.bind_eq_some_iff.mp H
     obtain ⟨t153,A40,H⟩:=H
     replace H:((r03_Count.f k1 ((a0J l0 aG).f7)).bind fun t155 =>(r03_Count.l0 k1 l0 (wrap64 (bW + (wrap64 (t153 + t155)))) (wrap64 (aG + 1)))) = some r:=H
     have A4:=a0A.mk A40
     clear A40
     replace H:=Option.bind_eq_some_iff.mp H
     obtain ⟨t155,A50,H⟩:=H
     replace H:(r03_Count.l0 k1 l0 (wrap64 (bW + (wrap64 (t153 + t155)))) (wrap64 (aG + 1))) = some r:=H
     have A5:=a0A.mk A50
     clear A50
     have H':=a0A.mk H
     clear H
     try go_wp2
     have aZ:=a0A.mk (a0E HB.out)
     clear HB
     have HB:=aZ
     clear aZ
     have p152:0≤(aG:Int):=of_decide_eq_true (by first | (with_reducible assumption) | assumption)
     have q152:aG < (l0.length:Int):=of_decide_eq_true (by first | (with_reducible assumption) | assumption)
     obtain ⟨ad152,jU,jV,jW,jX,fO,fP,fQ,fR,e152,dR,dS,dT,dU,cM,cN,cO,cR,gW,gX,gY,gZ,iA,iB,iC,iD⟩:=a3C HR0.out aG p152 q152
     have eS:=cR
     have eT:=cO
     have eU:=cN
     have eV:=cM
     have eW:=dU
     have eX:=dT
     have eY:=dS
     have eZ:=dR
     cases e152
     replace dR:=a0C HB.out dR
     replace dS:=a0C HB.out dS
     replace dT:=a0C HB.out dT
     replace dU:=a0C HB.out dU
     replace cM:=a0C HB.out cM
     replace cN:=a0C HB.out cN
     replace cO:=a0C HB.out cO
     replace cR:=a0C HB.out cR
     have mN:=a0A.mk gX
     have aE5:=a0A.mk gW
     clear gX gW
     have mO:=a0A.mk gZ
     have aE6:=a0A.mk gY
     clear gZ gY
     have iE:=a0A.mk iB
     have mP:=a0A.mk iA
     clear iB iA
     have mQ:=a0A.mk iD
     have aE7:=a0A.mk iC
     clear iD iC
     replace p152:=eq_true p152
     replace q152:=eq_true q152
     have p154:0≤(aG:Int):=of_decide_eq_true (by first | (with_reducible assumption) | assumption)
     have q154:aG < (l0.length:Int):=of_decide_eq_true (by first | (with_reducible assumption) | assumption)
     obtain ⟨ad154,aI8,aI9,aJ0,aJ1,aJ2,aJ3,aJ4,aJ5,e154,dV,dW,dX,dY,cS,cT,cU,cV,iF,iG,iH,iI,iJ,iK,iL,iM⟩:=a3C HR0.out aG p154 q154
     have fA:=cV
     have fB:=cU
     have fC:=cT
     have fD:=cS
     have fE:=dY
     have fF:=dX
     have fG:=dW
     have fH:=dV
     obtain rfl:ad152 = ad154:=(by injection e154)
     replace dV:=a0C HB.out dV
     replace dW:=a0C HB.out dW
     replace dX:=a0C HB.out dX
     replace dY:=a0C HB.out dY
     replace cS:=a0C HB.out cS
     replace cT:=a0C HB.out cT
     replace cU:=a0C HB.out cU
     replace cV:=a0C HB.out cV
     have mR:=a0A.mk iG
     have aE8:=a0A.mk iF
     clear iG iF
     have mS:=a0A.mk iI
     have aE9:=a0A.mk iH
     clear iI iH
     have mT:=a0A.mk iK
     have aF0:=a0A.mk iJ
     clear iK iJ
     have iN:=a0A.mk iM
     have mU:=a0A.mk iL
     clear iM iL
     replace p154:=eq_true p154
     replace q154:=eq_true q154
     have ea_:=Option.some.inj (cM.symm.trans cS)
     injection ea_ with ea_ en_ ec_
     subst ea_
     subst ec_
     clear en_
     have ea_:=Option.some.inj (cN.symm.trans cT)
     injection ea_ with ea_ en_ ec_
     subst ea_
     subst ec_
     clear en_
     have ea_:=Option.some.inj (cO.symm.trans cU)
     injection ea_ with ea_ en_ ec_
     subst ea_
     subst ec_
     clear en_
     have ea_:=Option.some.inj (cR.symm.trans cV)
     injection ea_ with ea_ en_ ec_
     subst ea_
     subst ec_
     clear en_
     refine a4L (n:=16) (S:=fun w' =>w'.cell? (ad152.add ((aG).toNat * 8)) = some (.int .i64 ((a0J l0 aG).f0))∧w'.cell? ⟨(ad152.add ((aG).toNat * 8)).block,(ad152.add ((aG).toNat * 8)).off + 1,none⟩ = some (.string ((a0J l0 aG).f1))∧w'.cell? ⟨(ad152.add ((aG).toNat * 8)).block,(ad152.add ((aG).toNat * 8)).off + 2,none⟩ = some (.string ((a0J l0 aG).f2))∧w'.cell? ⟨(ad152.add ((aG).toNat * 8)).block,(ad152.add ((aG).toNat * 8)).off + 3,none⟩ = some (.string ((a0J l0 aG).f3))∧w'.cell? ⟨(ad152.add ((aG).toNat * 8)).block,(ad152.add ((aG).toNat * 8)).off + 4,none⟩ = some (.slice jU ((a0J l0 aG).f4).length jV)∧w'.cell? ⟨(ad152.add ((aG).toNat * 8)).block,(ad152.add ((aG).toNat * 8)).off + 5,none⟩ = some (.slice jW ((a0J l0 aG).f5).length jX)∧w'.cell? ⟨(ad152.add ((aG).toNat * 8)).block,(ad152.add ((aG).toNat * 8)).off + 6,none⟩ = some (.slice fO ((a0J l0 aG).f6).length fP)∧w'.cell? ⟨(ad152.add ((aG).toNat * 8)).block,(ad152.add ((aG).toNat * 8)).off + 7,none⟩ = some (.slice fQ ((a0J l0 aG).f7).length fR)∧w'.cell? (ad152.add ((aG).toNat * 8)) = some (.int .i64 ((a0J l0 aG).f0))∧w'.cell? ⟨(ad152.add ((aG).toNat * 8)).block,(ad152.add ((aG).toNat * 8)).off + 1,none⟩ = some (.string ((a0J l0 aG).f1))∧w'.cell? ⟨(ad152.add ((aG).toNat * 8)).block,(ad152.add ((aG).toNat * 8)).off + 2,none⟩ = some (.string ((a0J l0 aG).f2))∧w'.cell? ⟨(ad152.add ((aG).toNat * 8)).block,(ad152.add ((aG).toNat * 8)).off + 3,none⟩ = some (.string ((a0J l0 aG).f3))∧w'.cell? ⟨(ad152.add ((aG).toNat * 8)).block,(ad152.add ((aG).toNat * 8)).off + 4,none⟩ = some (.slice jU ((a0J l0 aG).f4).length jV)∧w'.cell? ⟨(ad152.add ((aG).toNat * 8)).block,(ad152.add ((aG).toNat * 8)).off + 5,none⟩ = some (.slice jW ((a0J l0 aG).f5).length jX)∧w'.cell? ⟨(ad152.add ((aG).toNat * 8)).block,(ad152.add ((aG).toNat * 8)).off + 6,none⟩ = some (.slice fO ((a0J l0 aG).f6).length fP)∧w'.cell? ⟨(ad152.add ((aG).toNat * 8)).block,(ad152.add ((aG).toNat * 8)).off + 7,none⟩ = some (.slice fQ ((a0J l0 aG).f7).length fR)) (ds:=[]) #[false,false,false,false,false,false,false,false,false,false,false,false,false,false,false,false] (by kernel_rfl) rfl rfl ⟨(a0C HB.out eZ),(a0C HB.out eY),(a0C HB.out eX),(a0C HB.out eW),(a0C HB.out eV),(a0C HB.out eU),(a0C HB.out eT),(a0C HB.out eS),(a0C HB.out fH),(a0C HB.out fG),(a0C HB.out fF),(a0C HB.out fE),(a0C HB.out fD),(a0C HB.out fC),(a0C HB.out fB),(a0C HB.out fA)⟩ (fun hHeld =>?_);refine a2R r03_Count.tab5 r03_Count.bits5 (fun HT_ HW_ =>?_)
     generalize wr.drew = w6 at HB mN mO iE mQ mR mS mT iN dR dS dT dU cM cN cO cR dV dW dX dY cS cT cU cV hHeld ⊢
     refine a1E (i:=0) (N:=some 13) (v:=?_) (a':=?_) #[true,false,false,false,false,false,false,false,false,false,false,false,false,false,false,false] rfl rfl (a0Z HT_.out (by kernel_rfl)) (fun _ _ _ h =>h) (Or.inl ⟨by rfl,?_⟩) ?_ ?_
     rotate_left
     ·intro w'
      go_simp
      with_reducible rfl
     rotate_left
     ·simp only [Act.put,List.setIfInBounds_toArray,List.set_cons_zero,List.set_cons_succ,a0X,a0Y]
      rfl
     refine a1E (i:=1) (N:=some 14) (v:=?_) (a':=?_) #[true,true,false,false,false,false,false,false,false,false,false,false,false,false,false,false] rfl rfl (a0Z HT_.out (by kernel_rfl)) (fun _ _ _ h =>h) (Or.inl ⟨by rfl,?_⟩) ?_ ?_
     rotate_left
     ·intro w'
      go_simp
      with_reducible rfl
     rotate_left
     ·simp only [Act.put,List.setIfInBounds_toArray,List.set_cons_zero,List.set_cons_succ,a0X,a0Y]
      rfl
     refine a1E (i:=2) (N:=some 15) (v:=?_) (a':=?_) #[true,true,true,false,false,false,false,false,false,false,false,false,false,false,false,false] rfl rfl (a0Z HT_.out (by kernel_rfl)) (fun _ _ _ h =>h) (Or.inl ⟨by rfl,?_⟩) ?_ ?_
     rotate_left
     ·intro w'
      go_simp
      with_reducible rfl
     rotate_left
     ·simp only [Act.put,List.setIfInBounds_toArray,List.set_cons_zero,List.set_cons_succ,a0X,a0Y]
      rfl
     refine a1E (i:=3) (N:=some 16) (v:=?_) (a':=?_) #[true,true,true,true,false,false,false,false,false,false,false,false,false,false,false,false] rfl rfl (a0Z HT_.out (by kernel_rfl)) (fun _ _ _ h =>h) (Or.inl ⟨by rfl,?_⟩) ?_ ?_
     rotate_left
     ·intro w'
      go_simp
      with_reducible rfl
     rotate_left
     ·simp only [Act.put,List.setIfInBounds_toArray,List.set_cons_zero,List.set_cons_succ,a0X,a0Y]
      rfl
     refine a1E (i:=4) (N:=some 17) (v:=?_) (a':=?_) #[true,true,true,true,true,false,false,false,false,false,false,false,false,false,false,false] rfl rfl (a0Z HT_.out (by kernel_rfl)) (fun _ _ _ h =>h) (Or.inl ⟨by rfl,?_⟩) ?_ ?_
     rotate_left
     ·intro w'
      go_simp
      with_reducible rfl
     rotate_left
     ·simp only [Act.put,List.setIfInBounds_toArray,List.set_cons_zero,List.set_cons_succ,a0X,a0Y]
      rfl
     refine a1E (i:=7) (N:=some 20) (v:=?_) (a':=?_) #[true,true,true,true,true,false,false,true,false,false,false,false,false,false,false,false] rfl rfl (a0Z HT_.out (by kernel_rfl)) (fun _ _ _ h =>h) (Or.inl ⟨by rfl,?_⟩) ?_ ?_
     rotate_left
     ·intro w'
      go_simp
      with_reducible rfl
     rotate_left
     ·simp only [Act.put,List.setIfInBounds_toArray,List.set_cons_zero,List.set_cons_succ,a0X,a0Y]
      rfl
     refine a1E (i:=8) (N:=some 21) (v:=?_) (a':=?_) #[true,true,true,true,true,false,false,true,true,false,false,false,false,false,false,false] rfl rfl (a0Z HT_.out (by kernel_rfl)) (fun _ _ _ h =>h) (Or.inl ⟨by rfl,?_⟩) ?_ ?_
     rotate_left
     ·intro w'
      go_simp
      with_reducible rfl
     rotate_left
     ·simp only [Act.put,List.setIfInBounds_toArray,List.set_cons_zero,List.set_cons_succ,a0X,a0Y]
      rfl
     refine a1E (i:=9) (N:=some 22) (v:=?_) (a':=?_) #[true,true,true,true,true,false,false,true,true,true,false,false,false,false,false,false] rfl rfl (a0Z HT_.out (by kernel_rfl)) (fun _ _ _ h =>h) (Or.inl ⟨by rfl,?_⟩) ?_ ?_
     rotate_left
     ·intro w'
      go_simp
      with_reducible rfl
     rotate_left
     ·simp only [Act.put,List.setIfInBounds_toArray,List.set_cons_zero,List.set_cons_succ,a0X,a0Y]
      rfl
     refine a1E (i:=10) (N:=some 23) (v:=?_) (a':=?_) #[true,true,true,true,true,false,false,true,true,true,true,false,false,false,false,false] rfl rfl (a0Z HT_.out (by kernel_rfl)) (fun _ _ _ h =>h) (Or.inl ⟨by rfl,?_⟩) ?_ ?_
     rotate_left
     ·intro w'
      go_simp
      with_reducible rfl
     rotate_left
     ·simp only [Act.put,List.setIfInBounds_toArray,List.set_cons_zero,List.set_cons_succ,a0X,a0Y]
      rfl
     refine a2M (i:=5) (N:=some 18) (v:=?_) (a':=?_) #[true,true,true,true,true,true,false,true,true,true,true,false,false,false,false,false] rfl rfl (a1O HT_.out HW_.out (by kernel_rfl)) (fun _ _ _ h =>h) (Or.inl ⟨by rfl,?_⟩) hHeld ?_ ?_
     rotate_left
     ·rintro w' ⟨s0,s1,s2,s3,s4,s5,s6,s7,s8,s9,s10,s11,s12,s13,s14,s15⟩
      go_simp
      with_reducible rfl
     rotate_left
     ·simp only [Act.put,List.setIfInBounds_toArray,List.set_cons_zero,List.set_cons_succ,a0X,a0Y]
      rfl
     refine a2M (i:=11) (N:=some 24) (v:=?_) (a':=?_) #[true,true,true,true,true,true,false,true,true,true,true,true,false,false,false,false] rfl rfl (a1O HT_.out HW_.out (by kernel_rfl)) (fun _ _ _ h =>h) (Or.inl ⟨by rfl,?_⟩) hHeld ?_ ?_
     rotate_left
     ·rintro w' ⟨s0,s1,s2,s3,s4,s5,s6,s7,s8,s9,s10,s11,s12,s13,s14,s15⟩
      go_simp
      with_reducible rfl
     rotate_left
     ·simp only [Act.put,List.setIfInBounds_toArray,List.set_cons_zero,List.set_cons_succ,a0X,a0Y]
      rfl
     refine one_ (i:=6) (N:=some 19) #[true,true,true,true,true,true,true,true,true,true,true,true,false,false,false,false] rfl rfl (a2O HT_.out (by kernel_rfl)) (by decide) (fun K hK =>?_)
     refine a3K Try.func23 (by kernel_rfl) rfl #[.slice fO ((a0J l0 aG).f6).length fP] (by rfl) rfl rfl (by (try simp only [List.map_toArray,List.map_cons,List.map_nil]);first | done | rfl | (simp only [List.length_drop,List.length_take];rfl)) ?_
     with_reducible refine (ih k1 (by have:=HK1.out;omega) _ _ ((a0J l0 aG).f6) t153 _ ?side1 ?side2 A4.out).mono ?_
     (case side1 =>repeat (first | exact (Kd.a0N iE.out HB.out) | (with_reducible refine Kd.a0R ?_ _) | (with_reducible refine Kd.a0Q ?_ _) | (with_reducible refine Kd.a1B ?_)))
     (case side2 =>exact mP.out)
     rintro e w7 ⟨rfl,hb⟩
     refine ⟨_,rfl,?_⟩
     have aZ:=a0A.mk (a0H (by repeat (first | (with_reducible first | exact HB.out | apply a0D | apply a0B | apply a0E) | exact HB.out)) hb)
     clear HB
     have HB:=aZ
     clear aZ
     (try clear hb)
     (try clear hb2)
     (try clear hk)
     (try clear hi)
     refine hK.out _ _ ⟨(a0C HB.out eZ),(a0C HB.out eY),(a0C HB.out eX),(a0C HB.out eW),(a0C HB.out eV),(a0C HB.out eU),(a0C HB.out eT),(a0C HB.out eS),(a0C HB.out fH),(a0C HB.out fG),(a0C HB.out fF),(a0C HB.out fE),(a0C HB.out fD),(a0C HB.out fC),(a0C HB.out fB),(a0C HB.out fA)⟩ (fun hHeld =>?_)
     clear hK K
     refine a3J (a':=?_) ?_ ?_
     rotate_left
     ·show Act.put _ (some 19) _ = _
      simp only [Act.put,List.setIfInBounds_toArray,List.set_cons_zero,List.set_cons_succ,a0X,a0Y]
      rfl
     refine one_ (i:=12) (N:=some 25) #[true,true,true,true,true,true,true,true,true,true,true,true,true,false,false,false] rfl rfl (a2O HT_.out (by kernel_rfl)) (by decide) (fun K hK =>?_)
     refine a3K Try.func23 (by kernel_rfl) rfl #[.slice fQ ((a0J l0 aG).f7).length fR] (by rfl) rfl rfl (by (try simp only [List.map_toArray,List.map_cons,List.map_nil]);first | done | rfl | (simp only [List.length_drop,List.length_take];rfl)) ?_
     with_reducible refine (ih k1 (by have:=HK1.out;omega) _ _ ((a0J l0 aG).f7) t155 _ ?side1 ?side2 A5.out).mono ?_
     (case side1 =>repeat (first | exact (Kd.a0N iN.out HB.out) | (with_reducible refine Kd.a0R ?_ _) | (with_reducible refine Kd.a0Q ?_ _) | (with_reducible refine Kd.a1B ?_)))
     (case side2 =>exact mU.out)
     rintro e w8 ⟨rfl,hb⟩
     refine ⟨_,rfl,?_⟩
     have aZ:=a0A.mk (a0H (by repeat (first | (with_reducible first | exact HB.out | apply a0D | apply a0B | apply a0E) | exact HB.out)) hb)
     clear HB
     have HB:=aZ
     clear aZ
     (try clear hb)
     (try clear hb2)
     (try clear hk)
     (try clear hi)
     refine hK.out _ _ ⟨(a0C HB.out eZ),(a0C HB.out eY),(a0C HB.out eX),(a0C HB.out eW),(a0C HB.out eV),(a0C HB.out eU),(a0C HB.out eT),(a0C HB.out eS),(a0C HB.out fH),(a0C HB.out fG),(a0C HB.out fF),(a0C HB.out fE),(a0C HB.out fD),(a0C HB.out fC),(a0C HB.out fB),(a0C HB.out fA)⟩ (fun hHeld =>?_)
     clear hK K
     refine a3J (a':=?_) ?_ ?_
     rotate_left
     ·show Act.put _ (some 25) _ = _
      simp only [Act.put,List.setIfInBounds_toArray,List.set_cons_zero,List.set_cons_succ,a0X,a0Y]
      rfl
     refine a1E (i:=13) (N:=some 26) (v:=?_) (a':=?_) #[true,true,true,true,true,true,true,true,true,true,true,true,true,true,false,false] rfl rfl (a0Z HT_.out (by kernel_rfl)) (fun _ _ _ h =>h) (Or.inl ⟨by rfl,?_⟩) ?_ ?_
     rotate_left
     ·intro w'
      go_simp
      with_reducible rfl
     rotate_left
     ·simp only [Act.put,List.setIfInBounds_toArray,List.set_cons_zero,List.set_cons_succ,a0X,a0Y]
      rfl
     refine a1E (i:=14) (N:=some 27) (v:=?_) (a':=?_) #[true,true,true,true,true,true,true,true,true,true,true,true,true,true,true,false] rfl rfl (a0Z HT_.out (by kernel_rfl)) (fun _ _ _ h =>h) (Or.inl ⟨by rfl,?_⟩) ?_ ?_
     rotate_left
     ·intro w'
      go_simp
      with_reducible rfl
     rotate_left
     ·simp only [Act.put,List.setIfInBounds_toArray,List.set_cons_zero,List.set_cons_succ,a0X,a0Y]
      rfl
     refine a1E (i:=15) (N:=some 3) (v:=?_) (a':=?_) #[true,true,true,true,true,true,true,true,true,true,true,true,true,true,true,true] rfl rfl (a0Z HT_.out (by kernel_rfl)) (fun _ _ _ h =>h) (Or.inl ⟨by rfl,?_⟩) ?_ ?_
     rotate_left
     ·intro w'
      go_simp
      with_reducible rfl
     rotate_left
     ·simp only [Act.put,List.setIfInBounds_toArray,List.set_cons_zero,List.set_cons_succ,a0X,a0Y]
      rfl
     refine a6F (a3S HT_.out (by kernel_rfl)) ?_
     try go_wp2
     go_roundg k1
     case measure =>have:=HK1.out;omega
     case rel =>exact ⟨(wrap64 (bW + (wrap64 (t153 + t155)))),(wrap64 (aG + 1)),(by first | rfl | (simp;done) | (simp [*];done)),(by first | rfl | (simp;done) | (simp [*];done)),H',⟨by have:=HK1.out;omega⟩,⟨by repeat (first | (with_reducible first | exact HB.out | apply a0D | apply a0B | apply a0E) | exact HB.out)⟩⟩
    ·rw [if_neg c3] at H
     exact absurd H (by simp)
   ·rw [if_neg c2] at H
    have c2b0:decide (aG < (l0.length:Int)) = false:=decide_eq_false c2
    clear c2
    obtain rfl:=Option.some.inj H
    go_wp2
    go_ret
    exact ⟨by first | rfl | (simp [a0T,a0S] <;> rfl) | (simp [*,a0T,a0S] <;> rfl),by repeat (first | (with_reducible first | exact HB.out | apply a0D | apply a0B | apply a0E) | exact HB.out)⟩
def r03_Big.l0:Nat→Int→Int→List (S32)→Option (Bool)
 | 0,_,_,_ =>none
 | k + 1,x3,x4,x157000 =>if x4 < (x157000.length:Int) then (if 0≤x4 then ((r03_Deep.f k ((a0P x157000 x4).f2) 60).bind fun t158 =>(if t158 ≥ 60 then (some true) else ((r03_Count.f k ((a0P x157000 x4).f2)).bind fun t160 =>(r03_Big.l0 k (wrap64 (x3 + (wrap64 (t160 + (((a0P x157000 x4).f1).length:Int))))) (wrap64 (x4 + 1)) x157000)))) else (none)) else (if x3 > 3000 then (some true) else (some (decide ((x157000.length:Int) > 1000))))
def r03_Big.f (k:Nat) (aH:List (S32)):Option (Bool):=r03_Big.l0 k 0 0 aH
def r03_Big.T7:Bool × List (List Nat × List Nat):=(true,[([],[]),([],[]),([1],[1]),([],[]),([2,3],[2,3]),([4],[4]),([5],[5]),([6],[6]),([],[]),([8],[8]),([],[]),([9,10],[9,10]),([11],[11]),([12],[12]),([13],[13]),([7,14],[7,14]),([0,15],[0,15]),([16,7,0,1,2,3,4,5,6,7,8,9,10,11,12,13,14,15,16],[0,16])])
def r03_Big.B7:List Nat:=[0,0,2,0,14,30,62,126,0,256,0,1792,3840,7936,16128,32766,65535,131071]
theorem r03_Big.tab7:rtab .any (opsOf Try.f8 7) = r03_Big.T7:=by kernel_rfl
theorem r03_Big.bits7:waitsOk r03_Big.T7.2 r03_Big.B7 = true:=by kernel_rfl
set_option maxHeartbeats 8000000 in
set_option maxRecDepth 100000 in
theorem r03_Big.calls (k:Nat) (bA:Option Addr) (aY:Nat) (aH:List (S32)) (r:Bool) (w:World) (bT:Kd.C k32 w bA aH.length aH) (bU:aH.length≤aY) (h:r03_Big.f k aH = some r) :
    Calls Try.prog 8 #[.agg #[.slice bA aH.length aY]] w fun e w' =>e = .returned (.bool r)∧Below w.heap.size w w':=by
 have hu24:=Try.underlying24
 have bF:=a0A.mk bT
 have bP:=a0A.mk bU
 clear bT bU
 have HB:=a0A.mk (Below.refl w.heap.size w)
 have H:(r03_Big.l0 k 0 0 aH) = some r:=h
 clear h
 have H':=a0A.mk H
 clear H
 go_enter Try.func8,Try.ntmps8
 go_wp2_with (first | ((with_reducible refine a1C (N:=1) rfl ?_);(try (refine a2Q (by rfl) ?_;dsimp only));refine a1A ?hg (N:=1) ?hd (cs:=#[.slice bA aH.length aY]) (t:=24) ?hr ?_;(case hd =>rfl);(case hg =>rfl);(case hr =>first | (go_simp;done) | (go_simp;rfl));intro bV hg w2 hbox hb;have aZ:=a0A.mk (a0H (by repeat (first | (with_reducible first | exact HB.out | apply a0D | apply a0B | apply a0E) | exact HB.out)) hb);have bB:=a0A.mk (hbox);have bI:=a0A.mk ((by rw [hg];exact (a0V (by repeat (first | (with_reducible first | exact HB.out | apply a0D | apply a0B | apply a0E) | exact HB.out))):w.heap.size≤bV));have bQ:=a0A.mk ((by rw [hg];exact (a0V (by repeat (first | (with_reducible first | exact HB.out | apply a0D | apply a0B | apply a0E) | exact HB.out))):w.heap.size≤bV));clear HB;have HB:=aZ;have bE:=bB;have GW156:=bI;have dI:=bQ;clear aZ bB bI bQ;clear hb hbox hg))
 go_loopg [3,4] k (fun kq v3 v4 w' =>∃ (bW:Int) (aG:Int),v3 = .int .i64 bW∧v4 = .int .i64 aG∧a0A (r03_Big.l0 kq bW aG aH = some r)∧a0A (kq≤k)∧a0A (w'.heap[bV]? = some (.cells #[(.slice bA aH.length aY)] 24 (0,0)))∧a0A (Below w.heap.size w w'))
 case atStart =>exact ⟨(0),(0),(by first | rfl | (simp;done) | (simp [*];done)),(by first | rfl | (simp;done) | (simp [*];done)),H',⟨Nat.le_refl _⟩,⟨by (with_reducible repeat (first | refine a0L ?_ _ | refine a0M ?_ | refine a0K ?_ _));exact bE.out⟩,⟨by repeat (first | (with_reducible first | exact HB.out | apply a0D | apply a0B | apply a0E | refine a0I ?_ dI.out) | exact HB.out)⟩⟩
 case round =>
  clear H'
  try clear p2
  obtain ⟨bW,aG,rfl,rfl,HA,HK1,bE,HB⟩:=hrel
  cases gk with
  | zero =>exact absurd HA.out (by simp [r03_Big.l0])
  | succ k1 =>
   have H:=HA.out
   clear HA
   simp only [r03_Big.l0] at H
   by_cases c3:aG < (aH.length:Int)
   ·rw [if_pos c3] at H
    have c3b0:decide (aG < (aH.length:Int)) = true:=decide_eq_true c3
    clear c3
    by_cases c4:0≤aG
    ·rw [if_pos c4] at H
     have c4b0:decide (0≤aG) = true:=decide_eq_true c4
     clear c4
     replace H:=Option.bind_eq_some_iff.mp H
     obtain ⟨t158,A50,H⟩:=H
     replace H:(if t158 ≥ 60 then (some true) else ((r03_Count.f k1 ((a0P aH aG).f2)).bind fun t160 =>(r03_Big.l0 k1 (wrap64 (bW + (wrap64 (t160 + (((a0P aH aG).f1).length:Int))))) (wrap64 (aG + 1)) aH))) = some r:=H
     have A5:=a0A.mk A50
     clear A50
     by_cases c6:t158 ≥ 60
     ·rw [if_pos c6] at H
      have c6b0:decide (60≤t158) = true:=decide_eq_true c6
      clear c6
      obtain rfl:=Option.some.inj H
      have aJ6:wr.cell? ⟨bV,0,none⟩ = some (.slice bA aH.length aY):=(a0G bE.out 0).trans rfl
      have aJ7:=a0F bE.out 0
      have p157:0≤(aG:Int):=of_decide_eq_true (by first | (with_reducible assumption) | assumption)
      have q157:aG < (aH.length:Int):=of_decide_eq_true (by first | (with_reducible assumption) | assumption)
      obtain ⟨ad157,nD,nE,fS,fT,e157,cW,cX,cY,cZ,dA,dB,dC⟩:=a3N bF.out aG p157 q157
      cases e157
      replace cW:=a0C HB.out cW
      replace cX:=a0C HB.out cX
      replace cY:=a0C HB.out cY
      have mV:=a0A.mk dA
      have mW:=a0A.mk cZ
      clear dA cZ
      have fI:=a0A.mk dC
      have fJ:=a0A.mk dB
      clear dC dB
      replace p157:=eq_true p157
      replace q157:=eq_true q157
      go_wp2_with (first | ((with_reducible refine a1H (f:=22) rfl ?_);refine a2G (some 18) rfl rfl Try.func22 (by kernel_rfl) rfl #[.slice fS ((a0P aH aG).f2).length fT,.int .i64 60] rfl (by (try simp only [List.map_toArray,List.map_cons,List.map_nil]);first | done | rfl | (simp only [List.length_drop,List.length_take];rfl)) ?_;(with_reducible refine (r03_Deep.calls k1 _ _ ((a0P aH aG).f2) 60 t158 _ ?side1 ?side2 A5.out).mono ?_);(case side1 =>repeat (first | exact (Kd.a0N fI.out HB.out) | (with_reducible refine Kd.a0R ?_ _) | (with_reducible refine Kd.a0Q ?_ _) | (with_reducible refine Kd.a1B ?_)));(case side2 =>exact fJ.out);rintro e w8 ⟨rfl,hb⟩;refine ⟨_,rfl,?_⟩;have aZ:=a0A.mk (a0U (g:=bV) (o:=.cells #[.slice (some ad157) aH.length aY] 24 (0,0)) (by (with_reducible repeat (first | refine a0L ?_ _ | refine a0M ?_ | refine a0K ?_ _));exact bE.out) hb);have bB:=a0A.mk (a0H (by repeat (first | (with_reducible first | exact HB.out | apply a0D | apply a0B | apply a0E | refine a0I ?_ dI.out) | exact HB.out)) hb);clear bE;clear HB;have bE:=aZ;have HB:=bB;clear aZ bB;(try clear hb);(try clear hb2);(try clear hk);(try clear hi)))
      go_ret
      exact ⟨by first | rfl | (simp [a0T,a0S] <;> rfl) | (simp [*,a0T,a0S] <;> rfl),by repeat (first | (with_reducible first | exact HB.out | apply a0D | apply a0B | apply a0E | refine a0I ?_ dI.out) | exact HB.out)⟩
     ·rw [if_neg c6] at H
      have c6b0:decide (60≤t158) = false:=decide_eq_false c6
      clear c6
      replace H:=Option.bind_eq_some_iff.mp H
      obtain ⟨t160,A90,H⟩:=H
      replace H:(r03_Big.l0 k1 (wrap64 (bW + (wrap64 (t160 + (((a0P aH aG).f1).length:Int))))) (wrap64 (aG + 1)) aH) = some r:=H
      have A9:=a0A.mk A90
      clear A90
      have H':=a0A.mk H
      clear H
      have aF1:wr.cell? ⟨bV,0,none⟩ = some (.slice bA aH.length aY):=(a0G bE.out 0).trans rfl
      have aF2:=a0F bE.out 0
      have p157:0≤(aG:Int):=of_decide_eq_true (by first | (with_reducible assumption) | assumption)
      have q157:aG < (aH.length:Int):=of_decide_eq_true (by first | (with_reducible assumption) | assumption)
      obtain ⟨ad157,nD,nE,fS,fT,e157,cW,cX,cY,cZ,dA,dB,dC⟩:=a3N bF.out aG p157 q157
      cases e157
      replace cW:=a0C HB.out cW
      replace cX:=a0C HB.out cX
      replace cY:=a0C HB.out cY
      have mV:=a0A.mk dA
      have mW:=a0A.mk cZ
      clear dA cZ
      have fI:=a0A.mk dC
      have fJ:=a0A.mk dB
      clear dC dB
      replace p157:=eq_true p157
      replace q157:=eq_true q157
      try go_wp2_with (first | ((with_reducible refine a1H (f:=22) rfl ?_);refine a2G (some 18) rfl rfl Try.func22 (by kernel_rfl) rfl #[.slice fS ((a0P aH aG).f2).length fT,.int .i64 60] rfl (by (try simp only [List.map_toArray,List.map_cons,List.map_nil]);first | done | rfl | (simp only [List.length_drop,List.length_take];rfl)) ?_;(with_reducible refine (r03_Deep.calls k1 _ _ ((a0P aH aG).f2) 60 t158 _ ?side1 ?side2 A5.out).mono ?_);(case side1 =>repeat (first | exact (Kd.a0N fI.out HB.out) | (with_reducible refine Kd.a0R ?_ _) | (with_reducible refine Kd.a0Q ?_ _) | (with_reducible refine Kd.a1B ?_)));(case side2 =>exact fJ.out);rintro e w11 ⟨rfl,hb⟩;refine ⟨_,rfl,?_⟩;have aZ:=a0A.mk (a0U (g:=bV) (o:=.cells #[.slice (some ad157) aH.length aY] 24 (0,0)) (by (with_reducible repeat (first | refine a0L ?_ _ | refine a0M ?_ | refine a0K ?_ _));exact bE.out) hb);have bB:=a0A.mk (a0H (by repeat (first | (with_reducible first | exact HB.out | apply a0D | apply a0B | apply a0E | refine a0I ?_ dI.out) | exact HB.out)) hb);clear bE;clear HB;have bE:=aZ;have HB:=bB;clear aZ bB;(try clear hb);(try clear hb2);(try clear hk);(try clear hi)))
      have aZ:=a0A.mk (a0M bE.out)
      have bB:=a0A.mk (a0E HB.out)
      clear bE
      clear HB
      have bE:=aZ
      have HB:=bB
      clear aZ bB
      have p159:0≤(aG:Int):=of_decide_eq_true (by first | (with_reducible assumption) | assumption)
      have q159:aG < (aH.length:Int):=of_decide_eq_true (by first | (with_reducible assumption) | assumption)
      obtain ⟨ad159,jY,jZ,fU,fV,e159,dZ,dD,dE,iO,iP,iQ,iR⟩:=a3N bF.out aG p159 q159
      have iS:=dE
      have iT:=dD
      have iU:=dZ
      obtain rfl:ad157 = ad159:=(by injection e159)
      replace dZ:=a0C HB.out dZ
      replace dD:=a0C HB.out dD
      replace dE:=a0C HB.out dE
      have mX:=a0A.mk iP
      have aF3:=a0A.mk iO
      clear iP iO
      have iV:=a0A.mk iR
      have mY:=a0A.mk iQ
      clear iR iQ
      replace p159:=eq_true p159
      replace q159:=eq_true q159
      have p161:0≤(aG:Int):=of_decide_eq_true (by first | (with_reducible assumption) | assumption)
      have q161:aG < (aH.length:Int):=of_decide_eq_true (by first | (with_reducible assumption) | assumption)
      obtain ⟨ad161,aJ8,aJ9,aK0,aK1,e161,eB,dF,dG,iW,iX,iY,iZ⟩:=a3N bF.out aG p161 q161
      have jA:=dG
      have jB:=dF
      have jC:=eB
      obtain rfl:ad157 = ad161:=(by injection e161)
      replace eB:=a0C HB.out eB
      replace dF:=a0C HB.out dF
      replace dG:=a0C HB.out dG
      have mZ:=a0A.mk iX
      have aF4:=a0A.mk iW
      clear iX iW
      have nA:=a0A.mk iZ
      have aF5:=a0A.mk iY
      clear iZ iY
      replace p161:=eq_true p161
      replace q161:=eq_true q161
      have ea_:=Option.some.inj (dD.symm.trans dF)
      injection ea_ with ea_ en_ ec_
      subst ea_
      subst ec_
      clear en_
      have ea_:=Option.some.inj (dE.symm.trans dG)
      injection ea_ with ea_ en_ ec_
      subst ea_
      subst ec_
      clear en_
      refine a4L (n:=18) (S:=fun w' =>w'.cell? ⟨bV,0,none⟩ = some (.slice (some ad157) aH.length aY)∧w'.cell? (ad157.add ((aG).toNat * 3)) = some (.string ((a0P aH aG).f0))∧w'.cell? ⟨(ad157.add ((aG).toNat * 3)).block,(ad157.add ((aG).toNat * 3)).off + 1,none⟩ = some (.slice jY ((a0P aH aG).f1).length jZ)∧w'.cell? ⟨(ad157.add ((aG).toNat * 3)).block,(ad157.add ((aG).toNat * 3)).off + 2,none⟩ = some (.slice fU ((a0P aH aG).f2).length fV)∧w'.cell? (ad157.add ((aG).toNat * 3)) = some (.string ((a0P aH aG).f0))∧w'.cell? ⟨(ad157.add ((aG).toNat * 3)).block,(ad157.add ((aG).toNat * 3)).off + 1,none⟩ = some (.slice jY ((a0P aH aG).f1).length jZ)∧w'.cell? ⟨(ad157.add ((aG).toNat * 3)).block,(ad157.add ((aG).toNat * 3)).off + 2,none⟩ = some (.slice fU ((a0P aH aG).f2).length fV)) (ds:=[]) #[false,false,false,false,false,false,false,false,false,false,false,false,false,false,false,false,false,false] (by kernel_rfl) rfl rfl ⟨(a0G bE.out 0).trans rfl,(a0C HB.out iU),(a0C HB.out iT),(a0C HB.out iS),(a0C HB.out jC),(a0C HB.out jB),(a0C HB.out jA)⟩ (fun hHeld =>?_);refine a2R r03_Big.tab7 r03_Big.bits7 (fun HT_ HW_ =>?_)
      generalize w11.drew = w12 at bE HB mX iV mZ nA dZ dD dE eB dF dG hHeld ⊢
      refine a1E (i:=0) (N:=some 20) (v:=?_) (a':=?_) #[true,false,false,false,false,false,false,false,false,false,false,false,false,false,false,false,false,false] rfl rfl (a0Z HT_.out (by kernel_rfl)) (fun _ _ _ h =>h) (Or.inl ⟨by rfl,?_⟩) ?_ ?_
      rotate_left
      ·intro w'
       go_simp
       with_reducible rfl
      rotate_left
      ·simp only [Act.put,List.setIfInBounds_toArray,List.set_cons_zero,List.set_cons_succ,a0X,a0Y]
       rfl
      refine a1E (i:=1) (N:=some 21) (v:=?_) (a':=?_) #[true,true,false,false,false,false,false,false,false,false,false,false,false,false,false,false,false,false] rfl rfl (a0Z HT_.out (by kernel_rfl)) (fun _ _ _ h =>h) (Or.inl ⟨by rfl,?_⟩) ?_ ?_
      rotate_left
      ·intro w'
       go_simp
       with_reducible rfl
      rotate_left
      ·simp only [Act.put,List.setIfInBounds_toArray,List.set_cons_zero,List.set_cons_succ,a0X,a0Y]
       rfl
      refine a1E (i:=3) (N:=some 23) (v:=?_) (a':=?_) #[true,true,false,true,false,false,false,false,false,false,false,false,false,false,false,false,false,false] rfl rfl (a0Z HT_.out (by kernel_rfl)) (fun _ _ _ h =>h) (Or.inl ⟨by rfl,?_⟩) ?_ ?_
      rotate_left
      ·intro w'
       go_simp
       with_reducible rfl
      rotate_left
      ·simp only [Act.put,List.setIfInBounds_toArray,List.set_cons_zero,List.set_cons_succ,a0X,a0Y]
       rfl
      refine a1E (i:=8) (N:=some 28) (v:=?_) (a':=?_) #[true,true,false,true,false,false,false,false,true,false,false,false,false,false,false,false,false,false] rfl rfl (a0Z HT_.out (by kernel_rfl)) (fun _ _ _ h =>h) (Or.inl ⟨by rfl,?_⟩) ?_ ?_
      rotate_left
      ·intro w'
       go_simp
       with_reducible rfl
      rotate_left
      ·simp only [Act.put,List.setIfInBounds_toArray,List.set_cons_zero,List.set_cons_succ,a0X,a0Y]
       rfl
      refine a1E (i:=10) (N:=some 30) (v:=?_) (a':=?_) #[true,true,false,true,false,false,false,false,true,false,true,false,false,false,false,false,false,false] rfl rfl (a0Z HT_.out (by kernel_rfl)) (fun _ _ _ h =>h) (Or.inl ⟨by rfl,?_⟩) ?_ ?_
      rotate_left
      ·intro w'
       go_simp
       with_reducible rfl
      rotate_left
      ·simp only [Act.put,List.setIfInBounds_toArray,List.set_cons_zero,List.set_cons_succ,a0X,a0Y]
       rfl
      refine a2M (i:=2) (N:=some 22) (v:=?_) (a':=?_) #[true,true,true,true,false,false,false,false,true,false,true,false,false,false,false,false,false,false] rfl rfl (a1O HT_.out HW_.out (by kernel_rfl)) (fun _ _ _ h =>h) (Or.inl ⟨by rfl,?_⟩) hHeld ?_ ?_
      rotate_left
      ·rintro w' ⟨s0,s1,s2,s3,s4,s5,s6⟩
       go_simp
       with_reducible rfl
      rotate_left
      ·simp only [Act.put,List.setIfInBounds_toArray,List.set_cons_zero,List.set_cons_succ,a0X,a0Y]
       rfl
      refine a1E (i:=4) (N:=some 24) (v:=?_) (a':=?_) #[true,true,true,true,true,false,false,false,true,false,true,false,false,false,false,false,false,false] rfl rfl (a0Z HT_.out (by kernel_rfl)) (fun _ _ _ h =>h) (Or.inl ⟨by rfl,?_⟩) ?_ ?_
      rotate_left
      ·intro w'
       go_simp
       with_reducible rfl
      rotate_left
      ·simp only [Act.put,List.setIfInBounds_toArray,List.set_cons_zero,List.set_cons_succ,a0X,a0Y]
       rfl
      refine a1E (i:=5) (N:=some 25) (v:=?_) (a':=?_) #[true,true,true,true,true,true,false,false,true,false,true,false,false,false,false,false,false,false] rfl rfl (a0Z HT_.out (by kernel_rfl)) (fun _ _ _ h =>h) (Or.inl ⟨by rfl,?_⟩) ?_ ?_
      rotate_left
      ·intro w'
       go_simp
       with_reducible rfl
      rotate_left
      ·simp only [Act.put,List.setIfInBounds_toArray,List.set_cons_zero,List.set_cons_succ,a0X,a0Y]
       rfl
      refine a2M (i:=6) (N:=some 26) (v:=?_) (a':=?_) #[true,true,true,true,true,true,true,false,true,false,true,false,false,false,false,false,false,false] rfl rfl (a1O HT_.out HW_.out (by kernel_rfl)) (fun _ _ _ h =>h) (Or.inl ⟨by rfl,?_⟩) hHeld ?_ ?_
      rotate_left
      ·rintro w' ⟨s0,s1,s2,s3,s4,s5,s6⟩
       go_simp
       with_reducible rfl
      rotate_left
      ·simp only [Act.put,List.setIfInBounds_toArray,List.set_cons_zero,List.set_cons_succ,a0X,a0Y]
       rfl
      refine a2M (i:=9) (N:=some 29) (v:=?_) (a':=?_) #[true,true,true,true,true,true,true,false,true,true,true,false,false,false,false,false,false,false] rfl rfl (a1O HT_.out HW_.out (by kernel_rfl)) (fun _ _ _ h =>h) (Or.inl ⟨by rfl,?_⟩) hHeld ?_ ?_
      rotate_left
      ·rintro w' ⟨s0,s1,s2,s3,s4,s5,s6⟩
       go_simp
       with_reducible rfl
      rotate_left
      ·simp only [Act.put,List.setIfInBounds_toArray,List.set_cons_zero,List.set_cons_succ,a0X,a0Y]
       rfl
      refine a1E (i:=11) (N:=some 31) (v:=?_) (a':=?_) #[true,true,true,true,true,true,true,false,true,true,true,true,false,false,false,false,false,false] rfl rfl (a0Z HT_.out (by kernel_rfl)) (fun _ _ _ h =>h) (Or.inl ⟨by rfl,?_⟩) ?_ ?_
      rotate_left
      ·intro w'
       go_simp
       with_reducible rfl
      rotate_left
      ·simp only [Act.put,List.setIfInBounds_toArray,List.set_cons_zero,List.set_cons_succ,a0X,a0Y]
       rfl
      refine a1E (i:=12) (N:=some 32) (v:=?_) (a':=?_) #[true,true,true,true,true,true,true,false,true,true,true,true,true,false,false,false,false,false] rfl rfl (a0Z HT_.out (by kernel_rfl)) (fun _ _ _ h =>h) (Or.inl ⟨by rfl,?_⟩) ?_ ?_
      rotate_left
      ·intro w'
       go_simp
       with_reducible rfl
      rotate_left
      ·simp only [Act.put,List.setIfInBounds_toArray,List.set_cons_zero,List.set_cons_succ,a0X,a0Y]
       rfl
      refine a2M (i:=13) (N:=some 33) (v:=?_) (a':=?_) #[true,true,true,true,true,true,true,false,true,true,true,true,true,true,false,false,false,false] rfl rfl (a1O HT_.out HW_.out (by kernel_rfl)) (fun _ _ _ h =>h) (Or.inl ⟨by rfl,?_⟩) hHeld ?_ ?_
      rotate_left
      ·rintro w' ⟨s0,s1,s2,s3,s4,s5,s6⟩
       go_simp
       with_reducible rfl
      rotate_left
      ·simp only [Act.put,List.setIfInBounds_toArray,List.set_cons_zero,List.set_cons_succ,a0X,a0Y]
       rfl
      refine a1E (i:=14) (N:=some 34) (v:=?_) (a':=?_) #[true,true,true,true,true,true,true,false,true,true,true,true,true,true,true,false,false,false] rfl rfl (a0Z HT_.out (by kernel_rfl)) (fun _ _ _ h =>h) (Or.inl ⟨by rfl,?_⟩) ?_ ?_
      rotate_left
      ·intro w'
       go_simp
       with_reducible rfl
      rotate_left
      ·simp only [Act.put,List.setIfInBounds_toArray,List.set_cons_zero,List.set_cons_succ,a0X,a0Y]
       rfl
      refine one_ (i:=7) (N:=some 27) #[true,true,true,true,true,true,true,true,true,true,true,true,true,true,true,false,false,false] rfl rfl (a2O HT_.out (by kernel_rfl)) (by decide) (fun K hK =>?_)
      refine a3K Try.func23 (by kernel_rfl) rfl #[.slice fU ((a0P aH aG).f2).length fV] (by rfl) rfl rfl (by (try simp only [List.map_toArray,List.map_cons,List.map_nil]);first | done | rfl | (simp only [List.length_drop,List.length_take];rfl)) ?_
      with_reducible refine (r03_Count.calls k1 _ _ ((a0P aH aG).f2) t160 _ ?side1 ?side2 A9.out).mono ?_
      (case side1 =>repeat (first | exact (Kd.a0N iV.out HB.out) | (with_reducible refine Kd.a0R ?_ _) | (with_reducible refine Kd.a0Q ?_ _) | (with_reducible refine Kd.a1B ?_)))
      (case side2 =>exact mY.out)
      rintro e w13 ⟨rfl,hb⟩
      refine ⟨_,rfl,?_⟩
      have aZ:=a0A.mk (a0U (g:=bV) (o:=.cells #[.slice (some ad157) aH.length aY] 24 (0,0)) (by (with_reducible repeat (first | refine a0L ?_ _ | refine a0M ?_ | refine a0K ?_ _));exact bE.out) hb)
      have bB:=a0A.mk (a0H (by repeat (first | (with_reducible first | exact HB.out | apply a0D | apply a0B | apply a0E | refine a0I ?_ dI.out) | exact HB.out)) hb)
      clear bE
      clear HB
      have bE:=aZ
      have HB:=bB
      clear aZ bB
      (try clear hb)
      (try clear hb2)
      (try clear hk)
      (try clear hi)
      refine hK.out _ _ ⟨(a0G bE.out 0).trans rfl,(a0C HB.out iU),(a0C HB.out iT),(a0C HB.out iS),(a0C HB.out jC),(a0C HB.out jB),(a0C HB.out jA)⟩ (fun hHeld =>?_)
      clear hK K
      refine a3J (a':=?_) ?_ ?_
      rotate_left
      ·show Act.put _ (some 27) _ = _
       simp only [Act.put,List.setIfInBounds_toArray,List.set_cons_zero,List.set_cons_succ,a0X,a0Y]
       rfl
      refine a1E (i:=15) (N:=some 35) (v:=?_) (a':=?_) #[true,true,true,true,true,true,true,true,true,true,true,true,true,true,true,true,false,false] rfl rfl (a0Z HT_.out (by kernel_rfl)) (fun _ _ _ h =>h) (Or.inl ⟨by rfl,?_⟩) ?_ ?_
      rotate_left
      ·intro w'
       go_simp
       with_reducible rfl
      rotate_left
      ·simp only [Act.put,List.setIfInBounds_toArray,List.set_cons_zero,List.set_cons_succ,a0X,a0Y]
       rfl
      refine a1E (i:=16) (N:=some 36) (v:=?_) (a':=?_) #[true,true,true,true,true,true,true,true,true,true,true,true,true,true,true,true,true,false] rfl rfl (a0Z HT_.out (by kernel_rfl)) (fun _ _ _ h =>h) (Or.inl ⟨by rfl,?_⟩) ?_ ?_
      rotate_left
      ·intro w'
       go_simp
       with_reducible rfl
      rotate_left
      ·simp only [Act.put,List.setIfInBounds_toArray,List.set_cons_zero,List.set_cons_succ,a0X,a0Y]
       rfl
      refine a1E (i:=17) (N:=some 3) (v:=?_) (a':=?_) #[true,true,true,true,true,true,true,true,true,true,true,true,true,true,true,true,true,true] rfl rfl (a0Z HT_.out (by kernel_rfl)) (fun _ _ _ h =>h) (Or.inl ⟨by rfl,?_⟩) ?_ ?_
      rotate_left
      ·intro w'
       go_simp
       with_reducible rfl
      rotate_left
      ·simp only [Act.put,List.setIfInBounds_toArray,List.set_cons_zero,List.set_cons_succ,a0X,a0Y]
       rfl
      refine a6F (a3S HT_.out (by kernel_rfl)) ?_
      try go_wp2
      go_roundg k1
      case measure =>have:=HK1.out;omega
      case rel =>exact ⟨(wrap64 (bW + (wrap64 (t160 + (((a0P aH aG).f1).length:Int))))),(wrap64 (aG + 1)),(by first | rfl | (simp;done) | (simp [*];done)),(by first | rfl | (simp;done) | (simp [*];done)),H',⟨by have:=HK1.out;omega⟩,⟨by (with_reducible repeat (first | refine a0L ?_ _ | refine a0M ?_ | refine a0K ?_ _));exact bE.out⟩,⟨by repeat (first | (with_reducible first | exact HB.out | apply a0D | apply a0B | apply a0E | refine a0I ?_ dI.out) | exact HB.out)⟩⟩
    ·rw [if_neg c4] at H
     exact absurd H (by simp)
   ·rw [if_neg c3] at H
    have c3b0:decide (aG < (aH.length:Int)) = false:=decide_eq_false c3
    clear c3
    by_cases c14:bW > 3000
    ·rw [if_pos c14] at H
     have c14b0:decide (3000 < bW) = true:=decide_eq_true c14
     clear c14
     obtain rfl:=Option.some.inj H
     have mA:wr.cell? ⟨bV,0,none⟩ = some (.slice bA aH.length aY):=(a0G bE.out 0).trans rfl
     have mB:=a0F bE.out 0
     go_wp2
     go_ret
     exact ⟨by first | rfl | (simp [a0T,a0S] <;> rfl) | (simp [*,a0T,a0S] <;> rfl),by repeat (first | (with_reducible first | exact HB.out | apply a0D | apply a0B | apply a0E | refine a0I ?_ dI.out) | exact HB.out)⟩
    ·rw [if_neg c14] at H
     have c14b0:decide (3000 < bW) = false:=decide_eq_false c14
     clear c14
     obtain rfl:=Option.some.inj H
     have mD:wr.cell? ⟨bV,0,none⟩ = some (.slice bA aH.length aY):=(a0G bE.out 0).trans rfl
     have mE:=a0F bE.out 0
     go_wp2
     go_ret
     exact ⟨by first | rfl | (simp [a0T,a0S] <;> rfl) | (simp [*,a0T,a0S] <;> rfl),by repeat (first | (with_reducible first | exact HB.out | apply a0D | apply a0B | apply a0E | refine a0I ?_ dI.out) | exact HB.out)⟩
def r02_Texts.l0:Nat→List ByteArray→List ByteArray→Int→Option (Bool)
 | 0,_,_,_ =>none
 | k + 1,x0,x1,x5 =>if x5 < (x0.length:Int) then (if 0≤x5 then (if x5 < (x1.length:Int) then (if (rdOf ByteArray.empty x0 x5).toList = (rdOf ByteArray.empty x1 x5).toList then (r02_Texts.l0 k x0 x1 (wrap64 (x5 + 1))) else (some false)) else (none)) else (none)) else (some true)
def r02_Texts.f (k:Nat) (l0:List ByteArray) (l1:List ByteArray):Option (Bool):=if (l0.length:Int) = (l1.length:Int) then (r02_Texts.l0 k l0 l1 0) else (some false)
set_option maxHeartbeats 8000000 in
set_option maxRecDepth 100000 in
theorem r02_Texts.calls (k:Nat) (A0:Option Addr) (c0:Nat) (l0:List ByteArray) (A1:Option Addr) (c1:Nat) (l1:List ByteArray) (r:Bool) (w:World) (hr0:Kd.C Kd.string w A0 l0.length l0) (hc0:l0.length≤c0) (hr1:Kd.C Kd.string w A1 l1.length l1) (hc1:l1.length≤c1) (h:r02_Texts.f k l0 l1 = some r) :
    Calls Try.prog 10 #[.slice A0 l0.length c0,.slice A1 l1.length c1] w fun e w' =>e = .returned (.bool r)∧a1P w w':=by
 have HR0:=a0A.mk hr0
 have HC0:=a0A.mk hc0
 clear hr0 hc0
 have HR1:=a0A.mk hr1
 have HC1:=a0A.mk hc1
 clear hr1 hc1
 have H:(if (l0.length:Int) = (l1.length:Int) then (r02_Texts.l0 k l0 l1 0) else (some false)) = some r:=h
 clear h
 by_cases c3:(l0.length:Int) = (l1.length:Int)
 ·rw [if_pos c3] at H
  have c3b0:((l0.length:Int) == (l1.length:Int)) = true:=beq_iff_eq.mpr c3
  have c3b1:((l0.length:Int) != (l1.length:Int)) = false:=bne_eq_false_iff_eq.mpr c3
  have c3b2:(l0.length == l1.length) = true:=by first | simpa using c3 | (simp at c3 ⊢;omega)
  clear c3
  have H':=a0A.mk H
  clear H
  go_enter Try.func10,Try.ntmps10
  go_wp2
  repeat (go_quiet (fail);try go_wp2)
  go_loopg [5] k (fun kq v5 w' =>∃ (aD:Int),v5 = .int .i64 aD∧a0A (r02_Texts.l0 kq l0 l1 aD = some r)∧a0A (kq≤k)∧a1P w w')
  case atStart =>exact ⟨(0),(by first | rfl | (simp;done) | (simp [*];done)),H',⟨Nat.le_refl _⟩,by repeat (first | exact a1P.refl _ | apply a1P.step)⟩
  case round =>
   clear H'
   try clear c1
   try clear p2
   try clear c3
   try clear c3b0
   try clear c3b1
   try clear c3b2
   obtain ⟨aD,rfl,HA,HK1,⟨m1,rfl⟩⟩:=hrel
   cases gk with
   | zero =>exact absurd HA.out (by simp [r02_Texts.l0])
   | succ k1 =>
    have H:=HA.out
    clear HA
    simp only [r02_Texts.l0] at H
    by_cases c4:aD < (l0.length:Int)
    ·rw [if_pos c4] at H
     have c4b0:decide (aD < (l0.length:Int)) = true:=decide_eq_true c4
     clear c4
     by_cases c5:0≤aD
     ·rw [if_pos c5] at H
      have c5b0:decide (0≤aD) = true:=decide_eq_true c5
      clear c5
      by_cases c6:aD < (l1.length:Int)
      ·rw [if_pos c6] at H
       have c6b0:decide (aD < (l1.length:Int)) = true:=decide_eq_true c6
       clear c6
       by_cases c7:(rdOf ByteArray.empty l0 aD).toList = (rdOf ByteArray.empty l1 aD).toList
       ·rw [if_pos c7] at H
        have c7b0:((rdOf ByteArray.empty l0 aD).toList == (rdOf ByteArray.empty l1 aD).toList) = true:=beq_iff_eq.mpr c7
        have c7b1:((rdOf ByteArray.empty l0 aD).toList != (rdOf ByteArray.empty l1 aD).toList) = false:=bne_eq_false_iff_eq.mpr c7
        clear c7
        have H':=a0A.mk H
        clear H
        have p162:0≤(aD:Int):=of_decide_eq_true (by first | (with_reducible assumption) | assumption)
        have q162:aD < (l0.length:Int):=of_decide_eq_true (by first | (with_reducible assumption) | assumption)
        obtain ⟨ad162,e162,nB⟩:=Kd.a2D HR0.out aD p162 q162
        cases e162
        replace p162:=eq_true p162
        replace q162:=eq_true q162
        have p163:0≤(aD:Int):=of_decide_eq_true (by first | (with_reducible assumption) | assumption)
        have q163:aD < (l1.length:Int):=of_decide_eq_true (by first | (with_reducible assumption) | assumption)
        obtain ⟨ad163,e163,nC⟩:=Kd.a2D HR1.out aD p163 q163
        cases e163
        replace p163:=eq_true p163
        replace q163:=eq_true q163
        go_wp2
        repeat (go_quiet (fail);try go_wp2)
        go_roundg k1
        case measure =>have:=HK1.out;omega
        case rel =>exact ⟨(wrap64 (aD + 1)),(by first | rfl | (simp;done) | (simp [*];done)),H',⟨by have:=HK1.out;omega⟩,by repeat (first | exact a1P.refl _ | apply a1P.step)⟩
       ·rw [if_neg c7] at H
        have c7b0:((rdOf ByteArray.empty l0 aD).toList == (rdOf ByteArray.empty l1 aD).toList) = false:=beq_eq_false_iff_ne.mpr c7
        have c7b1:((rdOf ByteArray.empty l0 aD).toList != (rdOf ByteArray.empty l1 aD).toList) = true:=bne_iff_ne.mpr c7
        obtain rfl:=Option.some.inj H
        have p162:0≤(aD:Int):=of_decide_eq_true (by first | (with_reducible assumption) | assumption)
        have q162:aD < (l0.length:Int):=of_decide_eq_true (by first | (with_reducible assumption) | assumption)
        obtain ⟨ad162,e162,nB⟩:=Kd.a2D HR0.out aD p162 q162
        cases e162
        replace p162:=eq_true p162
        replace q162:=eq_true q162
        have p163:0≤(aD:Int):=of_decide_eq_true (by first | (with_reducible assumption) | assumption)
        have q163:aD < (l1.length:Int):=of_decide_eq_true (by first | (with_reducible assumption) | assumption)
        obtain ⟨ad163,e163,nC⟩:=Kd.a2D HR1.out aD p163 q163
        cases e163
        replace p163:=eq_true p163
        replace q163:=eq_true q163
        go_wp2
        repeat (go_quiet (fail);try go_wp2)
        go_ret
        exact ⟨by first | rfl | (simp;done) | (simp [*];done),by repeat (first | exact a1P.refl _ | apply a1P.step)⟩
      ·rw [if_neg c6] at H
       exact absurd H (by simp)
     ·rw [if_neg c5] at H
      exact absurd H (by simp)
    ·rw [if_neg c4] at H
     have c4b0:decide (aD < (l0.length:Int)) = false:=decide_eq_false c4
     clear c4
     obtain rfl:=Option.some.inj H
     go_wp2
     repeat (go_quiet (fail);try go_wp2)
     go_ret
     exact ⟨by first | rfl | (simp;done) | (simp [*];done),by repeat (first | exact a1P.refl _ | apply a1P.step)⟩
 ·rw [if_neg c3] at H
  have c3b0:((l0.length:Int) == (l1.length:Int)) = false:=beq_eq_false_iff_ne.mpr c3
  have c3b1:((l0.length:Int) != (l1.length:Int)) = true:=bne_iff_ne.mpr c3
  have c3b2:(l0.length == l1.length) = false:=by first | simpa using c3 | (simp at c3 ⊢;omega)
  obtain rfl:=Option.some.inj H
  go_enter Try.func10,Try.ntmps10
  go_wp2
  repeat (go_quiet (fail);try go_wp2)
  go_ret
  exact ⟨by first | rfl | (simp;done) | (simp [*];done),by repeat (first | exact a1P.refl _ | apply a1P.step)⟩
end Go.Proofs.Ytjiacafeckokeaa.Pr
