/- A part of the proof that EffectsUnion returns true for every argument. No conditions beyond the given statement's own. -/
import Derived.Test.YthhgfncliffggaaEUn2
import Derived.Lib.Hide
import Derived.RegionTactic
import Derived.ChangeAlike
set_option linter.unusedVariables false
set_option linter.unusedSimpArgs false
namespace Go.Proofs.Ythhgfncliffggaa.Pr
open Go.RowKit Go.Proofs.YthhgfncliffggaaW.PrintWords Go.Proofs.YthhgfncliffggaaW.PrintLast Go.Proofs.YthhgfncliffggaaW.PrintMore
attribute [local go_sem] a4I a4H a5P a5O a4R a4Q a6C a6B   -- for this text's walks alone
def r02_ok.f (aG:List (S72)) (aA:Int) (aI:Int) (aV:Int) (aU:Int) (aW:Int):Option (Bool):=some (aU == 0)
set_option maxHeartbeats 8000000 in
set_option maxRecDepth 100000 in
theorem r02_ok.calls (aZ:Option Addr) (aY:Nat) (aG:List (S72)) (aA:Int) (aI:Int) (aV:Int) (aU:Int) (aW:Int) (r:Bool) (w:World) (bY:Kd.C k72 w aZ aG.length aG) (bZ:aG.length≤aY) (h:r02_ok.f aG aA aI aV aU aW = some r) :
    Calls Try.prog 32 #[.agg #[.slice aZ aG.length aY,.int .i64 aA,.int .i64 aI,.int .i64 aV,.int .i64 aU,.int .i64 aW]] w fun e w' =>e = .returned (.bool r)∧Below w.heap.size w w':=by
 have hu74:=Try.underlying74
 have bF:=a0G.mk bY
 have bQ:=a0G.mk bZ
 clear bY bZ
 have HB:=a0G.mk (Below.refl w.heap.size w)
 have H:(some (aU == 0)) = some r:=h
 clear h
 obtain rfl:=Option.some.inj H
 go_enter Try.func32,Try.ntmps32
 go_wp2_with (first | ((with_reducible refine a0P (N:=1) rfl ?_);refine a0Q ?hg (N:=1) ?hd (cs:=#[.slice aZ aG.length aY,.int .i64 aA,.int .i64 aI,.int .i64 aV,.int .i64 aU,.int .i64 aW]) (t:=74) ?hr ?_;(case hd =>rfl);(case hg =>rfl);(case hr =>first | (go_simp;done) | (go_simp;rfl));intro cA hg w2 hbox hb;have bA:=a0G.mk (a0E (by repeat (first | (with_reducible first | exact HB.out | apply a0B | apply a0A | apply a0C) | exact HB.out)) hb);have bC:=a0G.mk (hbox);have bH:=a0G.mk ((by rw [hg];exact (a0U (by repeat (first | (with_reducible first | exact HB.out | apply a0B | apply a0A | apply a0C) | exact HB.out))):w.heap.size≤cA));have bR:=a0G.mk ((by rw [hg];exact (a0U (by repeat (first | (with_reducible first | exact HB.out | apply a0B | apply a0A | apply a0C) | exact HB.out))):w.heap.size≤cA));clear HB;have HB:=bA;have bO:=bC;have GW101:=bH;have fJ:=bR;clear bA bC bH bR;clear hb hbox hg;have pK:w2.cell? ⟨cA,0,none⟩ = some (.slice aZ aG.length aY):=(a0F bO.out 0).trans rfl;have pL:w2.cell? ⟨cA,1,none⟩ = some (.int .i64 aA):=(a0F bO.out 1).trans rfl;have pM:w2.cell? ⟨cA,2,none⟩ = some (.int .i64 aI):=(a0F bO.out 2).trans rfl;have pN:w2.cell? ⟨cA,3,none⟩ = some (.int .i64 aV):=(a0F bO.out 3).trans rfl;have pO:w2.cell? ⟨cA,4,none⟩ = some (.int .i64 aU):=(a0F bO.out 4).trans rfl;have pP:w2.cell? ⟨cA,5,none⟩ = some (.int .i64 aW):=(a0F bO.out 5).trans rfl;have pQ:=a0D bO.out 0;have pR:=a0D bO.out 1;have pS:=a0D bO.out 2;have pT:=a0D bO.out 3;have pU:=a0D bO.out 4;have pV:=a0D bO.out 5))
 go_ret
 exact ⟨by first | rfl | (simp [a0O,a0N] <;> rfl) | (simp [*,a0O,a0N] <;> rfl),by repeat (first | (with_reducible first | exact HB.out | apply a0B | apply a0A | apply a0C | refine a0L ?_ fJ.out) | exact HB.out)⟩
def r01_Letter.f (a0:Int):Option (Bool):=if a0 ≥ 97 then (if a0≤122 then (some true) else (if a0 ≥ 65 then (some (decide (a0≤90))) else (some false))) else (if a0 ≥ 65 then (some (decide (a0≤90))) else (some false))
set_option maxHeartbeats 8000000 in
set_option maxRecDepth 100000 in
theorem r01_Letter.calls (a0:Int) (r:Bool) (w:World) (h:r01_Letter.f a0 = some r) :
    Calls Try.prog 28 #[.int .u8 a0] w fun e w' =>e = .returned (.bool r)∧a0Y w w':=by
 have H:(if a0 ≥ 97 then (if a0≤122 then (some true) else (if a0 ≥ 65 then (some (decide (a0≤90))) else (some false))) else (if a0 ≥ 65 then (some (decide (a0≤90))) else (some false))) = some r:=h
 clear h
 by_cases c2:a0 ≥ 97
 ·rw [if_pos c2] at H
  have c2b0:decide (97≤a0) = true:=decide_eq_true c2
  clear c2
  by_cases c3:a0≤122
  ·rw [if_pos c3] at H
   have c3b0:decide (a0≤122) = true:=decide_eq_true c3
   clear c3
   obtain rfl:=Option.some.inj H
   go_enter Try.func28,Try.ntmps28
   go_wp2
   go_ret
   exact ⟨by first | rfl | (simp;done) | (simp [*];done),by repeat (first | exact a0Y.refl _ | apply a0Y.step)⟩
  ·rw [if_neg c3] at H
   have c3b0:decide (a0≤122) = false:=decide_eq_false c3
   clear c3
   by_cases c4:a0 ≥ 65
   ·rw [if_pos c4] at H
    have c4b0:decide (65≤a0) = true:=decide_eq_true c4
    clear c4
    obtain rfl:=Option.some.inj H
    go_enter Try.func28,Try.ntmps28
    go_wp2
    go_ret
    exact ⟨by first | rfl | (simp;done) | (simp [*];done),by repeat (first | exact a0Y.refl _ | apply a0Y.step)⟩
   ·rw [if_neg c4] at H
    have c4b0:decide (65≤a0) = false:=decide_eq_false c4
    clear c4
    obtain rfl:=Option.some.inj H
    go_enter Try.func28,Try.ntmps28
    go_wp2
    go_ret
    exact ⟨by first | rfl | (simp;done) | (simp [*];done),by repeat (first | exact a0Y.refl _ | apply a0Y.step)⟩
 ·rw [if_neg c2] at H
  have c2b0:decide (97≤a0) = false:=decide_eq_false c2
  clear c2
  by_cases c5:a0 ≥ 65
  ·rw [if_pos c5] at H
   have c5b0:decide (65≤a0) = true:=decide_eq_true c5
   clear c5
   obtain rfl:=Option.some.inj H
   go_enter Try.func28,Try.ntmps28
   go_wp2
   go_ret
   exact ⟨by first | rfl | (simp;done) | (simp [*];done),by repeat (first | exact a0Y.refl _ | apply a0Y.step)⟩
  ·rw [if_neg c5] at H
   have c5b0:decide (65≤a0) = false:=decide_eq_false c5
   clear c5
   obtain rfl:=Option.some.inj H
   go_enter Try.func28,Try.ntmps28
   go_wp2
   go_ret
   exact ⟨by first | rfl | (simp;done) | (simp [*];done),by repeat (first | exact a0Y.refl _ | apply a0Y.step)⟩
def r01_Digit.f (a0:Int):Option (Bool):=if a0 ≥ 48 then (some (decide (a0≤57))) else (some false)
set_option maxHeartbeats 8000000 in
set_option maxRecDepth 100000 in
theorem r01_Digit.calls (a0:Int) (r:Bool) (w:World) (h:r01_Digit.f a0 = some r) :
    Calls Try.prog 30 #[.int .u8 a0] w fun e w' =>e = .returned (.bool r)∧a0Y w w':=by
 have H:(if a0 ≥ 48 then (some (decide (a0≤57))) else (some false)) = some r:=h
 clear h
 by_cases c2:a0 ≥ 48
 ·rw [if_pos c2] at H
  have c2b0:decide (48≤a0) = true:=decide_eq_true c2
  clear c2
  obtain rfl:=Option.some.inj H
  go_enter Try.func30,Try.ntmps30
  go_wp2
  go_ret
  exact ⟨by first | rfl | (simp;done) | (simp [*];done),by repeat (first | exact a0Y.refl _ | apply a0Y.step)⟩
 ·rw [if_neg c2] at H
  have c2b0:decide (48≤a0) = false:=decide_eq_false c2
  clear c2
  obtain rfl:=Option.some.inj H
  go_enter Try.func30,Try.ntmps30
  go_wp2
  go_ret
  exact ⟨by first | rfl | (simp;done) | (simp [*];done),by repeat (first | exact a0Y.refl _ | apply a0Y.step)⟩
def r01_Inner.f (a0:Int):Option (Bool):=(r01_Letter.f a0).bind fun t102 =>(if t102 = true then (some true) else ((r01_Digit.f a0).bind fun t103 =>(if t103 = true then (some true) else (some (a0 == 95)))))
set_option maxHeartbeats 8000000 in
set_option maxRecDepth 100000 in
theorem r01_Inner.calls (a0:Int) (r:Bool) (w:World) (h:r01_Inner.f a0 = some r) :
    Calls Try.prog 29 #[.int .u8 a0] w fun e w' =>e = .returned (.bool r)∧a0Y w w':=by
 have H:((r01_Letter.f a0).bind fun t102 =>(if t102 = true then (some true) else ((r01_Digit.f a0).bind fun t103 =>(if t103 = true then (some true) else (some (a0 == 95)))))) = some r:=h
 clear h
 replace H:=Option.bind_eq_some_iff.mp H
 obtain ⟨t102,A20,H⟩:=H
 replace H:(if t102 = true then (some true) else ((r01_Digit.f a0).bind fun t103 =>(if t103 = true then (some true) else (some (a0 == 95))))) = some r:=H
 have A2:=a0G.mk A20
 clear A20
 by_cases c3:t102 = true
 ·subst c3
  have H1:(some true) = some r:=by rw [if_pos rfl] at H;exact H
  clear H
  have H:=H1
  clear H1
  obtain rfl:=Option.some.inj H
  go_enter Try.func29,Try.ntmps29
  go_wp2_with (first | ((with_reducible refine a1F (f:=28) rfl ?_);refine a2M (some 4) rfl rfl Try.func28 (by kernel_rfl) rfl #[.int .u8 a0] rfl (by (try simp only [List.map_toArray,List.map_cons,List.map_nil]);first | done | rfl | (simp only [List.length_drop,List.length_take];rfl)) ?_;(with_reducible refine (r01_Letter.calls a0 true _ A2.out).mono ?_);rintro e w' ⟨rfl,⟨nd,rfl⟩⟩;refine ⟨_,rfl,?_⟩))
  go_ret
  exact ⟨by first | rfl | (simp;done) | (simp [*];done),by repeat (first | exact a0Y.refl _ | apply a0Y.step)⟩
 ·replace c3:=Bool.eq_false_iff.mpr c3
  subst c3
  have H1:((r01_Digit.f a0).bind fun t103 =>(if t103 = true then (some true) else (some (a0 == 95)))) = some r:=by rw [if_neg (show ¬ (false = true) by decide)] at H;exact H
  clear H
  have H:=H1
  clear H1
  replace H:=Option.bind_eq_some_iff.mp H
  obtain ⟨t103,A40,H⟩:=H
  replace H:(if t103 = true then (some true) else (some (a0 == 95))) = some r:=H
  have A4:=a0G.mk A40
  clear A40
  by_cases c5:t103 = true
  ·subst c5
   have H1:(some true) = some r:=by rw [if_pos rfl] at H;exact H
   clear H
   have H:=H1
   clear H1
   obtain rfl:=Option.some.inj H
   go_enter Try.func29,Try.ntmps29
   go_wp2_with (first | ((with_reducible refine a1F (f:=28) rfl ?_);refine a2M (some 4) rfl rfl Try.func28 (by kernel_rfl) rfl #[.int .u8 a0] rfl (by (try simp only [List.map_toArray,List.map_cons,List.map_nil]);first | done | rfl | (simp only [List.length_drop,List.length_take];rfl)) ?_;(with_reducible refine (r01_Letter.calls a0 false _ A2.out).mono ?_);rintro e w' ⟨rfl,⟨nd,rfl⟩⟩;refine ⟨_,rfl,?_⟩) | (go_at_call 30;(with_reducible refine (r01_Digit.calls a0 true _ A4.out).mono ?_);rintro e w' ⟨rfl,⟨nd,rfl⟩⟩))
   go_ret
   exact ⟨by first | rfl | (simp;done) | (simp [*];done),by repeat (first | exact a0Y.refl _ | apply a0Y.step)⟩
  ·replace c5:=Bool.eq_false_iff.mpr c5
   subst c5
   have H1:(some (a0 == 95)) = some r:=by rw [if_neg (show ¬ (false = true) by decide)] at H;exact H
   clear H
   have H:=H1
   clear H1
   obtain rfl:=Option.some.inj H
   go_enter Try.func29,Try.ntmps29
   go_wp2_with (first | ((with_reducible refine a1F (f:=28) rfl ?_);refine a2M (some 4) rfl rfl Try.func28 (by kernel_rfl) rfl #[.int .u8 a0] rfl (by (try simp only [List.map_toArray,List.map_cons,List.map_nil]);first | done | rfl | (simp only [List.length_drop,List.length_take];rfl)) ?_;(with_reducible refine (r01_Letter.calls a0 false _ A2.out).mono ?_);rintro e w' ⟨rfl,⟨nd,rfl⟩⟩;refine ⟨_,rfl,?_⟩) | (go_at_call 30;(with_reducible refine (r01_Digit.calls a0 false _ A4.out).mono ?_);rintro e w' ⟨rfl,⟨nd,rfl⟩⟩))
   go_ret
   exact ⟨by first | rfl | (simp;done) | (simp [*];done),by repeat (first | exact a0Y.refl _ | apply a0Y.step)⟩
def r01_Sign.l0:Nat→Int→ByteArray→Int→Option (Bool)
 | 0,_,_,_ =>none
 | k + 1,x0,x3,x4 =>if x4 < (x3.size:Int) then (if 0≤x4 then (if (bt x3 x4) = x0 then (some true) else (r01_Sign.l0 k x0 x3 (wrap64 (x4 + 1)))) else (none)) else (some false)
def r01_Sign.f (k:Nat) (a0:Int):Option (Bool):=r01_Sign.l0 k a0 (⟨#[123,125,40,41,44,59,46,61,43,45,42,60,38,58]⟩:ByteArray) 0
set_option maxHeartbeats 8000000 in
set_option maxRecDepth 100000 in
theorem r01_Sign.calls (k:Nat) (a0:Int) (r:Bool) (w:World) (h:r01_Sign.f k a0 = some r) :
    Calls Try.prog 31 #[.int .u8 a0] w fun e w' =>e = .returned (.bool r)∧a0Y w w':=by
 have H:(r01_Sign.l0 k a0 (⟨#[123,125,40,41,44,59,46,61,43,45,42,60,38,58]⟩:ByteArray) 0) = some r:=h
 clear h
 have H':=a0G.mk H
 clear H
 go_enter Try.func31,Try.ntmps31
 go_wp2
 go_loopg [4] k (fun kq v4 w' =>∃ (aN:Int),v4 = .int .i64 aN∧a0G (r01_Sign.l0 kq a0 (⟨#[123,125,40,41,44,59,46,61,43,45,42,60,38,58]⟩:ByteArray) aN = some r)∧a0G (kq≤k)∧a0Y w w')
 case atStart =>exact ⟨(0),(by first | rfl | (simp;done) | (simp [*];done)),H',⟨Nat.le_refl _⟩,by repeat (first | exact a0Y.refl _ | apply a0Y.step)⟩
 case round =>
  clear H'
  obtain ⟨aN,rfl,HA,HK1,⟨m1,rfl⟩⟩:=hrel
  cases gk with
  | zero =>exact absurd HA.out (by simp [r01_Sign.l0])
  | succ k1 =>
   have H:=HA.out
   clear HA
   simp only [r01_Sign.l0] at H
   by_cases c2:aN < ((⟨#[123,125,40,41,44,59,46,61,43,45,42,60,38,58]⟩:ByteArray).size:Int)
   ·rw [if_pos c2] at H
    have c2b0:decide (aN < ((⟨#[123,125,40,41,44,59,46,61,43,45,42,60,38,58]⟩:ByteArray).size:Int)) = true:=decide_eq_true c2
    have c2b0x:decide (aN < (14:Int)) = true:=c2b0
    clear c2
    by_cases c3:0≤aN
    ·rw [if_pos c3] at H
     have c3b0:decide (0≤aN) = true:=decide_eq_true c3
     clear c3
     by_cases c5:(bt (⟨#[123,125,40,41,44,59,46,61,43,45,42,60,38,58]⟩:ByteArray) aN) = a0
     ·rw [if_pos c5] at H
      have c5b0:((bt (⟨#[123,125,40,41,44,59,46,61,43,45,42,60,38,58]⟩:ByteArray) aN) == a0) = true:=beq_iff_eq.mpr c5
      have c5b1:((bt (⟨#[123,125,40,41,44,59,46,61,43,45,42,60,38,58]⟩:ByteArray) aN) != a0) = false:=bne_eq_false_iff_eq.mpr c5
      clear c5
      obtain rfl:=Option.some.inj H
      have p4:0≤(aN:Int):=of_decide_eq_true (by first | (with_reducible assumption) | assumption)
      have q4:aN < (14:Int):=of_decide_eq_true (by first | (with_reducible assumption) | assumption)
      have hx4:=a3O (⟨#[123,125,40,41,44,59,46,61,43,45,42,60,38,58]⟩:ByteArray) aN
      replace p4:=eq_true p4
      replace q4:=eq_true q4
      go_wp2
      go_ret
      exact ⟨by first | rfl | (simp;done) | (simp [*];done),by repeat (first | exact a0Y.refl _ | apply a0Y.step)⟩
     ·rw [if_neg c5] at H
      have c5b0:((bt (⟨#[123,125,40,41,44,59,46,61,43,45,42,60,38,58]⟩:ByteArray) aN) == a0) = false:=beq_eq_false_iff_ne.mpr c5
      have c5b1:((bt (⟨#[123,125,40,41,44,59,46,61,43,45,42,60,38,58]⟩:ByteArray) aN) != a0) = true:=bne_iff_ne.mpr c5
      have H':=a0G.mk H
      clear H
      have p4:0≤(aN:Int):=of_decide_eq_true (by first | (with_reducible assumption) | assumption)
      have q4:aN < (14:Int):=of_decide_eq_true (by first | (with_reducible assumption) | assumption)
      have hx4:=a3O (⟨#[123,125,40,41,44,59,46,61,43,45,42,60,38,58]⟩:ByteArray) aN
      replace p4:=eq_true p4
      replace q4:=eq_true q4
      go_wp2
      go_roundg k1
      case measure =>have:=HK1.out;omega
      case rel =>exact ⟨(wrap64 (aN + 1)),(by first | rfl | (simp;done) | (simp [*];done)),H',⟨by have:=HK1.out;omega⟩,by repeat (first | exact a0Y.refl _ | apply a0Y.step)⟩
    ·rw [if_neg c3] at H
     exact absurd H (by simp)
   ·rw [if_neg c2] at H
    have c2b0:decide (aN < ((⟨#[123,125,40,41,44,59,46,61,43,45,42,60,38,58]⟩:ByteArray).size:Int)) = false:=decide_eq_false c2
    have c2b0x:decide (aN < (14:Int)) = false:=c2b0
    clear c2
    obtain rfl:=Option.some.inj H
    go_wp2
    go_ret
    exact ⟨by first | rfl | (simp;done) | (simp [*];done),by repeat (first | exact a0Y.refl _ | apply a0Y.step)⟩
mutual
def r01_Right.j0:Nat→Bool→Int→ByteArray→Int→Option (Bool)
 | 0,_,_,_,_ =>none
 | k + 1,x14,x105000,x105001,x105002 =>if x14 = true then (some false) else (r01_Right.l0 k 0 x105000 x105001 x105002)
def r01_Right.l0:Nat→Int→Int→ByteArray→Int→Option (Bool)
 | 0,_,_,_,_ =>none
 | k + 1,x3,x105000,x105001,x105002 =>if x3 < (x105001.size:Int) then (if 0≤x3 then (if x105000 = 0 then ((r01_Inner.f (bt x105001 x3)).bind fun t105 =>(if t105 = true then (if x105000 = 1 then ((r01_Digit.f (bt x105001 x3)).bind fun t106 =>(if t106 = true then (if x105000 = 2 then ((r01_Sign.f k (bt x105001 x3)).bind fun t107 =>(if t107 = true then (r01_Right.l0 k (wrap64 (x3 + 1)) x105000 x105001 x105002) else (some false))) else (r01_Right.l0 k (wrap64 (x3 + 1)) x105000 x105001 x105002)) else (some false))) else (if x105000 = 2 then ((r01_Sign.f k (bt x105001 x3)).bind fun t108 =>(if t108 = true then (r01_Right.l0 k (wrap64 (x3 + 1)) x105000 x105001 x105002) else (some false))) else (r01_Right.l0 k (wrap64 (x3 + 1)) x105000 x105001 x105002))) else (some false))) else (if x105000 = 1 then ((r01_Digit.f (bt x105001 x3)).bind fun t109 =>(if t109 = true then (if x105000 = 2 then ((r01_Sign.f k (bt x105001 x3)).bind fun t110 =>(if t110 = true then (r01_Right.l0 k (wrap64 (x3 + 1)) x105000 x105001 x105002) else (some false))) else (r01_Right.l0 k (wrap64 (x3 + 1)) x105000 x105001 x105002)) else (some false))) else (if x105000 = 2 then ((r01_Sign.f k (bt x105001 x3)).bind fun t111 =>(if t111 = true then (r01_Right.l0 k (wrap64 (x3 + 1)) x105000 x105001 x105002) else (some false))) else (r01_Right.l0 k (wrap64 (x3 + 1)) x105000 x105001 x105002)))) else (none)) else (if x105000 = 0 then (if 0 < (x105001.size:Int) then ((r01_Letter.f (bt x105001 0)).bind fun t112 =>(some t112)) else (none)) else (if x105000 = 1 then (some (decide ((x105001.size:Int)≤9))) else (if x105000 = 2 then (some ((x105001.size:Int) == 1)) else (some false))))
end
def r01_Right.f (k:Nat) (aM:Int) (aA:ByteArray) (aI:Int):Option (Bool):=if (aA.size:Int) < 1 then (r01_Right.j0 k true aM aA aI) else (r01_Right.j0 k (decide ((aA.size:Int) > 65536)) aM aA aI)
set_option maxHeartbeats 8000000 in
set_option maxRecDepth 100000 in
theorem r01_Right.calls (k:Nat) (aM:Int) (aA:ByteArray) (aI:Int) (r:Bool) (w:World) (h:r01_Right.f k aM aA aI = some r) :
    Calls Try.prog 76 #[.agg #[.int .i64 aM,.string aA,.int .i64 aI]] w fun e w' =>e = .returned (.bool r)∧Below w.heap.size w w':=by
 have hu72:=Try.underlying72
 have HB:=a0G.mk (Below.refl w.heap.size w)
 have H:(if (aA.size:Int) < 1 then (r01_Right.j0 k true aM aA aI) else (r01_Right.j0 k (decide ((aA.size:Int) > 65536)) aM aA aI)) = some r:=h
 clear h
 have HC2:=a0G.mk H
 clear H
 go_enter Try.func76,Try.ntmps76
 go_upto_region 1 with (first | ((with_reducible refine a0P (N:=1) rfl ?_);(try (refine a2C (by rfl) ?_;dsimp only));refine a0Q ?hg (N:=1) ?hd (cs:=#[.int .i64 aM,.string aA,.int .i64 aI]) (t:=72) ?hr ?_;(case hd =>rfl);(case hg =>rfl);(case hr =>first | (go_simp;done) | (go_simp;rfl));intro aQ hg w3 hbox hb;have bA:=a0G.mk (a0E (by repeat (first | (with_reducible first | exact HB.out | apply a0B | apply a0A | apply a0C) | exact HB.out)) hb);have bC:=a0G.mk (hbox);have bH:=a0G.mk ((by rw [hg];exact (a0U (by repeat (first | (with_reducible first | exact HB.out | apply a0B | apply a0A | apply a0C) | exact HB.out))):w.heap.size≤aQ));have bR:=a0G.mk ((by rw [hg];exact (a0U (by repeat (first | (with_reducible first | exact HB.out | apply a0B | apply a0A | apply a0C) | exact HB.out))):w.heap.size≤aQ));clear HB;have HB:=bA;have aE:=bC;have GW104:=bH;have bD:=bR;clear bA bC bH bR;clear hb hbox hg))
 (try simp only [Act.put,List.setIfInBounds_toArray,List.set_cons_zero,List.set_cons_succ])
 go_cut [14] (fun v14 wc =>∃ (kq:Nat) (cD:Bool),v14 = .bool cD∧a0G (r01_Right.j0 kq cD aM aA aI = some r)∧a0G (kq≤k)∧a0G (wc.heap[aQ]? = some (.cells #[.int .i64 aM,.string aA,.int .i64 aI] 72 (0,0)))∧a0G (Below w.heap.size w wc))
 case first =>
  have H:=HC2.out
  clear HC2
  by_cases c4:(aA.size:Int) < 1
  ·rw [if_pos c4] at H
   have c4b0:decide ((aA.size:Int) < 1) = true:=decide_eq_true c4
   have c4b1:decide (aA.size < 1) = true:=decide_eq_true (by omega)
   clear c4
   (first | rw [c4b0] | (simp only [b0A,b4Q];rw [c4b0]) | skip)
   have H':=a0G.mk H
   clear H
   have cO:w3.cell? ⟨aQ,0,none⟩ = some (.int .i64 aM):=(a0F aE.out 0).trans rfl
   have cQ:w3.cell? ⟨aQ,1,none⟩ = some (.string aA):=(a0F aE.out 1).trans rfl
   have cR:w3.cell? ⟨aQ,2,none⟩ = some (.int .i64 aI):=(a0F aE.out 2).trans rfl
   have cU:=a0D aE.out 0
   have cV:=a0D aE.out 1
   have cW:=a0D aE.out 2
   go_wp2
   go_meet
   case rel =>exact ⟨_,(true),(by first | rfl | (simp;done) | (simp [*];done)),H',⟨by first | omega | exact Nat.le_refl _⟩,⟨by (with_reducible repeat (first | refine a0Z ?_ _ | refine a1H ?_ | refine a0W ?_ _));exact aE.out⟩,⟨by repeat (first | (with_reducible first | exact HB.out | apply a0B | apply a0A | apply a0C | refine a0L ?_ bD.out) | exact HB.out)⟩⟩
  ·rw [if_neg c4] at H
   have c4b0:decide ((aA.size:Int) < 1) = false:=decide_eq_false c4
   have c4b1:decide (aA.size < 1) = false:=decide_eq_false (by omega)
   clear c4
   (first | rw [c4b0] | (simp only [b0A,b4Q];rw [c4b0]) | skip)
   have H':=a0G.mk H
   clear H
   have cX:w3.cell? ⟨aQ,0,none⟩ = some (.int .i64 aM):=(a0F aE.out 0).trans rfl
   have cY:w3.cell? ⟨aQ,1,none⟩ = some (.string aA):=(a0F aE.out 1).trans rfl
   have cZ:w3.cell? ⟨aQ,2,none⟩ = some (.int .i64 aI):=(a0F aE.out 2).trans rfl
   have dA:=a0D aE.out 0
   have dB:=a0D aE.out 1
   have dC:=a0D aE.out 2
   go_wp2
   go_meet
   case rel =>exact ⟨_,(decide ((aA.size:Int) > 65536)),(by first | rfl | (simp;done) | (simp [*];done)),H',⟨by first | omega | exact Nat.le_refl _⟩,⟨by (with_reducible repeat (first | refine a0Z ?_ _ | refine a1H ?_ | refine a0W ?_ _));exact aE.out⟩,⟨by repeat (first | (with_reducible first | exact HB.out | apply a0B | apply a0A | apply a0C | refine a0L ?_ bD.out) | exact HB.out)⟩⟩
 case rest =>
  clear HC2
  try clear p2
  try clear c4
  try clear c4b0
  try clear c4b1
  try clear cO
  try clear cQ
  try clear cR
  try clear cX
  try clear cY
  try clear cZ
  try clear cU
  try clear cV
  try clear cW
  try clear dA
  try clear dB
  try clear dC
  obtain ⟨kq,cD,rfl,HA,HJ1,aE,HB⟩:=hcut
  cases kq with
  | zero =>exact absurd HA.out (by simp [r01_Right.j0])
  | succ kj1 =>
   have H:=HA.out
   clear HA
   simp only [r01_Right.j0] at H
   by_cases c7:cD = true
   ·subst c7
    have H1:(some false) = some r:=by rw [if_pos rfl] at H;exact H
    clear H
    have H:=H1
    clear H1
    obtain rfl:=Option.some.inj H
    go_wp2
    go_ret
    exact ⟨by first | rfl | (simp [a0O,a0N] <;> rfl) | (simp [*,a0O,a0N] <;> rfl),by repeat (first | (with_reducible first | exact HB.out | apply a0B | apply a0A | apply a0C | refine a0L ?_ bD.out) | exact HB.out)⟩
   ·replace c7:=Bool.eq_false_iff.mpr c7
    subst c7
    have H1:(r01_Right.l0 kj1 0 aM aA aI) = some r:=by rw [if_neg (show ¬ (false = true) by decide)] at H;exact H
    clear H
    have H:=H1
    clear H1
    have H':=a0G.mk H
    clear H
    go_wp2
    go_loopg [3] kj1 (fun kq v3 w' =>∃ (aK:Int),v3 = .int .i64 aK∧a0G (r01_Right.l0 kq aK aM aA aI = some r)∧a0G (kq≤kj1)∧a0G (w'.heap[aQ]? = some (.cells #[.int .i64 aM,.string aA,.int .i64 aI] 72 (0,0)))∧a0G (Below w.heap.size w w'))
    case atStart =>exact ⟨(0),(by first | rfl | (simp;done) | (simp [*];done)),H',⟨Nat.le_refl _⟩,⟨by (with_reducible repeat (first | refine a0Z ?_ _ | refine a1H ?_ | refine a0W ?_ _));exact aE.out⟩,⟨by repeat (first | (with_reducible first | exact HB.out | apply a0B | apply a0A | apply a0C | refine a0L ?_ bD.out) | exact HB.out)⟩⟩
    case round =>
     clear H'
     try clear p2
     try clear c4
     try clear c4b0
     try clear c4b1
     try clear c7
     try clear cO
     try clear cQ
     try clear cR
     try clear cX
     try clear cY
     try clear cZ
     try clear cU
     try clear cV
     try clear cW
     try clear dA
     try clear dB
     try clear dC
     try clear p2
     obtain ⟨aK,rfl,HA,HK2,aE,HB⟩:=hrel
     cases gk with
     | zero =>exact absurd HA.out (by simp [r01_Right.l0])
     | succ k2 =>
      have H:=HA.out
      clear HA
      simp only [r01_Right.l0] at H
      by_cases c8:aK < (aA.size:Int)
      ·rw [if_pos c8] at H
       have c8b0:decide (aK < (aA.size:Int)) = true:=decide_eq_true c8
       clear c8
       by_cases c9:0≤aK
       ·rw [if_pos c9] at H
        have c9b0:decide (0≤aK) = true:=decide_eq_true c9
        clear c9
        by_cases c11:aM = 0
        ·rw [if_pos c11] at H
         have c11b0:(aM == 0) = true:=beq_iff_eq.mpr c11
         have c11b1:(aM != 0) = false:=bne_eq_false_iff_eq.mpr c11
         clear c11
         replace H:=Option.bind_eq_some_iff.mp H
         obtain ⟨t105,A120,H⟩:=H
         replace H:(if t105 = true then (if aM = 1 then ((r01_Digit.f (bt aA aK)).bind fun t106 =>(if t106 = true then (if aM = 2 then ((r01_Sign.f k2 (bt aA aK)).bind fun t107 =>(if t107 = true then (r01_Right.l0 k2 (wrap64 (aK + 1)) aM aA aI) else (some false))) else (r01_Right.l0 k2 (wrap64 (aK + 1)) aM aA aI)) else (some false))) else (if aM = 2 then ((r01_Sign.f k2 (bt aA aK)).bind fun t108 =>(if t108 = true then (r01_Right.l0 k2 (wrap64 (aK + 1)) aM aA aI) else (some false))) else (r01_Right.l0 k2 (wrap64 (aK + 1)) aM aA aI))) else (some false)) = some r:=H
         have A12:=a0G.mk A120
         clear A120
         by_cases c13:t105 = true
         ·subst c13
          have H1:(if aM = 1 then ((r01_Digit.f (bt aA aK)).bind fun t106 =>(if t106 = true then (if aM = 2 then ((r01_Sign.f k2 (bt aA aK)).bind fun t107 =>(if t107 = true then (r01_Right.l0 k2 (wrap64 (aK + 1)) aM aA aI) else (some false))) else (r01_Right.l0 k2 (wrap64 (aK + 1)) aM aA aI)) else (some false))) else (if aM = 2 then ((r01_Sign.f k2 (bt aA aK)).bind fun t108 =>(if t108 = true then (r01_Right.l0 k2 (wrap64 (aK + 1)) aM aA aI) else (some false))) else (r01_Right.l0 k2 (wrap64 (aK + 1)) aM aA aI))) = some r:=by rw [if_pos rfl] at H;exact H
          clear H
          have H:=H1
          clear H1
          by_cases c14:aM = 1
          ·rw [if_pos c14] at H
           have c14b0:(aM == 1) = true:=beq_iff_eq.mpr c14
           have c14b1:(aM != 1) = false:=bne_eq_false_iff_eq.mpr c14
           clear c14
           replace H:=Option.bind_eq_some_iff.mp H
           obtain ⟨t106,A150,H⟩:=H
           replace H:(if t106 = true then (if aM = 2 then ((r01_Sign.f k2 (bt aA aK)).bind fun t107 =>(if t107 = true then (r01_Right.l0 k2 (wrap64 (aK + 1)) aM aA aI) else (some false))) else (r01_Right.l0 k2 (wrap64 (aK + 1)) aM aA aI)) else (some false)) = some r:=H
           have A15:=a0G.mk A150
           clear A150
           by_cases c16:t106 = true
           ·subst c16
            have H1:(if aM = 2 then ((r01_Sign.f k2 (bt aA aK)).bind fun t107 =>(if t107 = true then (r01_Right.l0 k2 (wrap64 (aK + 1)) aM aA aI) else (some false))) else (r01_Right.l0 k2 (wrap64 (aK + 1)) aM aA aI)) = some r:=by rw [if_pos rfl] at H;exact H
            clear H
            have H:=H1
            clear H1
            by_cases c17:aM = 2
            ·rw [if_pos c17] at H
             have c17b0:(aM == 2) = true:=beq_iff_eq.mpr c17
             have c17b1:(aM != 2) = false:=bne_eq_false_iff_eq.mpr c17
             clear c17
             replace H:=Option.bind_eq_some_iff.mp H
             obtain ⟨t107,A180,H⟩:=H
             replace H:(if t107 = true then (r01_Right.l0 k2 (wrap64 (aK + 1)) aM aA aI) else (some false)) = some r:=H
             have A18:=a0G.mk A180
             clear A180
             by_cases c19:t107 = true
             ·subst c19
              have H1:(r01_Right.l0 k2 (wrap64 (aK + 1)) aM aA aI) = some r:=by rw [if_pos rfl] at H;exact H
              clear H
              have H:=H1
              clear H1
              have H':=a0G.mk H
              clear H
              have dE:wr.cell? ⟨aQ,0,none⟩ = some (.int .i64 aM):=(a0F aE.out 0).trans rfl
              have dF:wr.cell? ⟨aQ,1,none⟩ = some (.string aA):=(a0F aE.out 1).trans rfl
              have dG:wr.cell? ⟨aQ,2,none⟩ = some (.int .i64 aI):=(a0F aE.out 2).trans rfl
              have dH:=a0D aE.out 0
              have dI:=a0D aE.out 1
              have dJ:=a0D aE.out 2
              have p10:0≤(aK:Int):=of_decide_eq_true (by first | (with_reducible assumption) | assumption)
              have q10:aK < (aA.size:Int):=of_decide_eq_true (by first | (with_reducible assumption) | assumption)
              have hx10:=a3O aA aK
              replace p10:=eq_true p10
              replace q10:=eq_true q10
              go_wp2_with (first | (go_at_call 29;(with_reducible refine (r01_Inner.calls (bt aA aK) true _ A12.out).mono ?_);rintro e w' ⟨rfl,⟨nd,rfl⟩⟩) | (go_at_call 30;(with_reducible refine (r01_Digit.calls (bt aA aK) true _ A15.out).mono ?_);rintro e w' ⟨rfl,⟨nd,rfl⟩⟩) | (go_at_call 31;(with_reducible refine (r01_Sign.calls k2 (bt aA aK) true _ A18.out).mono ?_);rintro e w' ⟨rfl,⟨nd,rfl⟩⟩))
              go_roundg k2
              case measure =>have:=HJ1.out;have:=HK2.out;omega
              case rel =>exact ⟨(wrap64 (aK + 1)),(by first | rfl | (simp;done) | (simp [*];done)),H',⟨by have:=HJ1.out;have:=HK2.out;omega⟩,⟨by (with_reducible repeat (first | refine a0Z ?_ _ | refine a1H ?_ | refine a0W ?_ _));exact aE.out⟩,⟨by repeat (first | (with_reducible first | exact HB.out | apply a0B | apply a0A | apply a0C | refine a0L ?_ bD.out) | exact HB.out)⟩⟩
             ·replace c19:=Bool.eq_false_iff.mpr c19
              subst c19
              have H1:(some false) = some r:=by rw [if_neg (show ¬ (false = true) by decide)] at H;exact H
              clear H
              have H:=H1
              clear H1
              obtain rfl:=Option.some.inj H
              have dK:wr.cell? ⟨aQ,0,none⟩ = some (.int .i64 aM):=(a0F aE.out 0).trans rfl
              have dL:wr.cell? ⟨aQ,1,none⟩ = some (.string aA):=(a0F aE.out 1).trans rfl
              have dM:wr.cell? ⟨aQ,2,none⟩ = some (.int .i64 aI):=(a0F aE.out 2).trans rfl
              have dN:=a0D aE.out 0
              have dO:=a0D aE.out 1
              have dP:=a0D aE.out 2
              have p10:0≤(aK:Int):=of_decide_eq_true (by first | (with_reducible assumption) | assumption)
              have q10:aK < (aA.size:Int):=of_decide_eq_true (by first | (with_reducible assumption) | assumption)
              have hx10:=a3O aA aK
              replace p10:=eq_true p10
              replace q10:=eq_true q10
              go_wp2_with (first | (go_at_call 29;(with_reducible refine (r01_Inner.calls (bt aA aK) true _ A12.out).mono ?_);rintro e w' ⟨rfl,⟨nd,rfl⟩⟩) | (go_at_call 30;(with_reducible refine (r01_Digit.calls (bt aA aK) true _ A15.out).mono ?_);rintro e w' ⟨rfl,⟨nd,rfl⟩⟩) | (go_at_call 31;(with_reducible refine (r01_Sign.calls k2 (bt aA aK) false _ A18.out).mono ?_);rintro e w' ⟨rfl,⟨nd,rfl⟩⟩))
              go_ret
              exact ⟨by first | rfl | (simp [a0O,a0N] <;> rfl) | (simp [*,a0O,a0N] <;> rfl),by repeat (first | (with_reducible first | exact HB.out | apply a0B | apply a0A | apply a0C | refine a0L ?_ bD.out) | exact HB.out)⟩
            ·rw [if_neg c17] at H
             have c17b0:(aM == 2) = false:=beq_eq_false_iff_ne.mpr c17
             have c17b1:(aM != 2) = true:=bne_iff_ne.mpr c17
             have H':=a0G.mk H
             clear H
             have dQ:wr.cell? ⟨aQ,0,none⟩ = some (.int .i64 aM):=(a0F aE.out 0).trans rfl
             have dR:wr.cell? ⟨aQ,1,none⟩ = some (.string aA):=(a0F aE.out 1).trans rfl
             have dS:wr.cell? ⟨aQ,2,none⟩ = some (.int .i64 aI):=(a0F aE.out 2).trans rfl
             have dT:=a0D aE.out 0
             have dU:=a0D aE.out 1
             have dV:=a0D aE.out 2
             have p10:0≤(aK:Int):=of_decide_eq_true (by first | (with_reducible assumption) | assumption)
             have q10:aK < (aA.size:Int):=of_decide_eq_true (by first | (with_reducible assumption) | assumption)
             have hx10:=a3O aA aK
             replace p10:=eq_true p10
             replace q10:=eq_true q10
             go_wp2_with (first | (go_at_call 29;(with_reducible refine (r01_Inner.calls (bt aA aK) true _ A12.out).mono ?_);rintro e w' ⟨rfl,⟨nd,rfl⟩⟩) | (go_at_call 30;(with_reducible refine (r01_Digit.calls (bt aA aK) true _ A15.out).mono ?_);rintro e w' ⟨rfl,⟨nd,rfl⟩⟩))
             go_roundg k2
             case measure =>have:=HJ1.out;have:=HK2.out;omega
             case rel =>exact ⟨(wrap64 (aK + 1)),(by first | rfl | (simp;done) | (simp [*];done)),H',⟨by have:=HJ1.out;have:=HK2.out;omega⟩,⟨by (with_reducible repeat (first | refine a0Z ?_ _ | refine a1H ?_ | refine a0W ?_ _));exact aE.out⟩,⟨by repeat (first | (with_reducible first | exact HB.out | apply a0B | apply a0A | apply a0C | refine a0L ?_ bD.out) | exact HB.out)⟩⟩
           ·replace c16:=Bool.eq_false_iff.mpr c16
            subst c16
            have H1:(some false) = some r:=by rw [if_neg (show ¬ (false = true) by decide)] at H;exact H
            clear H
            have H:=H1
            clear H1
            obtain rfl:=Option.some.inj H
            have dW:wr.cell? ⟨aQ,0,none⟩ = some (.int .i64 aM):=(a0F aE.out 0).trans rfl
            have dX:wr.cell? ⟨aQ,1,none⟩ = some (.string aA):=(a0F aE.out 1).trans rfl
            have dY:wr.cell? ⟨aQ,2,none⟩ = some (.int .i64 aI):=(a0F aE.out 2).trans rfl
            have dZ:=a0D aE.out 0
            have eB:=a0D aE.out 1
            have eC:=a0D aE.out 2
            have p10:0≤(aK:Int):=of_decide_eq_true (by first | (with_reducible assumption) | assumption)
            have q10:aK < (aA.size:Int):=of_decide_eq_true (by first | (with_reducible assumption) | assumption)
            have hx10:=a3O aA aK
            replace p10:=eq_true p10
            replace q10:=eq_true q10
            go_wp2_with (first | (go_at_call 29;(with_reducible refine (r01_Inner.calls (bt aA aK) true _ A12.out).mono ?_);rintro e w' ⟨rfl,⟨nd,rfl⟩⟩) | (go_at_call 30;(with_reducible refine (r01_Digit.calls (bt aA aK) false _ A15.out).mono ?_);rintro e w' ⟨rfl,⟨nd,rfl⟩⟩))
            go_ret
            exact ⟨by first | rfl | (simp [a0O,a0N] <;> rfl) | (simp [*,a0O,a0N] <;> rfl),by repeat (first | (with_reducible first | exact HB.out | apply a0B | apply a0A | apply a0C | refine a0L ?_ bD.out) | exact HB.out)⟩
          ·rw [if_neg c14] at H
           have c14b0:(aM == 1) = false:=beq_eq_false_iff_ne.mpr c14
           have c14b1:(aM != 1) = true:=bne_iff_ne.mpr c14
           by_cases c24:aM = 2
           ·rw [if_pos c24] at H
            have c24b0:(aM == 2) = true:=beq_iff_eq.mpr c24
            have c24b1:(aM != 2) = false:=bne_eq_false_iff_eq.mpr c24
            clear c24
            replace H:=Option.bind_eq_some_iff.mp H
            obtain ⟨t108,A250,H⟩:=H
            replace H:(if t108 = true then (r01_Right.l0 k2 (wrap64 (aK + 1)) aM aA aI) else (some false)) = some r:=H
            have A25:=a0G.mk A250
            clear A250
            by_cases c26:t108 = true
            ·subst c26
             have H1:(r01_Right.l0 k2 (wrap64 (aK + 1)) aM aA aI) = some r:=by rw [if_pos rfl] at H;exact H
             clear H
             have H:=H1
             clear H1
             have H':=a0G.mk H
             clear H
             have fS:wr.cell? ⟨aQ,0,none⟩ = some (.int .i64 aM):=(a0F aE.out 0).trans rfl
             have fT:wr.cell? ⟨aQ,1,none⟩ = some (.string aA):=(a0F aE.out 1).trans rfl
             have fU:wr.cell? ⟨aQ,2,none⟩ = some (.int .i64 aI):=(a0F aE.out 2).trans rfl
             have fV:=a0D aE.out 0
             have fW:=a0D aE.out 1
             have fX:=a0D aE.out 2
             have p10:0≤(aK:Int):=of_decide_eq_true (by first | (with_reducible assumption) | assumption)
             have q10:aK < (aA.size:Int):=of_decide_eq_true (by first | (with_reducible assumption) | assumption)
             have hx10:=a3O aA aK
             replace p10:=eq_true p10
             replace q10:=eq_true q10
             go_wp2_with (first | (go_at_call 29;(with_reducible refine (r01_Inner.calls (bt aA aK) true _ A12.out).mono ?_);rintro e w' ⟨rfl,⟨nd,rfl⟩⟩) | (go_at_call 31;(with_reducible refine (r01_Sign.calls k2 (bt aA aK) true _ A25.out).mono ?_);rintro e w' ⟨rfl,⟨nd,rfl⟩⟩))
             go_roundg k2
             case measure =>have:=HJ1.out;have:=HK2.out;omega
             case rel =>exact ⟨(wrap64 (aK + 1)),(by first | rfl | (simp;done) | (simp [*];done)),H',⟨by have:=HJ1.out;have:=HK2.out;omega⟩,⟨by (with_reducible repeat (first | refine a0Z ?_ _ | refine a1H ?_ | refine a0W ?_ _));exact aE.out⟩,⟨by repeat (first | (with_reducible first | exact HB.out | apply a0B | apply a0A | apply a0C | refine a0L ?_ bD.out) | exact HB.out)⟩⟩
            ·replace c26:=Bool.eq_false_iff.mpr c26
             subst c26
             have H1:(some false) = some r:=by rw [if_neg (show ¬ (false = true) by decide)] at H;exact H
             clear H
             have H:=H1
             clear H1
             obtain rfl:=Option.some.inj H
             have eD:wr.cell? ⟨aQ,0,none⟩ = some (.int .i64 aM):=(a0F aE.out 0).trans rfl
             have eE:wr.cell? ⟨aQ,1,none⟩ = some (.string aA):=(a0F aE.out 1).trans rfl
             have eG:wr.cell? ⟨aQ,2,none⟩ = some (.int .i64 aI):=(a0F aE.out 2).trans rfl
             have eH:=a0D aE.out 0
             have eI:=a0D aE.out 1
             have eJ:=a0D aE.out 2
             have p10:0≤(aK:Int):=of_decide_eq_true (by first | (with_reducible assumption) | assumption)
             have q10:aK < (aA.size:Int):=of_decide_eq_true (by first | (with_reducible assumption) | assumption)
             have hx10:=a3O aA aK
             replace p10:=eq_true p10
             replace q10:=eq_true q10
             go_wp2_with (first | (go_at_call 29;(with_reducible refine (r01_Inner.calls (bt aA aK) true _ A12.out).mono ?_);rintro e w' ⟨rfl,⟨nd,rfl⟩⟩) | (go_at_call 31;(with_reducible refine (r01_Sign.calls k2 (bt aA aK) false _ A25.out).mono ?_);rintro e w' ⟨rfl,⟨nd,rfl⟩⟩))
             go_ret
             exact ⟨by first | rfl | (simp [a0O,a0N] <;> rfl) | (simp [*,a0O,a0N] <;> rfl),by repeat (first | (with_reducible first | exact HB.out | apply a0B | apply a0A | apply a0C | refine a0L ?_ bD.out) | exact HB.out)⟩
           ·rw [if_neg c24] at H
            have c24b0:(aM == 2) = false:=beq_eq_false_iff_ne.mpr c24
            have c24b1:(aM != 2) = true:=bne_iff_ne.mpr c24
            have H':=a0G.mk H
            clear H
            have fY:wr.cell? ⟨aQ,0,none⟩ = some (.int .i64 aM):=(a0F aE.out 0).trans rfl
            have fZ:wr.cell? ⟨aQ,1,none⟩ = some (.string aA):=(a0F aE.out 1).trans rfl
            have gA:wr.cell? ⟨aQ,2,none⟩ = some (.int .i64 aI):=(a0F aE.out 2).trans rfl
            have gB:=a0D aE.out 0
            have gC:=a0D aE.out 1
            have gD:=a0D aE.out 2
            have p10:0≤(aK:Int):=of_decide_eq_true (by first | (with_reducible assumption) | assumption)
            have q10:aK < (aA.size:Int):=of_decide_eq_true (by first | (with_reducible assumption) | assumption)
            have hx10:=a3O aA aK
            replace p10:=eq_true p10
            replace q10:=eq_true q10
            go_wp2_with (first | (go_at_call 29;(with_reducible refine (r01_Inner.calls (bt aA aK) true _ A12.out).mono ?_);rintro e w' ⟨rfl,⟨nd,rfl⟩⟩))
            go_roundg k2
            case measure =>have:=HJ1.out;have:=HK2.out;omega
            case rel =>exact ⟨(wrap64 (aK + 1)),(by first | rfl | (simp;done) | (simp [*];done)),H',⟨by have:=HJ1.out;have:=HK2.out;omega⟩,⟨by (with_reducible repeat (first | refine a0Z ?_ _ | refine a1H ?_ | refine a0W ?_ _));exact aE.out⟩,⟨by repeat (first | (with_reducible first | exact HB.out | apply a0B | apply a0A | apply a0C | refine a0L ?_ bD.out) | exact HB.out)⟩⟩
         ·replace c13:=Bool.eq_false_iff.mpr c13
          subst c13
          have H1:(some false) = some r:=by rw [if_neg (show ¬ (false = true) by decide)] at H;exact H
          clear H
          have H:=H1
          clear H1
          obtain rfl:=Option.some.inj H
          have eK:wr.cell? ⟨aQ,0,none⟩ = some (.int .i64 aM):=(a0F aE.out 0).trans rfl
          have eL:wr.cell? ⟨aQ,1,none⟩ = some (.string aA):=(a0F aE.out 1).trans rfl
          have eM:wr.cell? ⟨aQ,2,none⟩ = some (.int .i64 aI):=(a0F aE.out 2).trans rfl
          have eN:=a0D aE.out 0
          have eO:=a0D aE.out 1
          have eP:=a0D aE.out 2
          have p10:0≤(aK:Int):=of_decide_eq_true (by first | (with_reducible assumption) | assumption)
          have q10:aK < (aA.size:Int):=of_decide_eq_true (by first | (with_reducible assumption) | assumption)
          have hx10:=a3O aA aK
          replace p10:=eq_true p10
          replace q10:=eq_true q10
          go_wp2_with (first | (go_at_call 29;(with_reducible refine (r01_Inner.calls (bt aA aK) false _ A12.out).mono ?_);rintro e w' ⟨rfl,⟨nd,rfl⟩⟩))
          go_ret
          exact ⟨by first | rfl | (simp [a0O,a0N] <;> rfl) | (simp [*,a0O,a0N] <;> rfl),by repeat (first | (with_reducible first | exact HB.out | apply a0B | apply a0A | apply a0C | refine a0L ?_ bD.out) | exact HB.out)⟩
        ·rw [if_neg c11] at H
         have c11b0:(aM == 0) = false:=beq_eq_false_iff_ne.mpr c11
         have c11b1:(aM != 0) = true:=bne_iff_ne.mpr c11
         by_cases c31:aM = 1
         ·rw [if_pos c31] at H
          have c31b0:(aM == 1) = true:=beq_iff_eq.mpr c31
          have c31b1:(aM != 1) = false:=bne_eq_false_iff_eq.mpr c31
          clear c31
          replace H:=Option.bind_eq_some_iff.mp H
          obtain ⟨t109,A320,H⟩:=H
          replace H:(if t109 = true then (if aM = 2 then ((r01_Sign.f k2 (bt aA aK)).bind fun t110 =>(if t110 = true then (r01_Right.l0 k2 (wrap64 (aK + 1)) aM aA aI) else (some false))) else (r01_Right.l0 k2 (wrap64 (aK + 1)) aM aA aI)) else (some false)) = some r:=H
          have A32:=a0G.mk A320
          clear A320
          by_cases c33:t109 = true
          ·subst c33
           have H1:(if aM = 2 then ((r01_Sign.f k2 (bt aA aK)).bind fun t110 =>(if t110 = true then (r01_Right.l0 k2 (wrap64 (aK + 1)) aM aA aI) else (some false))) else (r01_Right.l0 k2 (wrap64 (aK + 1)) aM aA aI)) = some r:=by rw [if_pos rfl] at H;exact H
           clear H
           have H:=H1
           clear H1
           by_cases c34:aM = 2
           ·rw [if_pos c34] at H
            have c34b0:(aM == 2) = true:=beq_iff_eq.mpr c34
            have c34b1:(aM != 2) = false:=bne_eq_false_iff_eq.mpr c34
            clear c34
            replace H:=Option.bind_eq_some_iff.mp H
            obtain ⟨t110,A350,H⟩:=H
            replace H:(if t110 = true then (r01_Right.l0 k2 (wrap64 (aK + 1)) aM aA aI) else (some false)) = some r:=H
            have A35:=a0G.mk A350
            clear A350
            by_cases c36:t110 = true
            ·subst c36
             have H1:(r01_Right.l0 k2 (wrap64 (aK + 1)) aM aA aI) = some r:=by rw [if_pos rfl] at H;exact H
             clear H
             have H:=H1
             clear H1
             have H':=a0G.mk H
             clear H
             have gE:wr.cell? ⟨aQ,0,none⟩ = some (.int .i64 aM):=(a0F aE.out 0).trans rfl
             have gG:wr.cell? ⟨aQ,1,none⟩ = some (.string aA):=(a0F aE.out 1).trans rfl
             have gH:wr.cell? ⟨aQ,2,none⟩ = some (.int .i64 aI):=(a0F aE.out 2).trans rfl
             have gI:=a0D aE.out 0
             have gJ:=a0D aE.out 1
             have gK:=a0D aE.out 2
             have p10:0≤(aK:Int):=of_decide_eq_true (by first | (with_reducible assumption) | assumption)
             have q10:aK < (aA.size:Int):=of_decide_eq_true (by first | (with_reducible assumption) | assumption)
             have hx10:=a3O aA aK
             replace p10:=eq_true p10
             replace q10:=eq_true q10
             go_wp2_with (first | (go_at_call 30;(with_reducible refine (r01_Digit.calls (bt aA aK) true _ A32.out).mono ?_);rintro e w' ⟨rfl,⟨nd,rfl⟩⟩) | (go_at_call 31;(with_reducible refine (r01_Sign.calls k2 (bt aA aK) true _ A35.out).mono ?_);rintro e w' ⟨rfl,⟨nd,rfl⟩⟩))
             go_roundg k2
             case measure =>have:=HJ1.out;have:=HK2.out;omega
             case rel =>exact ⟨(wrap64 (aK + 1)),(by first | rfl | (simp;done) | (simp [*];done)),H',⟨by have:=HJ1.out;have:=HK2.out;omega⟩,⟨by (with_reducible repeat (first | refine a0Z ?_ _ | refine a1H ?_ | refine a0W ?_ _));exact aE.out⟩,⟨by repeat (first | (with_reducible first | exact HB.out | apply a0B | apply a0A | apply a0C | refine a0L ?_ bD.out) | exact HB.out)⟩⟩
            ·replace c36:=Bool.eq_false_iff.mpr c36
             subst c36
             have H1:(some false) = some r:=by rw [if_neg (show ¬ (false = true) by decide)] at H;exact H
             clear H
             have H:=H1
             clear H1
             obtain rfl:=Option.some.inj H
             have gL:wr.cell? ⟨aQ,0,none⟩ = some (.int .i64 aM):=(a0F aE.out 0).trans rfl
             have gM:wr.cell? ⟨aQ,1,none⟩ = some (.string aA):=(a0F aE.out 1).trans rfl
             have gN:wr.cell? ⟨aQ,2,none⟩ = some (.int .i64 aI):=(a0F aE.out 2).trans rfl
             have gO:=a0D aE.out 0
             have gP:=a0D aE.out 1
             have gQ:=a0D aE.out 2
             have p10:0≤(aK:Int):=of_decide_eq_true (by first | (with_reducible assumption) | assumption)
             have q10:aK < (aA.size:Int):=of_decide_eq_true (by first | (with_reducible assumption) | assumption)
             have hx10:=a3O aA aK
             replace p10:=eq_true p10
             replace q10:=eq_true q10
             go_wp2_with (first | (go_at_call 30;(with_reducible refine (r01_Digit.calls (bt aA aK) true _ A32.out).mono ?_);rintro e w' ⟨rfl,⟨nd,rfl⟩⟩) | (go_at_call 31;(with_reducible refine (r01_Sign.calls k2 (bt aA aK) false _ A35.out).mono ?_);rintro e w' ⟨rfl,⟨nd,rfl⟩⟩))
             go_ret
             exact ⟨by first | rfl | (simp [a0O,a0N] <;> rfl) | (simp [*,a0O,a0N] <;> rfl),by repeat (first | (with_reducible first | exact HB.out | apply a0B | apply a0A | apply a0C | refine a0L ?_ bD.out) | exact HB.out)⟩
           ·rw [if_neg c34] at H
            have c34b0:(aM == 2) = false:=beq_eq_false_iff_ne.mpr c34
            have c34b1:(aM != 2) = true:=bne_iff_ne.mpr c34
            have H':=a0G.mk H
            clear H
            have gR:wr.cell? ⟨aQ,0,none⟩ = some (.int .i64 aM):=(a0F aE.out 0).trans rfl
            have gS:wr.cell? ⟨aQ,1,none⟩ = some (.string aA):=(a0F aE.out 1).trans rfl
            have gT:wr.cell? ⟨aQ,2,none⟩ = some (.int .i64 aI):=(a0F aE.out 2).trans rfl
            have gU:=a0D aE.out 0
            have gV:=a0D aE.out 1
            have gW:=a0D aE.out 2
            have p10:0≤(aK:Int):=of_decide_eq_true (by first | (with_reducible assumption) | assumption)
            have q10:aK < (aA.size:Int):=of_decide_eq_true (by first | (with_reducible assumption) | assumption)
            have hx10:=a3O aA aK
            replace p10:=eq_true p10
            replace q10:=eq_true q10
            go_wp2_with (first | (go_at_call 30;(with_reducible refine (r01_Digit.calls (bt aA aK) true _ A32.out).mono ?_);rintro e w' ⟨rfl,⟨nd,rfl⟩⟩))
            go_roundg k2
            case measure =>have:=HJ1.out;have:=HK2.out;omega
            case rel =>exact ⟨(wrap64 (aK + 1)),(by first | rfl | (simp;done) | (simp [*];done)),H',⟨by have:=HJ1.out;have:=HK2.out;omega⟩,⟨by (with_reducible repeat (first | refine a0Z ?_ _ | refine a1H ?_ | refine a0W ?_ _));exact aE.out⟩,⟨by repeat (first | (with_reducible first | exact HB.out | apply a0B | apply a0A | apply a0C | refine a0L ?_ bD.out) | exact HB.out)⟩⟩
          ·replace c33:=Bool.eq_false_iff.mpr c33
           subst c33
           have H1:(some false) = some r:=by rw [if_neg (show ¬ (false = true) by decide)] at H;exact H
           clear H
           have H:=H1
           clear H1
           obtain rfl:=Option.some.inj H
           have gX:wr.cell? ⟨aQ,0,none⟩ = some (.int .i64 aM):=(a0F aE.out 0).trans rfl
           have gY:wr.cell? ⟨aQ,1,none⟩ = some (.string aA):=(a0F aE.out 1).trans rfl
           have gZ:wr.cell? ⟨aQ,2,none⟩ = some (.int .i64 aI):=(a0F aE.out 2).trans rfl
           have iA:=a0D aE.out 0
           have iB:=a0D aE.out 1
           have iC:=a0D aE.out 2
           have p10:0≤(aK:Int):=of_decide_eq_true (by first | (with_reducible assumption) | assumption)
           have q10:aK < (aA.size:Int):=of_decide_eq_true (by first | (with_reducible assumption) | assumption)
           have hx10:=a3O aA aK
           replace p10:=eq_true p10
           replace q10:=eq_true q10
           go_wp2_with (first | (go_at_call 30;(with_reducible refine (r01_Digit.calls (bt aA aK) false _ A32.out).mono ?_);rintro e w' ⟨rfl,⟨nd,rfl⟩⟩))
           go_ret
           exact ⟨by first | rfl | (simp [a0O,a0N] <;> rfl) | (simp [*,a0O,a0N] <;> rfl),by repeat (first | (with_reducible first | exact HB.out | apply a0B | apply a0A | apply a0C | refine a0L ?_ bD.out) | exact HB.out)⟩
         ·rw [if_neg c31] at H
          have c31b0:(aM == 1) = false:=beq_eq_false_iff_ne.mpr c31
          have c31b1:(aM != 1) = true:=bne_iff_ne.mpr c31
          by_cases c41:aM = 2
          ·rw [if_pos c41] at H
           have c41b0:(aM == 2) = true:=beq_iff_eq.mpr c41
           have c41b1:(aM != 2) = false:=bne_eq_false_iff_eq.mpr c41
           clear c41
           replace H:=Option.bind_eq_some_iff.mp H
           obtain ⟨t111,A420,H⟩:=H
           replace H:(if t111 = true then (r01_Right.l0 k2 (wrap64 (aK + 1)) aM aA aI) else (some false)) = some r:=H
           have A42:=a0G.mk A420
           clear A420
           by_cases c43:t111 = true
           ·subst c43
            have H1:(r01_Right.l0 k2 (wrap64 (aK + 1)) aM aA aI) = some r:=by rw [if_pos rfl] at H;exact H
            clear H
            have H:=H1
            clear H1
            have H':=a0G.mk H
            clear H
            have iD:wr.cell? ⟨aQ,0,none⟩ = some (.int .i64 aM):=(a0F aE.out 0).trans rfl
            have iE:wr.cell? ⟨aQ,1,none⟩ = some (.string aA):=(a0F aE.out 1).trans rfl
            have iF:wr.cell? ⟨aQ,2,none⟩ = some (.int .i64 aI):=(a0F aE.out 2).trans rfl
            have iG:=a0D aE.out 0
            have iH:=a0D aE.out 1
            have iI:=a0D aE.out 2
            have p10:0≤(aK:Int):=of_decide_eq_true (by first | (with_reducible assumption) | assumption)
            have q10:aK < (aA.size:Int):=of_decide_eq_true (by first | (with_reducible assumption) | assumption)
            have hx10:=a3O aA aK
            replace p10:=eq_true p10
            replace q10:=eq_true q10
            go_wp2_with (first | (go_at_call 31;(with_reducible refine (r01_Sign.calls k2 (bt aA aK) true _ A42.out).mono ?_);rintro e w' ⟨rfl,⟨nd,rfl⟩⟩))
            go_roundg k2
            case measure =>have:=HJ1.out;have:=HK2.out;omega
            case rel =>exact ⟨(wrap64 (aK + 1)),(by first | rfl | (simp;done) | (simp [*];done)),H',⟨by have:=HJ1.out;have:=HK2.out;omega⟩,⟨by (with_reducible repeat (first | refine a0Z ?_ _ | refine a1H ?_ | refine a0W ?_ _));exact aE.out⟩,⟨by repeat (first | (with_reducible first | exact HB.out | apply a0B | apply a0A | apply a0C | refine a0L ?_ bD.out) | exact HB.out)⟩⟩
           ·replace c43:=Bool.eq_false_iff.mpr c43
            subst c43
            have H1:(some false) = some r:=by rw [if_neg (show ¬ (false = true) by decide)] at H;exact H
            clear H
            have H:=H1
            clear H1
            obtain rfl:=Option.some.inj H
            have iJ:wr.cell? ⟨aQ,0,none⟩ = some (.int .i64 aM):=(a0F aE.out 0).trans rfl
            have iK:wr.cell? ⟨aQ,1,none⟩ = some (.string aA):=(a0F aE.out 1).trans rfl
            have iL:wr.cell? ⟨aQ,2,none⟩ = some (.int .i64 aI):=(a0F aE.out 2).trans rfl
            have iM:=a0D aE.out 0
            have iN:=a0D aE.out 1
            have iO:=a0D aE.out 2
            have p10:0≤(aK:Int):=of_decide_eq_true (by first | (with_reducible assumption) | assumption)
            have q10:aK < (aA.size:Int):=of_decide_eq_true (by first | (with_reducible assumption) | assumption)
            have hx10:=a3O aA aK
            replace p10:=eq_true p10
            replace q10:=eq_true q10
            go_wp2_with (first | (go_at_call 31;(with_reducible refine (r01_Sign.calls k2 (bt aA aK) false _ A42.out).mono ?_);rintro e w' ⟨rfl,⟨nd,rfl⟩⟩))
            go_ret
            exact ⟨by first | rfl | (simp [a0O,a0N] <;> rfl) | (simp [*,a0O,a0N] <;> rfl),by repeat (first | (with_reducible first | exact HB.out | apply a0B | apply a0A | apply a0C | refine a0L ?_ bD.out) | exact HB.out)⟩
          ·rw [if_neg c41] at H
           have c41b0:(aM == 2) = false:=beq_eq_false_iff_ne.mpr c41
           have c41b1:(aM != 2) = true:=bne_iff_ne.mpr c41
           have H':=a0G.mk H
           clear H
           have iP:wr.cell? ⟨aQ,0,none⟩ = some (.int .i64 aM):=(a0F aE.out 0).trans rfl
           have iQ:wr.cell? ⟨aQ,1,none⟩ = some (.string aA):=(a0F aE.out 1).trans rfl
           have iR:wr.cell? ⟨aQ,2,none⟩ = some (.int .i64 aI):=(a0F aE.out 2).trans rfl
           have iS:=a0D aE.out 0
           have iT:=a0D aE.out 1
           have iU:=a0D aE.out 2
           have p10:0≤(aK:Int):=of_decide_eq_true (by first | (with_reducible assumption) | assumption)
           have q10:aK < (aA.size:Int):=of_decide_eq_true (by first | (with_reducible assumption) | assumption)
           have hx10:=a3O aA aK
           replace p10:=eq_true p10
           replace q10:=eq_true q10
           go_wp2
           go_roundg k2
           case measure =>have:=HJ1.out;have:=HK2.out;omega
           case rel =>exact ⟨(wrap64 (aK + 1)),(by first | rfl | (simp;done) | (simp [*];done)),H',⟨by have:=HJ1.out;have:=HK2.out;omega⟩,⟨by (with_reducible repeat (first | refine a0Z ?_ _ | refine a1H ?_ | refine a0W ?_ _));exact aE.out⟩,⟨by repeat (first | (with_reducible first | exact HB.out | apply a0B | apply a0A | apply a0C | refine a0L ?_ bD.out) | exact HB.out)⟩⟩
       ·rw [if_neg c9] at H
        exact absurd H (by simp)
      ·rw [if_neg c8] at H
       have c8b0:decide (aK < (aA.size:Int)) = false:=decide_eq_false c8
       clear c8
       by_cases c47:aM = 0
       ·rw [if_pos c47] at H
        have c47b0:(aM == 0) = true:=beq_iff_eq.mpr c47
        have c47b1:(aM != 0) = false:=bne_eq_false_iff_eq.mpr c47
        clear c47
        by_cases c48:0 < (aA.size:Int)
        ·rw [if_pos c48] at H
         have c48b0:decide (0 < (aA.size:Int)) = true:=decide_eq_true c48
         have c48b1:decide (0 < aA.size) = true:=decide_eq_true (by omega)
         clear c48
         replace H:=Option.bind_eq_some_iff.mp H
         obtain ⟨t112,A500,H⟩:=H
         replace H:(some t112) = some r:=H
         have A50:=a0G.mk A500
         clear A500
         obtain rfl:=Option.some.inj H
         have iV:wr.cell? ⟨aQ,0,none⟩ = some (.int .i64 aM):=(a0F aE.out 0).trans rfl
         have iW:wr.cell? ⟨aQ,1,none⟩ = some (.string aA):=(a0F aE.out 1).trans rfl
         have iX:wr.cell? ⟨aQ,2,none⟩ = some (.int .i64 aI):=(a0F aE.out 2).trans rfl
         have iY:=a0D aE.out 0
         have iZ:=a0D aE.out 1
         have jA:=a0D aE.out 2
         have p49:0≤(0:Int):=(by omega)
         have q49:0 < aA.size:=(by have:(0:Int) < (aA.size:Int):=of_decide_eq_true (by first | (with_reducible assumption) | assumption);omega)
         have hx49:∀ h:0 < aA.size,((aA[0]'h).toNat:Int) = bt aA 0:=a3O aA 0
         clear p49
         have qi49:(0 < (aA.size:Int)) = True:=eq_true (of_decide_eq_true (by first | (with_reducible assumption) | assumption))
         replace q49:=eq_true q49
         go_wp2_with (first | ((with_reducible refine a1F (f:=28) rfl ?_);refine a2M (some 60) rfl rfl Try.func28 (by kernel_rfl) rfl #[.int .u8 (bt aA 0)] rfl (by (try simp only [List.map_toArray,List.map_cons,List.map_nil]);first | done | rfl | (simp only [List.length_drop,List.length_take];rfl)) ?_;(with_reducible refine (r01_Letter.calls (bt aA 0) t112 _ A50.out).mono ?_);rintro e w' ⟨rfl,⟨nd,rfl⟩⟩;refine ⟨_,rfl,?_⟩))
         go_ret
         exact ⟨by first | rfl | (simp [a0O,a0N] <;> rfl) | (simp [*,a0O,a0N] <;> rfl),by repeat (first | (with_reducible first | exact HB.out | apply a0B | apply a0A | apply a0C | refine a0L ?_ bD.out) | exact HB.out)⟩
        ·rw [if_neg c48] at H
         exact absurd H (by simp)
       ·rw [if_neg c47] at H
        have c47b0:(aM == 0) = false:=beq_eq_false_iff_ne.mpr c47
        have c47b1:(aM != 0) = true:=bne_iff_ne.mpr c47
        by_cases c52:aM = 1
        ·rw [if_pos c52] at H
         have c52b0:(aM == 1) = true:=beq_iff_eq.mpr c52
         have c52b1:(aM != 1) = false:=bne_eq_false_iff_eq.mpr c52
         clear c52
         obtain rfl:=Option.some.inj H
         have jB:wr.cell? ⟨aQ,0,none⟩ = some (.int .i64 aM):=(a0F aE.out 0).trans rfl
         have jC:wr.cell? ⟨aQ,1,none⟩ = some (.string aA):=(a0F aE.out 1).trans rfl
         have jD:wr.cell? ⟨aQ,2,none⟩ = some (.int .i64 aI):=(a0F aE.out 2).trans rfl
         have jE:=a0D aE.out 0
         have jF:=a0D aE.out 1
         have jG:=a0D aE.out 2
         go_wp2
         go_ret
         exact ⟨by first | rfl | (simp [a0O,a0N] <;> rfl) | (simp [*,a0O,a0N] <;> rfl),by repeat (first | (with_reducible first | exact HB.out | apply a0B | apply a0A | apply a0C | refine a0L ?_ bD.out) | exact HB.out)⟩
        ·rw [if_neg c52] at H
         have c52b0:(aM == 1) = false:=beq_eq_false_iff_ne.mpr c52
         have c52b1:(aM != 1) = true:=bne_iff_ne.mpr c52
         by_cases c54:aM = 2
         ·rw [if_pos c54] at H
          have c54b0:(aM == 2) = true:=beq_iff_eq.mpr c54
          have c54b1:(aM != 2) = false:=bne_eq_false_iff_eq.mpr c54
          clear c54
          obtain rfl:=Option.some.inj H
          have eQ:wr.cell? ⟨aQ,0,none⟩ = some (.int .i64 aM):=(a0F aE.out 0).trans rfl
          have eR:wr.cell? ⟨aQ,1,none⟩ = some (.string aA):=(a0F aE.out 1).trans rfl
          have jH:wr.cell? ⟨aQ,2,none⟩ = some (.int .i64 aI):=(a0F aE.out 2).trans rfl
          have eS:=a0D aE.out 0
          have eT:=a0D aE.out 1
          have jI:=a0D aE.out 2
          go_wp2
          go_ret
          exact ⟨by first | rfl | (simp [a0O,a0N] <;> rfl) | (simp [*,a0O,a0N] <;> rfl),by repeat (first | (with_reducible first | exact HB.out | apply a0B | apply a0A | apply a0C | refine a0L ?_ bD.out) | exact HB.out)⟩
         ·rw [if_neg c54] at H
          have c54b0:(aM == 2) = false:=beq_eq_false_iff_ne.mpr c54
          have c54b1:(aM != 2) = true:=bne_iff_ne.mpr c54
          obtain rfl:=Option.some.inj H
          have jJ:wr.cell? ⟨aQ,0,none⟩ = some (.int .i64 aM):=(a0F aE.out 0).trans rfl
          have jK:wr.cell? ⟨aQ,1,none⟩ = some (.string aA):=(a0F aE.out 1).trans rfl
          have jL:wr.cell? ⟨aQ,2,none⟩ = some (.int .i64 aI):=(a0F aE.out 2).trans rfl
          have jM:=a0D aE.out 0
          have jN:=a0D aE.out 1
          have jO:=a0D aE.out 2
          go_wp2
          go_ret
          exact ⟨by first | rfl | (simp [a0O,a0N] <;> rfl) | (simp [*,a0O,a0N] <;> rfl),by repeat (first | (with_reducible first | exact HB.out | apply a0B | apply a0A | apply a0C | refine a0L ?_ bD.out) | exact HB.out)⟩
def r02_is.f (k:Nat) (aG:List (S72)) (aA:Int) (aI:Int) (aV:Int) (aU:Int) (aW:Int) (a1:ByteArray):Option (Bool):=(r02_ok.f aG aA aI aV aU aW).bind fun t114 =>(if t114 = true then (if aA < (aG.length:Int) then (if 0≤aA then ((r01_Right.f k ((a1D aG aA).f0) ((a1D aG aA).f1) ((a1D aG aA).f2)).bind fun t116 =>(if t116 = true then (if ((a1D aG aA).f1).toList = a1.toList then (some (((a1D aG aA).f0) != 1)) else (some false)) else (some false))) else (none)) else (some false)) else (some false))
set_option maxHeartbeats 8000000 in
set_option maxRecDepth 100000 in
theorem r02_is.calls (k:Nat) (aZ:Option Addr) (aY:Nat) (aG:List (S72)) (aA:Int) (aI:Int) (aV:Int) (aU:Int) (aW:Int) (a1:ByteArray) (r:Bool) (w:World) (bY:Kd.C k72 w aZ aG.length aG) (bZ:aG.length≤aY) (h:r02_is.f k aG aA aI aV aU aW a1 = some r) :
    Calls Try.prog 61 #[.agg #[.slice aZ aG.length aY,.int .i64 aA,.int .i64 aI,.int .i64 aV,.int .i64 aU,.int .i64 aW],.string a1] w fun e w' =>e = .returned (.bool r)∧Below w.heap.size w w':=by
 have hu74:=Try.underlying74
 have hu72:=Try.underlying72
 have bF:=a0G.mk bY
 have bQ:=a0G.mk bZ
 clear bY bZ
 have HB:=a0G.mk (Below.refl w.heap.size w)
 have H:((r02_ok.f aG aA aI aV aU aW).bind fun t114 =>(if t114 = true then (if aA < (aG.length:Int) then (if 0≤aA then ((r01_Right.f k ((a1D aG aA).f0) ((a1D aG aA).f1) ((a1D aG aA).f2)).bind fun t116 =>(if t116 = true then (if ((a1D aG aA).f1).toList = a1.toList then (some (((a1D aG aA).f0) != 1)) else (some false)) else (some false))) else (none)) else (some false)) else (some false))) = some r:=h
 clear h
 replace H:=Option.bind_eq_some_iff.mp H
 obtain ⟨t114,A30,H⟩:=H
 replace H:(if t114 = true then (if aA < (aG.length:Int) then (if 0≤aA then ((r01_Right.f k ((a1D aG aA).f0) ((a1D aG aA).f1) ((a1D aG aA).f2)).bind fun t116 =>(if t116 = true then (if ((a1D aG aA).f1).toList = a1.toList then (some (((a1D aG aA).f0) != 1)) else (some false)) else (some false))) else (none)) else (some false)) else (some false)) = some r:=H
 have A3:=a0G.mk A30
 clear A30
 by_cases c4:t114 = true
 ·subst c4
  have H1:(if aA < (aG.length:Int) then (if 0≤aA then ((r01_Right.f k ((a1D aG aA).f0) ((a1D aG aA).f1) ((a1D aG aA).f2)).bind fun t116 =>(if t116 = true then (if ((a1D aG aA).f1).toList = a1.toList then (some (((a1D aG aA).f0) != 1)) else (some false)) else (some false))) else (none)) else (some false)) = some r:=by rw [if_pos rfl] at H;exact H
  clear H
  have H:=H1
  clear H1
  by_cases c5:aA < (aG.length:Int)
  ·rw [if_pos c5] at H
   have c5b0:decide (aA < (aG.length:Int)) = true:=decide_eq_true c5
   clear c5
   by_cases c6:0≤aA
   ·rw [if_pos c6] at H
    have c6b0:decide (0≤aA) = true:=decide_eq_true c6
    clear c6
    replace H:=Option.bind_eq_some_iff.mp H
    obtain ⟨t116,A70,H⟩:=H
    replace H:(if t116 = true then (if ((a1D aG aA).f1).toList = a1.toList then (some (((a1D aG aA).f0) != 1)) else (some false)) else (some false)) = some r:=H
    have A7:=a0G.mk A70
    clear A70
    by_cases c8:t116 = true
    ·subst c8
     have H1:(if ((a1D aG aA).f1).toList = a1.toList then (some (((a1D aG aA).f0) != 1)) else (some false)) = some r:=by rw [if_pos rfl] at H;exact H
     clear H
     have H:=H1
     clear H1
     by_cases c9:((a1D aG aA).f1).toList = a1.toList
     ·rw [if_pos c9] at H
      have c9b0:(((a1D aG aA).f1).toList == a1.toList) = true:=beq_iff_eq.mpr c9
      have c9b1:(((a1D aG aA).f1).toList != a1.toList) = false:=bne_eq_false_iff_eq.mpr c9
      clear c9
      obtain rfl:=Option.some.inj H
      go_enter Try.func61,Try.ntmps61
      go_wp2_with (first | ((with_reducible refine a0P (N:=2) rfl ?_);(try (refine a2C (by rfl) ?_;dsimp only));refine a0Q ?hg (N:=2) ?hd (cs:=#[.slice aZ aG.length aY,.int .i64 aA,.int .i64 aI,.int .i64 aV,.int .i64 aU,.int .i64 aW]) (t:=74) ?hr ?_;(case hd =>rfl);(case hg =>rfl);(case hr =>first | (go_simp;done) | (go_simp;rfl));intro aJ hg w10 hbox hb;have bA:=a0G.mk (a0E (by repeat (first | (with_reducible first | exact HB.out | apply a0B | apply a0A | apply a0C) | exact HB.out)) hb);have bC:=a0G.mk (hbox);have bH:=a0G.mk ((by rw [hg];exact (a0U (by repeat (first | (with_reducible first | exact HB.out | apply a0B | apply a0A | apply a0C) | exact HB.out))):w.heap.size≤aJ));have bR:=a0G.mk ((by rw [hg];exact (a0U (by repeat (first | (with_reducible first | exact HB.out | apply a0B | apply a0A | apply a0C) | exact HB.out))):w.heap.size≤aJ));clear HB;have HB:=bA;have aC:=bC;have GW113:=bH;have bG:=bR;clear bA bC bH bR;clear hb hbox hg;have eU:w10.cell? ⟨aJ,0,none⟩ = some (.slice aZ aG.length aY):=(a0F aC.out 0).trans rfl;have eV:w10.cell? ⟨aJ,1,none⟩ = some (.int .i64 aA):=(a0F aC.out 1).trans rfl;have eW:w10.cell? ⟨aJ,2,none⟩ = some (.int .i64 aI):=(a0F aC.out 2).trans rfl;have eX:w10.cell? ⟨aJ,3,none⟩ = some (.int .i64 aV):=(a0F aC.out 3).trans rfl;have eY:w10.cell? ⟨aJ,4,none⟩ = some (.int .i64 aU):=(a0F aC.out 4).trans rfl;have eZ:w10.cell? ⟨aJ,5,none⟩ = some (.int .i64 aW):=(a0F aC.out 5).trans rfl;have fA:=a0D aC.out 0;have fB:=a0D aC.out 1;have fC:=a0D aC.out 2;have fD:=a0D aC.out 3;have fE:=a0D aC.out 4;have fF:=a0D aC.out 5) | ((with_reducible refine a1F (f:=32) rfl ?_);refine a2M (some 6) rfl rfl Try.func32 (by kernel_rfl) rfl #[.agg #[.slice aZ aG.length aY,.int .i64 aA,.int .i64 aI,.int .i64 aV,.int .i64 aU,.int .i64 aW]] rfl (by (try simp only [List.map_toArray,List.map_cons,List.map_nil]);first | done | rfl | (simp only [List.length_drop,List.length_take];rfl)) ?_;(with_reducible refine (r02_ok.calls _ _ aG aA aI aV aU aW true _ ?side1 ?side2 A3.out).mono ?_);(case side1 =>repeat (first | exact (Kd.a0J bF.out HB.out) | (with_reducible refine Kd.a0T ?_ _) | (with_reducible refine Kd.a0S ?_ _) | (with_reducible refine Kd.a1A ?_)));(case side2 =>exact bQ.out);rintro e w12 ⟨rfl,hb⟩;refine ⟨_,rfl,?_⟩;have bA:=a0G.mk (a0V (g:=aJ) (o:=.cells #[.slice aZ aG.length aY,.int .i64 aA,.int .i64 aI,.int .i64 aV,.int .i64 aU,.int .i64 aW] 74 (0,0)) (by (with_reducible repeat (first | refine a0Z ?_ _ | refine a1H ?_ | refine a0W ?_ _));exact aC.out) hb);have bC:=a0G.mk (a0E (by repeat (first | (with_reducible first | exact HB.out | apply a0B | apply a0A | apply a0C | refine a0L ?_ bG.out) | exact HB.out)) hb);clear aC;clear HB;have aC:=bA;have HB:=bC;clear bA bC;(try clear hb);(try clear hb2);(try clear hk);(try clear hi);have jP:w12.cell? ⟨aJ,0,none⟩ = some (.slice aZ aG.length aY):=(a0F aC.out 0).trans rfl;have jQ:w12.cell? ⟨aJ,1,none⟩ = some (.int .i64 aA):=(a0F aC.out 1).trans rfl;have jR:w12.cell? ⟨aJ,2,none⟩ = some (.int .i64 aI):=(a0F aC.out 2).trans rfl;have jS:w12.cell? ⟨aJ,3,none⟩ = some (.int .i64 aV):=(a0F aC.out 3).trans rfl;have jT:w12.cell? ⟨aJ,4,none⟩ = some (.int .i64 aU):=(a0F aC.out 4).trans rfl;have jU:w12.cell? ⟨aJ,5,none⟩ = some (.int .i64 aW):=(a0F aC.out 5).trans rfl;have jV:=a0D aC.out 0;have jW:=a0D aC.out 1;have jX:=a0D aC.out 2;have jY:=a0D aC.out 3;have jZ:=a0D aC.out 4;have kA:=a0D aC.out 5;have p115:0≤(aA:Int):=of_decide_eq_true (by first | (with_reducible assumption) | assumption);have q115:aA < (aG.length:Int):=of_decide_eq_true (by first | (with_reducible assumption) | assumption);obtain ⟨ad115,e115,bK,bM,bN⟩:=a4S bF.out aA p115 q115;cases e115;replace bK:=a0M HB.out bK;replace bM:=a0M HB.out bM;replace bN:=a0M HB.out bN;replace p115:=eq_true p115;replace q115:=eq_true q115) | (go_at_call 76;(with_reducible refine (r01_Right.calls k ((a1D aG aA).f0) ((a1D aG aA).f1) ((a1D aG aA).f2) true _ A7.out).mono ?_);rintro e w14 ⟨rfl,hb⟩;have bA:=a0G.mk (a0V (g:=aJ) (o:=.cells #[.slice (some ad115) aG.length aY,.int .i64 aA,.int .i64 aI,.int .i64 aV,.int .i64 aU,.int .i64 aW] 74 (0,0)) (by (with_reducible repeat (first | refine a0Z ?_ _ | refine a1H ?_ | refine a0W ?_ _));exact aC.out) hb);have bC:=a0G.mk (a0E (by repeat (first | (with_reducible first | exact HB.out | apply a0B | apply a0A | apply a0C | refine a0L ?_ bG.out) | exact HB.out)) hb);clear aC;clear HB;have aC:=bA;have HB:=bC;clear bA bC;(try clear hb);(try clear hb2);(try clear hk);(try clear hi);have kB:w14.cell? ⟨aJ,0,none⟩ = some (.slice (some ad115) aG.length aY):=(a0F aC.out 0).trans rfl;have kC:w14.cell? ⟨aJ,1,none⟩ = some (.int .i64 aA):=(a0F aC.out 1).trans rfl;have kD:w14.cell? ⟨aJ,2,none⟩ = some (.int .i64 aI):=(a0F aC.out 2).trans rfl;have kE:w14.cell? ⟨aJ,3,none⟩ = some (.int .i64 aV):=(a0F aC.out 3).trans rfl;have kF:w14.cell? ⟨aJ,4,none⟩ = some (.int .i64 aU):=(a0F aC.out 4).trans rfl;have kG:w14.cell? ⟨aJ,5,none⟩ = some (.int .i64 aW):=(a0F aC.out 5).trans rfl;have kH:=a0D aC.out 0;have kJ:=a0D aC.out 1;have kK:=a0D aC.out 2;have kN:=a0D aC.out 3;have kO:=a0D aC.out 4;have kP:=a0D aC.out 5;have p117:0≤(aA:Int):=of_decide_eq_true (by first | (with_reducible assumption) | assumption);have q117:aA < (aG.length:Int):=of_decide_eq_true (by first | (with_reducible assumption) | assumption);obtain ⟨ad117,e117,bS,bT,bU⟩:=a4S bF.out aA p117 q117;obtain rfl:ad115 = ad117:=(by injection e117);replace bS:=a0M HB.out bS;replace bT:=a0M HB.out bT;replace bU:=a0M HB.out bU;replace p117:=eq_true p117;replace q117:=eq_true q117;have p118:0≤(aA:Int):=of_decide_eq_true (by first | (with_reducible assumption) | assumption);have q118:aA < (aG.length:Int):=of_decide_eq_true (by first | (with_reducible assumption) | assumption);obtain ⟨ad118,e118,cE,cG,cH⟩:=a4S bF.out aA p118 q118;obtain rfl:ad115 = ad118:=(by injection e118);replace cE:=a0M HB.out cE;replace cG:=a0M HB.out cG;replace cH:=a0M HB.out cH;replace p118:=eq_true p118;replace q118:=eq_true q118))
      go_ret
      exact ⟨by first | rfl | (simp [a0O,a0N] <;> rfl) | (simp [*,a0O,a0N] <;> rfl),by repeat (first | (with_reducible first | exact HB.out | apply a0B | apply a0A | apply a0C | refine a0L ?_ bG.out) | exact HB.out)⟩
     ·rw [if_neg c9] at H
      have c9b0:(((a1D aG aA).f1).toList == a1.toList) = false:=beq_eq_false_iff_ne.mpr c9
      have c9b1:(((a1D aG aA).f1).toList != a1.toList) = true:=bne_iff_ne.mpr c9
      obtain rfl:=Option.some.inj H
      go_enter Try.func61,Try.ntmps61
      go_wp2_with (first | ((with_reducible refine a0P (N:=2) rfl ?_);(try (refine a2C (by rfl) ?_;dsimp only));refine a0Q ?hg (N:=2) ?hd (cs:=#[.slice aZ aG.length aY,.int .i64 aA,.int .i64 aI,.int .i64 aV,.int .i64 aU,.int .i64 aW]) (t:=74) ?hr ?_;(case hd =>rfl);(case hg =>rfl);(case hr =>first | (go_simp;done) | (go_simp;rfl));intro aJ hg w16 hbox hb;have bA:=a0G.mk (a0E (by repeat (first | (with_reducible first | exact HB.out | apply a0B | apply a0A | apply a0C) | exact HB.out)) hb);have bC:=a0G.mk (hbox);have bH:=a0G.mk ((by rw [hg];exact (a0U (by repeat (first | (with_reducible first | exact HB.out | apply a0B | apply a0A | apply a0C) | exact HB.out))):w.heap.size≤aJ));have bR:=a0G.mk ((by rw [hg];exact (a0U (by repeat (first | (with_reducible first | exact HB.out | apply a0B | apply a0A | apply a0C) | exact HB.out))):w.heap.size≤aJ));clear HB;have HB:=bA;have aC:=bC;have GW113:=bH;have bG:=bR;clear bA bC bH bR;clear hb hbox hg;have kQ:w16.cell? ⟨aJ,0,none⟩ = some (.slice aZ aG.length aY):=(a0F aC.out 0).trans rfl;have kR:w16.cell? ⟨aJ,1,none⟩ = some (.int .i64 aA):=(a0F aC.out 1).trans rfl;have kS:w16.cell? ⟨aJ,2,none⟩ = some (.int .i64 aI):=(a0F aC.out 2).trans rfl;have kU:w16.cell? ⟨aJ,3,none⟩ = some (.int .i64 aV):=(a0F aC.out 3).trans rfl;have kV:w16.cell? ⟨aJ,4,none⟩ = some (.int .i64 aU):=(a0F aC.out 4).trans rfl;have kW:w16.cell? ⟨aJ,5,none⟩ = some (.int .i64 aW):=(a0F aC.out 5).trans rfl;have kX:=a0D aC.out 0;have kY:=a0D aC.out 1;have kZ:=a0D aC.out 2;have lA:=a0D aC.out 3;have lB:=a0D aC.out 4;have lC:=a0D aC.out 5) | ((with_reducible refine a1F (f:=32) rfl ?_);refine a2M (some 6) rfl rfl Try.func32 (by kernel_rfl) rfl #[.agg #[.slice aZ aG.length aY,.int .i64 aA,.int .i64 aI,.int .i64 aV,.int .i64 aU,.int .i64 aW]] rfl (by (try simp only [List.map_toArray,List.map_cons,List.map_nil]);first | done | rfl | (simp only [List.length_drop,List.length_take];rfl)) ?_;(with_reducible refine (r02_ok.calls _ _ aG aA aI aV aU aW true _ ?side1 ?side2 A3.out).mono ?_);(case side1 =>repeat (first | exact (Kd.a0J bF.out HB.out) | (with_reducible refine Kd.a0T ?_ _) | (with_reducible refine Kd.a0S ?_ _) | (with_reducible refine Kd.a1A ?_)));(case side2 =>exact bQ.out);rintro e w18 ⟨rfl,hb⟩;refine ⟨_,rfl,?_⟩;have bA:=a0G.mk (a0V (g:=aJ) (o:=.cells #[.slice aZ aG.length aY,.int .i64 aA,.int .i64 aI,.int .i64 aV,.int .i64 aU,.int .i64 aW] 74 (0,0)) (by (with_reducible repeat (first | refine a0Z ?_ _ | refine a1H ?_ | refine a0W ?_ _));exact aC.out) hb);have bC:=a0G.mk (a0E (by repeat (first | (with_reducible first | exact HB.out | apply a0B | apply a0A | apply a0C | refine a0L ?_ bG.out) | exact HB.out)) hb);clear aC;clear HB;have aC:=bA;have HB:=bC;clear bA bC;(try clear hb);(try clear hb2);(try clear hk);(try clear hi);have lD:w18.cell? ⟨aJ,0,none⟩ = some (.slice aZ aG.length aY):=(a0F aC.out 0).trans rfl;have lE:w18.cell? ⟨aJ,1,none⟩ = some (.int .i64 aA):=(a0F aC.out 1).trans rfl;have lF:w18.cell? ⟨aJ,2,none⟩ = some (.int .i64 aI):=(a0F aC.out 2).trans rfl;have lG:w18.cell? ⟨aJ,3,none⟩ = some (.int .i64 aV):=(a0F aC.out 3).trans rfl;have lH:w18.cell? ⟨aJ,4,none⟩ = some (.int .i64 aU):=(a0F aC.out 4).trans rfl;have lI:w18.cell? ⟨aJ,5,none⟩ = some (.int .i64 aW):=(a0F aC.out 5).trans rfl;have lJ:=a0D aC.out 0;have lK:=a0D aC.out 1;have lL:=a0D aC.out 2;have lM:=a0D aC.out 3;have lN:=a0D aC.out 4;have lO:=a0D aC.out 5;have p115:0≤(aA:Int):=of_decide_eq_true (by first | (with_reducible assumption) | assumption);have q115:aA < (aG.length:Int):=of_decide_eq_true (by first | (with_reducible assumption) | assumption);obtain ⟨ad115,e115,bK,bM,bN⟩:=a4S bF.out aA p115 q115;cases e115;replace bK:=a0M HB.out bK;replace bM:=a0M HB.out bM;replace bN:=a0M HB.out bN;replace p115:=eq_true p115;replace q115:=eq_true q115) | (go_at_call 76;(with_reducible refine (r01_Right.calls k ((a1D aG aA).f0) ((a1D aG aA).f1) ((a1D aG aA).f2) true _ A7.out).mono ?_);rintro e w20 ⟨rfl,hb⟩;have bA:=a0G.mk (a0V (g:=aJ) (o:=.cells #[.slice (some ad115) aG.length aY,.int .i64 aA,.int .i64 aI,.int .i64 aV,.int .i64 aU,.int .i64 aW] 74 (0,0)) (by (with_reducible repeat (first | refine a0Z ?_ _ | refine a1H ?_ | refine a0W ?_ _));exact aC.out) hb);have bC:=a0G.mk (a0E (by repeat (first | (with_reducible first | exact HB.out | apply a0B | apply a0A | apply a0C | refine a0L ?_ bG.out) | exact HB.out)) hb);clear aC;clear HB;have aC:=bA;have HB:=bC;clear bA bC;(try clear hb);(try clear hb2);(try clear hk);(try clear hi);have dK:w20.cell? ⟨aJ,0,none⟩ = some (.slice (some ad115) aG.length aY):=(a0F aC.out 0).trans rfl;have dL:w20.cell? ⟨aJ,1,none⟩ = some (.int .i64 aA):=(a0F aC.out 1).trans rfl;have dM:w20.cell? ⟨aJ,2,none⟩ = some (.int .i64 aI):=(a0F aC.out 2).trans rfl;have lP:w20.cell? ⟨aJ,3,none⟩ = some (.int .i64 aV):=(a0F aC.out 3).trans rfl;have lQ:w20.cell? ⟨aJ,4,none⟩ = some (.int .i64 aU):=(a0F aC.out 4).trans rfl;have lR:w20.cell? ⟨aJ,5,none⟩ = some (.int .i64 aW):=(a0F aC.out 5).trans rfl;have dN:=a0D aC.out 0;have dO:=a0D aC.out 1;have dP:=a0D aC.out 2;have lS:=a0D aC.out 3;have lT:=a0D aC.out 4;have lU:=a0D aC.out 5;have p117:0≤(aA:Int):=of_decide_eq_true (by first | (with_reducible assumption) | assumption);have q117:aA < (aG.length:Int):=of_decide_eq_true (by first | (with_reducible assumption) | assumption);obtain ⟨ad117,e117,bS,bT,bU⟩:=a4S bF.out aA p117 q117;obtain rfl:ad115 = ad117:=(by injection e117);replace bS:=a0M HB.out bS;replace bT:=a0M HB.out bT;replace bU:=a0M HB.out bU;replace p117:=eq_true p117;replace q117:=eq_true q117))
      go_ret
      exact ⟨by first | rfl | (simp [a0O,a0N] <;> rfl) | (simp [*,a0O,a0N] <;> rfl),by repeat (first | (with_reducible first | exact HB.out | apply a0B | apply a0A | apply a0C | refine a0L ?_ bG.out) | exact HB.out)⟩
    ·replace c8:=Bool.eq_false_iff.mpr c8
     subst c8
     have H1:(some false) = some r:=by rw [if_neg (show ¬ (false = true) by decide)] at H;exact H
     clear H
     have H:=H1
     clear H1
     obtain rfl:=Option.some.inj H
     go_enter Try.func61,Try.ntmps61
     go_wp2_with (first | ((with_reducible refine a0P (N:=2) rfl ?_);(try (refine a2C (by rfl) ?_;dsimp only));refine a0Q ?hg (N:=2) ?hd (cs:=#[.slice aZ aG.length aY,.int .i64 aA,.int .i64 aI,.int .i64 aV,.int .i64 aU,.int .i64 aW]) (t:=74) ?hr ?_;(case hd =>rfl);(case hg =>rfl);(case hr =>first | (go_simp;done) | (go_simp;rfl));intro aJ hg w22 hbox hb;have bA:=a0G.mk (a0E (by repeat (first | (with_reducible first | exact HB.out | apply a0B | apply a0A | apply a0C) | exact HB.out)) hb);have bC:=a0G.mk (hbox);have bH:=a0G.mk ((by rw [hg];exact (a0U (by repeat (first | (with_reducible first | exact HB.out | apply a0B | apply a0A | apply a0C) | exact HB.out))):w.heap.size≤aJ));have bR:=a0G.mk ((by rw [hg];exact (a0U (by repeat (first | (with_reducible first | exact HB.out | apply a0B | apply a0A | apply a0C) | exact HB.out))):w.heap.size≤aJ));clear HB;have HB:=bA;have aC:=bC;have GW113:=bH;have bG:=bR;clear bA bC bH bR;clear hb hbox hg;have dW:w22.cell? ⟨aJ,0,none⟩ = some (.slice aZ aG.length aY):=(a0F aC.out 0).trans rfl;have dX:w22.cell? ⟨aJ,1,none⟩ = some (.int .i64 aA):=(a0F aC.out 1).trans rfl;have dY:w22.cell? ⟨aJ,2,none⟩ = some (.int .i64 aI):=(a0F aC.out 2).trans rfl;have lV:w22.cell? ⟨aJ,3,none⟩ = some (.int .i64 aV):=(a0F aC.out 3).trans rfl;have lW:w22.cell? ⟨aJ,4,none⟩ = some (.int .i64 aU):=(a0F aC.out 4).trans rfl;have lX:w22.cell? ⟨aJ,5,none⟩ = some (.int .i64 aW):=(a0F aC.out 5).trans rfl;have dZ:=a0D aC.out 0;have eB:=a0D aC.out 1;have eC:=a0D aC.out 2;have lY:=a0D aC.out 3;have lZ:=a0D aC.out 4;have mA:=a0D aC.out 5) | ((with_reducible refine a1F (f:=32) rfl ?_);refine a2M (some 6) rfl rfl Try.func32 (by kernel_rfl) rfl #[.agg #[.slice aZ aG.length aY,.int .i64 aA,.int .i64 aI,.int .i64 aV,.int .i64 aU,.int .i64 aW]] rfl (by (try simp only [List.map_toArray,List.map_cons,List.map_nil]);first | done | rfl | (simp only [List.length_drop,List.length_take];rfl)) ?_;(with_reducible refine (r02_ok.calls _ _ aG aA aI aV aU aW true _ ?side1 ?side2 A3.out).mono ?_);(case side1 =>repeat (first | exact (Kd.a0J bF.out HB.out) | (with_reducible refine Kd.a0T ?_ _) | (with_reducible refine Kd.a0S ?_ _) | (with_reducible refine Kd.a1A ?_)));(case side2 =>exact bQ.out);rintro e w24 ⟨rfl,hb⟩;refine ⟨_,rfl,?_⟩;have bA:=a0G.mk (a0V (g:=aJ) (o:=.cells #[.slice aZ aG.length aY,.int .i64 aA,.int .i64 aI,.int .i64 aV,.int .i64 aU,.int .i64 aW] 74 (0,0)) (by (with_reducible repeat (first | refine a0Z ?_ _ | refine a1H ?_ | refine a0W ?_ _));exact aC.out) hb);have bC:=a0G.mk (a0E (by repeat (first | (with_reducible first | exact HB.out | apply a0B | apply a0A | apply a0C | refine a0L ?_ bG.out) | exact HB.out)) hb);clear aC;clear HB;have aC:=bA;have HB:=bC;clear bA bC;(try clear hb);(try clear hb2);(try clear hk);(try clear hi);have mB:w24.cell? ⟨aJ,0,none⟩ = some (.slice aZ aG.length aY):=(a0F aC.out 0).trans rfl;have mC:w24.cell? ⟨aJ,1,none⟩ = some (.int .i64 aA):=(a0F aC.out 1).trans rfl;have mD:w24.cell? ⟨aJ,2,none⟩ = some (.int .i64 aI):=(a0F aC.out 2).trans rfl;have mE:w24.cell? ⟨aJ,3,none⟩ = some (.int .i64 aV):=(a0F aC.out 3).trans rfl;have mF:w24.cell? ⟨aJ,4,none⟩ = some (.int .i64 aU):=(a0F aC.out 4).trans rfl;have mG:w24.cell? ⟨aJ,5,none⟩ = some (.int .i64 aW):=(a0F aC.out 5).trans rfl;have mH:=a0D aC.out 0;have mI:=a0D aC.out 1;have mJ:=a0D aC.out 2;have mK:=a0D aC.out 3;have mL:=a0D aC.out 4;have mM:=a0D aC.out 5;have p115:0≤(aA:Int):=of_decide_eq_true (by first | (with_reducible assumption) | assumption);have q115:aA < (aG.length:Int):=of_decide_eq_true (by first | (with_reducible assumption) | assumption);obtain ⟨ad115,e115,bK,bM,bN⟩:=a4S bF.out aA p115 q115;cases e115;replace bK:=a0M HB.out bK;replace bM:=a0M HB.out bM;replace bN:=a0M HB.out bN;replace p115:=eq_true p115;replace q115:=eq_true q115) | (go_at_call 76;(with_reducible refine (r01_Right.calls k ((a1D aG aA).f0) ((a1D aG aA).f1) ((a1D aG aA).f2) false _ A7.out).mono ?_);rintro e w26 ⟨rfl,hb⟩;have bA:=a0G.mk (a0V (g:=aJ) (o:=.cells #[.slice (some ad115) aG.length aY,.int .i64 aA,.int .i64 aI,.int .i64 aV,.int .i64 aU,.int .i64 aW] 74 (0,0)) (by (with_reducible repeat (first | refine a0Z ?_ _ | refine a1H ?_ | refine a0W ?_ _));exact aC.out) hb);have bC:=a0G.mk (a0E (by repeat (first | (with_reducible first | exact HB.out | apply a0B | apply a0A | apply a0C | refine a0L ?_ bG.out) | exact HB.out)) hb);clear aC;clear HB;have aC:=bA;have HB:=bC;clear bA bC;(try clear hb);(try clear hb2);(try clear hk);(try clear hi)))
     go_ret
     exact ⟨by first | rfl | (simp [a0O,a0N] <;> rfl) | (simp [*,a0O,a0N] <;> rfl),by repeat (first | (with_reducible first | exact HB.out | apply a0B | apply a0A | apply a0C | refine a0L ?_ bG.out) | exact HB.out)⟩
   ·rw [if_neg c6] at H
    exact absurd H (by simp)
  ·rw [if_neg c5] at H
   have c5b0:decide (aA < (aG.length:Int)) = false:=decide_eq_false c5
   clear c5
   obtain rfl:=Option.some.inj H
   go_enter Try.func61,Try.ntmps61
   go_wp2_with (first | ((with_reducible refine a0P (N:=2) rfl ?_);(try (refine a2C (by rfl) ?_;dsimp only));refine a0Q ?hg (N:=2) ?hd (cs:=#[.slice aZ aG.length aY,.int .i64 aA,.int .i64 aI,.int .i64 aV,.int .i64 aU,.int .i64 aW]) (t:=74) ?hr ?_;(case hd =>rfl);(case hg =>rfl);(case hr =>first | (go_simp;done) | (go_simp;rfl));intro aJ hg w27 hbox hb;have bA:=a0G.mk (a0E (by repeat (first | (with_reducible first | exact HB.out | apply a0B | apply a0A | apply a0C) | exact HB.out)) hb);have bC:=a0G.mk (hbox);have bH:=a0G.mk ((by rw [hg];exact (a0U (by repeat (first | (with_reducible first | exact HB.out | apply a0B | apply a0A | apply a0C) | exact HB.out))):w.heap.size≤aJ));have bR:=a0G.mk ((by rw [hg];exact (a0U (by repeat (first | (with_reducible first | exact HB.out | apply a0B | apply a0A | apply a0C) | exact HB.out))):w.heap.size≤aJ));clear HB;have HB:=bA;have aC:=bC;have GW113:=bH;have bG:=bR;clear bA bC bH bR;clear hb hbox hg;have eD:w27.cell? ⟨aJ,0,none⟩ = some (.slice aZ aG.length aY):=(a0F aC.out 0).trans rfl;have eE:w27.cell? ⟨aJ,1,none⟩ = some (.int .i64 aA):=(a0F aC.out 1).trans rfl;have eG:w27.cell? ⟨aJ,2,none⟩ = some (.int .i64 aI):=(a0F aC.out 2).trans rfl;have mN:w27.cell? ⟨aJ,3,none⟩ = some (.int .i64 aV):=(a0F aC.out 3).trans rfl;have mO:w27.cell? ⟨aJ,4,none⟩ = some (.int .i64 aU):=(a0F aC.out 4).trans rfl;have mP:w27.cell? ⟨aJ,5,none⟩ = some (.int .i64 aW):=(a0F aC.out 5).trans rfl;have eH:=a0D aC.out 0;have eI:=a0D aC.out 1;have eJ:=a0D aC.out 2;have mQ:=a0D aC.out 3;have mR:=a0D aC.out 4;have mS:=a0D aC.out 5) | ((with_reducible refine a1F (f:=32) rfl ?_);refine a2M (some 6) rfl rfl Try.func32 (by kernel_rfl) rfl #[.agg #[.slice aZ aG.length aY,.int .i64 aA,.int .i64 aI,.int .i64 aV,.int .i64 aU,.int .i64 aW]] rfl (by (try simp only [List.map_toArray,List.map_cons,List.map_nil]);first | done | rfl | (simp only [List.length_drop,List.length_take];rfl)) ?_;(with_reducible refine (r02_ok.calls _ _ aG aA aI aV aU aW true _ ?side1 ?side2 A3.out).mono ?_);(case side1 =>repeat (first | exact (Kd.a0J bF.out HB.out) | (with_reducible refine Kd.a0T ?_ _) | (with_reducible refine Kd.a0S ?_ _) | (with_reducible refine Kd.a1A ?_)));(case side2 =>exact bQ.out);rintro e w29 ⟨rfl,hb⟩;refine ⟨_,rfl,?_⟩;have bA:=a0G.mk (a0V (g:=aJ) (o:=.cells #[.slice aZ aG.length aY,.int .i64 aA,.int .i64 aI,.int .i64 aV,.int .i64 aU,.int .i64 aW] 74 (0,0)) (by (with_reducible repeat (first | refine a0Z ?_ _ | refine a1H ?_ | refine a0W ?_ _));exact aC.out) hb);have bC:=a0G.mk (a0E (by repeat (first | (with_reducible first | exact HB.out | apply a0B | apply a0A | apply a0C | refine a0L ?_ bG.out) | exact HB.out)) hb);clear aC;clear HB;have aC:=bA;have HB:=bC;clear bA bC;(try clear hb);(try clear hb2);(try clear hk);(try clear hi);have eK:w29.cell? ⟨aJ,0,none⟩ = some (.slice aZ aG.length aY):=(a0F aC.out 0).trans rfl;have eL:w29.cell? ⟨aJ,1,none⟩ = some (.int .i64 aA):=(a0F aC.out 1).trans rfl;have eM:w29.cell? ⟨aJ,2,none⟩ = some (.int .i64 aI):=(a0F aC.out 2).trans rfl;have mT:w29.cell? ⟨aJ,3,none⟩ = some (.int .i64 aV):=(a0F aC.out 3).trans rfl;have mU:w29.cell? ⟨aJ,4,none⟩ = some (.int .i64 aU):=(a0F aC.out 4).trans rfl;have mV:w29.cell? ⟨aJ,5,none⟩ = some (.int .i64 aW):=(a0F aC.out 5).trans rfl;have eN:=a0D aC.out 0;have eO:=a0D aC.out 1;have eP:=a0D aC.out 2;have mW:=a0D aC.out 3;have mX:=a0D aC.out 4;have mY:=a0D aC.out 5))
   go_ret
   exact ⟨by first | rfl | (simp [a0O,a0N] <;> rfl) | (simp [*,a0O,a0N] <;> rfl),by repeat (first | (with_reducible first | exact HB.out | apply a0B | apply a0A | apply a0C | refine a0L ?_ bG.out) | exact HB.out)⟩
 ·replace c4:=Bool.eq_false_iff.mpr c4
  subst c4
  have H1:(some false) = some r:=by rw [if_neg (show ¬ (false = true) by decide)] at H;exact H
  clear H
  have H:=H1
  clear H1
  obtain rfl:=Option.some.inj H
  go_enter Try.func61,Try.ntmps61
  go_wp2_with (first | ((with_reducible refine a0P (N:=2) rfl ?_);(try (refine a2C (by rfl) ?_;dsimp only));refine a0Q ?hg (N:=2) ?hd (cs:=#[.slice aZ aG.length aY,.int .i64 aA,.int .i64 aI,.int .i64 aV,.int .i64 aU,.int .i64 aW]) (t:=74) ?hr ?_;(case hd =>rfl);(case hg =>rfl);(case hr =>first | (go_simp;done) | (go_simp;rfl));intro aJ hg w31 hbox hb;have bA:=a0G.mk (a0E (by repeat (first | (with_reducible first | exact HB.out | apply a0B | apply a0A | apply a0C) | exact HB.out)) hb);have bC:=a0G.mk (hbox);have bH:=a0G.mk ((by rw [hg];exact (a0U (by repeat (first | (with_reducible first | exact HB.out | apply a0B | apply a0A | apply a0C) | exact HB.out))):w.heap.size≤aJ));have bR:=a0G.mk ((by rw [hg];exact (a0U (by repeat (first | (with_reducible first | exact HB.out | apply a0B | apply a0A | apply a0C) | exact HB.out))):w.heap.size≤aJ));clear HB;have HB:=bA;have aC:=bC;have GW113:=bH;have bG:=bR;clear bA bC bH bR;clear hb hbox hg;have mZ:w31.cell? ⟨aJ,0,none⟩ = some (.slice aZ aG.length aY):=(a0F aC.out 0).trans rfl;have nA:w31.cell? ⟨aJ,1,none⟩ = some (.int .i64 aA):=(a0F aC.out 1).trans rfl;have nB:w31.cell? ⟨aJ,2,none⟩ = some (.int .i64 aI):=(a0F aC.out 2).trans rfl;have nC:w31.cell? ⟨aJ,3,none⟩ = some (.int .i64 aV):=(a0F aC.out 3).trans rfl;have nD:w31.cell? ⟨aJ,4,none⟩ = some (.int .i64 aU):=(a0F aC.out 4).trans rfl;have nE:w31.cell? ⟨aJ,5,none⟩ = some (.int .i64 aW):=(a0F aC.out 5).trans rfl;have nG:=a0D aC.out 0;have nH:=a0D aC.out 1;have nI:=a0D aC.out 2;have nJ:=a0D aC.out 3;have nK:=a0D aC.out 4;have nL:=a0D aC.out 5) | ((with_reducible refine a1F (f:=32) rfl ?_);refine a2M (some 6) rfl rfl Try.func32 (by kernel_rfl) rfl #[.agg #[.slice aZ aG.length aY,.int .i64 aA,.int .i64 aI,.int .i64 aV,.int .i64 aU,.int .i64 aW]] rfl (by (try simp only [List.map_toArray,List.map_cons,List.map_nil]);first | done | rfl | (simp only [List.length_drop,List.length_take];rfl)) ?_;(with_reducible refine (r02_ok.calls _ _ aG aA aI aV aU aW false _ ?side1 ?side2 A3.out).mono ?_);(case side1 =>repeat (first | exact (Kd.a0J bF.out HB.out) | (with_reducible refine Kd.a0T ?_ _) | (with_reducible refine Kd.a0S ?_ _) | (with_reducible refine Kd.a1A ?_)));(case side2 =>exact bQ.out);rintro e w33 ⟨rfl,hb⟩;refine ⟨_,rfl,?_⟩;have bA:=a0G.mk (a0V (g:=aJ) (o:=.cells #[.slice aZ aG.length aY,.int .i64 aA,.int .i64 aI,.int .i64 aV,.int .i64 aU,.int .i64 aW] 74 (0,0)) (by (with_reducible repeat (first | refine a0Z ?_ _ | refine a1H ?_ | refine a0W ?_ _));exact aC.out) hb);have bC:=a0G.mk (a0E (by repeat (first | (with_reducible first | exact HB.out | apply a0B | apply a0A | apply a0C | refine a0L ?_ bG.out) | exact HB.out)) hb);clear aC;clear HB;have aC:=bA;have HB:=bC;clear bA bC;(try clear hb);(try clear hb2);(try clear hk);(try clear hi)))
  go_ret
  exact ⟨by first | rfl | (simp [a0O,a0N] <;> rfl) | (simp [*,a0O,a0N] <;> rfl),by repeat (first | (with_reducible first | exact HB.out | apply a0B | apply a0A | apply a0C | refine a0L ?_ bG.out) | exact HB.out)⟩
def r02_Keyword.l0:Nat→ByteArray→List ByteArray→Int→Option (Bool)
 | 0,_,_,_ =>none
 | k + 1,x0,x3,x4 =>if x4 < (x3.length:Int) then (if 0≤x4 then (if (rdOf ByteArray.empty x3 x4).toList = x0.toList then (some true) else (r02_Keyword.l0 k x0 x3 (wrap64 (x4 + 1)))) else (none)) else (some false)
def r02_Keyword.f (k:Nat) (a0:ByteArray):Option (Bool):=r02_Keyword.l0 k a0 (([(⟨#[102,117,110]⟩:ByteArray),(⟨#[111,117,116]⟩:ByteArray),(⟨#[114,101,116,117,114,110]⟩:ByteArray),(⟨#[105,102]⟩:ByteArray),(⟨#[101,108,115,101]⟩:ByteArray),(⟨#[119,104,105,108,101]⟩:ByteArray),(⟨#[110,101,119]⟩:ByteArray),(⟨#[112,114,111,116,111]⟩:ByteArray),(⟨#[99,97,108,108]⟩:ByteArray),(⟨#[105,110]⟩:ByteArray),(⟨#[110,117,108,108]⟩:ByteArray),(⟨#[116,114,117,101]⟩:ByteArray),(⟨#[102,97,108,115,101]⟩:ByteArray)]:List ByteArray)) 0
set_option maxHeartbeats 8000000 in
set_option maxRecDepth 100000 in
theorem r02_Keyword.calls (k:Nat) (a0:ByteArray) (r:Bool) (w:World) (h:r02_Keyword.f k a0 = some r) :
    Calls Try.prog 91 #[.string a0] w fun e w' =>e = .returned (.bool r)∧Below w.heap.size w w':=by
 have HB:=a0G.mk (Below.refl w.heap.size w)
 have H:(r02_Keyword.l0 k a0 (([(⟨#[102,117,110]⟩:ByteArray),(⟨#[111,117,116]⟩:ByteArray),(⟨#[114,101,116,117,114,110]⟩:ByteArray),(⟨#[105,102]⟩:ByteArray),(⟨#[101,108,115,101]⟩:ByteArray),(⟨#[119,104,105,108,101]⟩:ByteArray),(⟨#[110,101,119]⟩:ByteArray),(⟨#[112,114,111,116,111]⟩:ByteArray),(⟨#[99,97,108,108]⟩:ByteArray),(⟨#[105,110]⟩:ByteArray),(⟨#[110,117,108,108]⟩:ByteArray),(⟨#[116,114,117,101]⟩:ByteArray),(⟨#[102,97,108,115,101]⟩:ByteArray)]:List ByteArray)) 0) = some r:=h
 clear h
 obtain ⟨y119,hy119⟩:∃ y_:List ByteArray,y_ = (([(⟨#[102,117,110]⟩:ByteArray),(⟨#[111,117,116]⟩:ByteArray),(⟨#[114,101,116,117,114,110]⟩:ByteArray),(⟨#[105,102]⟩:ByteArray),(⟨#[101,108,115,101]⟩:ByteArray),(⟨#[119,104,105,108,101]⟩:ByteArray),(⟨#[110,101,119]⟩:ByteArray),(⟨#[112,114,111,116,111]⟩:ByteArray),(⟨#[99,97,108,108]⟩:ByteArray),(⟨#[105,110]⟩:ByteArray),(⟨#[110,117,108,108]⟩:ByteArray),(⟨#[116,114,117,101]⟩:ByteArray),(⟨#[102,97,108,115,101]⟩:ByteArray)]:List ByteArray)):=⟨_,rfl⟩
 replace H:(r02_Keyword.l0 k a0 y119 0) = some r:=by first | (rw [hy119];with_reducible exact H) | (have H2_:=(Option.bind_some _ _).symm.trans H;rw [hy119];with_reducible exact H2_) | (have H2_:=(Option.bind_some _ _).symm.trans H;with_reducible exact H2_) | with_reducible exact H | (rw [hy119];exact H) | exact H
 have Ny119:=a0G.mk hy119
 clear hy119
 have H':=a0G.mk H
 clear H
 go_enter Try.func91,Try.ntmps91
 go_wp2_with (first | ((with_reducible refine a0P (N:=5) rfl ?_);refine Kd.R_lit Kd.string _ 9 ?hg (N:=5) ?hd (xs:=([(⟨#[102,117,110]⟩:ByteArray),(⟨#[111,117,116]⟩:ByteArray),(⟨#[114,101,116,117,114,110]⟩:ByteArray),(⟨#[105,102]⟩:ByteArray),(⟨#[101,108,115,101]⟩:ByteArray),(⟨#[119,104,105,108,101]⟩:ByteArray),(⟨#[110,101,119]⟩:ByteArray),(⟨#[112,114,111,116,111]⟩:ByteArray),(⟨#[99,97,108,108]⟩:ByteArray),(⟨#[105,110]⟩:ByteArray),(⟨#[110,117,108,108]⟩:ByteArray),(⟨#[116,114,117,101]⟩:ByteArray),(⟨#[102,97,108,115,101]⟩:ByteArray)]:List ByteArray)) (inner:=[.string (⟨#[102,117,110]⟩:ByteArray),.string (⟨#[111,117,116]⟩:ByteArray),.string (⟨#[114,101,116,117,114,110]⟩:ByteArray),.string (⟨#[105,102]⟩:ByteArray),.string (⟨#[101,108,115,101]⟩:ByteArray),.string (⟨#[119,104,105,108,101]⟩:ByteArray),.string (⟨#[110,101,119]⟩:ByteArray),.string (⟨#[112,114,111,116,111]⟩:ByteArray),.string (⟨#[99,97,108,108]⟩:ByteArray),.string (⟨#[105,110]⟩:ByteArray),.string (⟨#[110,117,108,108]⟩:ByteArray),.string (⟨#[116,114,117,101]⟩:ByteArray),.string (⟨#[102,97,108,115,101]⟩:ByteArray)]) (ok:=fun _ =>True) (okp:=fun _ =>True) ?hr ?hp (fun _ hk =>hk) trivial (Below.refl _ _) (Nat.le_refl _) (by simp) ?_;(case hd =>rfl);(case hg =>rfl);(case hr =>first | (go_simp;done) | (go_simp;rfl));(case hp =>exact (Reps.one (show Kd.M Kd.string _ _ _ (⟨#[102,117,110]⟩:ByteArray) [.string (⟨#[102,117,110]⟩:ByteArray)] from rfl) (Reps.one (show Kd.M Kd.string _ _ _ (⟨#[111,117,116]⟩:ByteArray) [.string (⟨#[111,117,116]⟩:ByteArray)] from rfl) (Reps.one (show Kd.M Kd.string _ _ _ (⟨#[114,101,116,117,114,110]⟩:ByteArray) [.string (⟨#[114,101,116,117,114,110]⟩:ByteArray)] from rfl) (Reps.one (show Kd.M Kd.string _ _ _ (⟨#[105,102]⟩:ByteArray) [.string (⟨#[105,102]⟩:ByteArray)] from rfl) (Reps.one (show Kd.M Kd.string _ _ _ (⟨#[101,108,115,101]⟩:ByteArray) [.string (⟨#[101,108,115,101]⟩:ByteArray)] from rfl) (Reps.one (show Kd.M Kd.string _ _ _ (⟨#[119,104,105,108,101]⟩:ByteArray) [.string (⟨#[119,104,105,108,101]⟩:ByteArray)] from rfl) (Reps.one (show Kd.M Kd.string _ _ _ (⟨#[110,101,119]⟩:ByteArray) [.string (⟨#[110,101,119]⟩:ByteArray)] from rfl) (Reps.one (show Kd.M Kd.string _ _ _ (⟨#[112,114,111,116,111]⟩:ByteArray) [.string (⟨#[112,114,111,116,111]⟩:ByteArray)] from rfl) (Reps.one (show Kd.M Kd.string _ _ _ (⟨#[99,97,108,108]⟩:ByteArray) [.string (⟨#[99,97,108,108]⟩:ByteArray)] from rfl) (Reps.one (show Kd.M Kd.string _ _ _ (⟨#[105,110]⟩:ByteArray) [.string (⟨#[105,110]⟩:ByteArray)] from rfl) (Reps.one (show Kd.M Kd.string _ _ _ (⟨#[110,117,108,108]⟩:ByteArray) [.string (⟨#[110,117,108,108]⟩:ByteArray)] from rfl) (Reps.one (show Kd.M Kd.string _ _ _ (⟨#[116,114,117,101]⟩:ByteArray) [.string (⟨#[116,114,117,101]⟩:ByteArray)] from rfl) (Reps.one (show Kd.M Kd.string _ _ _ (⟨#[102,97,108,115,101]⟩:ByteArray) [.string (⟨#[102,97,108,115,101]⟩:ByteArray)] from rfl) (Reps.none _ _)))))))))))))));intro v120 w2 ho3 hb hg_ hnew_;clear hg_ hnew_;(first | rw [← Ny119.out] at ho3 | (simp only [Int.reduceToNat] at ho3;rw [← Ny119.out] at ho3));have bA:=a0G.mk (Kd.a1U ho3 (a0U (by repeat (first | (with_reducible first | exact HB.out | apply a0B | apply a0A | apply a0C) | exact HB.out))));have bC:=a0G.mk (a0E (by repeat (first | (with_reducible first | exact HB.out | apply a0B | apply a0A | apply a0C) | exact HB.out)) hb);clear HB;have HO121:=bA;have HB:=bC;clear bA bC;clear hb ho3))
 go_loopg [4] k (fun kq v4 w' =>∃ (aN:Int),v4 = .int .i64 aN∧a0G (r02_Keyword.l0 kq a0 y119 aN = some r)∧a0G (kq≤k)∧a0G (Kd.R Kd.string 9 w' w.heap.size (fun _ =>True) v120 y119)∧a0G (Below w.heap.size w w'))
 case atStart =>exact ⟨(0),(by first | rfl | (simp;done) | (simp [*];done)),H',⟨Nat.le_refl _⟩,⟨by (with_reducible repeat (first | apply Kd.a1C | apply Kd.a1B | apply Kd.a1I));exact HO121.out⟩,⟨by repeat (first | (with_reducible first | exact HB.out | apply a0B | apply a0A | apply a0C) | exact HB.out)⟩⟩
 case round =>
  clear H'
  try clear p2
  obtain ⟨aN,rfl,HA,HK1,cM,HB⟩:=hrel
  cases gk with
  | zero =>exact absurd HA.out (by simp [r02_Keyword.l0])
  | succ k1 =>
   have H:=HA.out
   clear HA
   simp only [r02_Keyword.l0] at H
   by_cases c4:aN < (y119.length:Int)
   ·rw [if_pos c4] at H
    have c4b0:decide (aN < (y119.length:Int)) = true:=decide_eq_true c4
    clear c4
    by_cases c5:0≤aN
    ·rw [if_pos c5] at H
     have c5b0:decide (0≤aN) = true:=decide_eq_true c5
     clear c5
     by_cases c6:(rdOf ByteArray.empty y119 aN).toList = a0.toList
     ·rw [if_pos c6] at H
      have c6b0:((rdOf ByteArray.empty y119 aN).toList == a0.toList) = true:=beq_iff_eq.mpr c6
      have c6b1:((rdOf ByteArray.empty y119 aN).toList != a0.toList) = false:=bne_eq_false_iff_eq.mpr c6
      clear c6
      obtain rfl:=Option.some.inj H
      obtain ⟨Ao7,co7,eo7⟩:=Kd.a1P cM.out
      subst eo7
      have p122:0≤(aN:Int):=of_decide_eq_true (by first | (with_reducible assumption) | assumption)
      have q122:aN < (y119.length:Int):=of_decide_eq_true (by first | (with_reducible assumption) | assumption)
      obtain ⟨ad122,e122,fG⟩:=Kd.a2D (Kd.a0K cM.out).2.2 aN p122 q122
      cases e122
      replace p122:=eq_true p122
      replace q122:=eq_true q122
      go_wp2
      go_ret
      exact ⟨by first | rfl | (simp [a0O,a0N] <;> rfl) | (simp [*,a0O,a0N] <;> rfl),by repeat (first | (with_reducible first | exact HB.out | apply a0B | apply a0A | apply a0C) | exact HB.out)⟩
     ·rw [if_neg c6] at H
      have c6b0:((rdOf ByteArray.empty y119 aN).toList == a0.toList) = false:=beq_eq_false_iff_ne.mpr c6
      have c6b1:((rdOf ByteArray.empty y119 aN).toList != a0.toList) = true:=bne_iff_ne.mpr c6
      have H':=a0G.mk H
      clear H
      obtain ⟨Ao8,co8,eo8⟩:=Kd.a1P cM.out
      subst eo8
      have p122:0≤(aN:Int):=of_decide_eq_true (by first | (with_reducible assumption) | assumption)
      have q122:aN < (y119.length:Int):=of_decide_eq_true (by first | (with_reducible assumption) | assumption)
      obtain ⟨ad122,e122,fG⟩:=Kd.a2D (Kd.a0K cM.out).2.2 aN p122 q122
      cases e122
      replace p122:=eq_true p122
      replace q122:=eq_true q122
      go_wp2
      go_roundg k1
      case measure =>have:=HK1.out;omega
      case rel =>exact ⟨(wrap64 (aN + 1)),(by first | rfl | (simp;done) | (simp [*];done)),H',⟨by have:=HK1.out;omega⟩,⟨by (with_reducible repeat (first | apply Kd.a1C | apply Kd.a1B | apply Kd.a1I));exact cM.out⟩,⟨by repeat (first | (with_reducible first | exact HB.out | apply a0B | apply a0A | apply a0C) | exact HB.out)⟩⟩
    ·rw [if_neg c5] at H
     exact absurd H (by simp)
   ·rw [if_neg c4] at H
    have c4b0:decide (aN < (y119.length:Int)) = false:=decide_eq_false c4
    clear c4
    obtain rfl:=Option.some.inj H
    obtain ⟨Ao9,co9,eo9⟩:=Kd.a1P cM.out
    subst eo9
    go_wp2
    go_ret
    exact ⟨by first | rfl | (simp [a0O,a0N] <;> rfl) | (simp [*,a0O,a0N] <;> rfl),by repeat (first | (with_reducible first | exact HB.out | apply a0B | apply a0A | apply a0C) | exact HB.out)⟩
def r02_Name.f (k:Nat) (a0:ByteArray):Option (Bool):=(r01_Right.f k 0 a0 0).bind fun t123 =>(if t123 = true then ((r02_Keyword.f k a0).bind fun t124 =>(some (!t124))) else (some false))
set_option maxHeartbeats 8000000 in
set_option maxRecDepth 100000 in
theorem r02_Name.calls (k:Nat) (a0:ByteArray) (r:Bool) (w:World) (h:r02_Name.f k a0 = some r) :
    Calls Try.prog 75 #[.string a0] w fun e w' =>e = .returned (.bool r)∧Below w.heap.size w w':=by
 have hu72:=Try.underlying72
 have HB:=a0G.mk (Below.refl w.heap.size w)
 have H:((r01_Right.f k 0 a0 0).bind fun t123 =>(if t123 = true then ((r02_Keyword.f k a0).bind fun t124 =>(some (!t124))) else (some false))) = some r:=h
 clear h
 replace H:=Option.bind_eq_some_iff.mp H
 obtain ⟨t123,A20,H⟩:=H
 replace H:(if t123 = true then ((r02_Keyword.f k a0).bind fun t124 =>(some (!t124))) else (some false)) = some r:=H
 have A2:=a0G.mk A20
 clear A20
 by_cases c3:t123 = true
 ·subst c3
  have H1:((r02_Keyword.f k a0).bind fun t124 =>(some (!t124))) = some r:=by rw [if_pos rfl] at H;exact H
  clear H
  have H:=H1
  clear H1
  replace H:=Option.bind_eq_some_iff.mp H
  obtain ⟨t124,A40,H⟩:=H
  replace H:(some (!t124)) = some r:=H
  have A4:=a0G.mk A40
  clear A40
  obtain rfl:=Option.some.inj H
  go_enter Try.func75,Try.ntmps75
  go_wp2_with (first | ((with_reducible refine a1F (f:=76) rfl ?_);refine a2M (some 5) rfl rfl Try.func76 (by kernel_rfl) rfl #[.agg #[.int .i64 0,.string a0,.int .i64 0]] rfl (by (try simp only [List.map_toArray,List.map_cons,List.map_nil]);first | done | rfl | (simp only [List.length_drop,List.length_take];rfl)) ?_;(with_reducible refine (r01_Right.calls k 0 a0 0 true _ A2.out).mono ?_);rintro e w5 ⟨rfl,hb⟩;refine ⟨_,rfl,?_⟩;have bA:=a0G.mk (a0E (by repeat (first | (with_reducible first | exact HB.out | apply a0B | apply a0A | apply a0C) | exact HB.out)) hb);clear HB;have HB:=bA;clear bA;(try clear hb);(try clear hb2);(try clear hk);(try clear hi)) | (go_at_call 91;(with_reducible refine (r02_Keyword.calls k a0 t124 _ A4.out).mono ?_);rintro e w6 ⟨rfl,hb⟩;have bA:=a0G.mk (a0E (by repeat (first | (with_reducible first | exact HB.out | apply a0B | apply a0A | apply a0C) | exact HB.out)) hb);clear HB;have HB:=bA;clear bA;(try clear hb);(try clear hb2);(try clear hk);(try clear hi)))
  go_ret
  exact ⟨by first | rfl | (simp [a0O,a0N] <;> rfl) | (simp [*,a0O,a0N] <;> rfl),by repeat (first | (with_reducible first | exact HB.out | apply a0B | apply a0A | apply a0C) | exact HB.out)⟩
 ·replace c3:=Bool.eq_false_iff.mpr c3
  subst c3
  have H1:(some false) = some r:=by rw [if_neg (show ¬ (false = true) by decide)] at H;exact H
  clear H
  have H:=H1
  clear H1
  obtain rfl:=Option.some.inj H
  go_enter Try.func75,Try.ntmps75
  go_wp2_with (first | ((with_reducible refine a1F (f:=76) rfl ?_);refine a2M (some 5) rfl rfl Try.func76 (by kernel_rfl) rfl #[.agg #[.int .i64 0,.string a0,.int .i64 0]] rfl (by (try simp only [List.map_toArray,List.map_cons,List.map_nil]);first | done | rfl | (simp only [List.length_drop,List.length_take];rfl)) ?_;(with_reducible refine (r01_Right.calls k 0 a0 0 false _ A2.out).mono ?_);rintro e w7 ⟨rfl,hb⟩;refine ⟨_,rfl,?_⟩;have bA:=a0G.mk (a0E (by repeat (first | (with_reducible first | exact HB.out | apply a0B | apply a0A | apply a0C) | exact HB.out)) hb);clear HB;have HB:=bA;clear bA;(try clear hb);(try clear hb2);(try clear hk);(try clear hi)))
  go_ret
  exact ⟨by first | rfl | (simp [a0O,a0N] <;> rfl) | (simp [*,a0O,a0N] <;> rfl),by repeat (first | (with_reducible first | exact HB.out | apply a0B | apply a0A | apply a0C) | exact HB.out)⟩
def r02_isName.f (k:Nat) (aG:List (S72)) (aA:Int) (aI:Int) (aV:Int) (aU:Int) (aW:Int):Option (Bool):=(r02_ok.f aG aA aI aV aU aW).bind fun t126 =>(if t126 = true then (if aA < (aG.length:Int) then (if 0≤aA then (if ((a1D aG aA).f0) = 0 then ((r02_Name.f k ((a1D aG aA).f1)).bind fun t129 =>(some t129)) else (some false)) else (none)) else (some false)) else (some false))
set_option maxHeartbeats 8000000 in
set_option maxRecDepth 100000 in
theorem r02_isName.calls (k:Nat) (aZ:Option Addr) (aY:Nat) (aG:List (S72)) (aA:Int) (aI:Int) (aV:Int) (aU:Int) (aW:Int) (r:Bool) (w:World) (bY:Kd.C k72 w aZ aG.length aG) (bZ:aG.length≤aY) (h:r02_isName.f k aG aA aI aV aU aW = some r) :
    Calls Try.prog 59 #[.agg #[.slice aZ aG.length aY,.int .i64 aA,.int .i64 aI,.int .i64 aV,.int .i64 aU,.int .i64 aW]] w fun e w' =>e = .returned (.bool r)∧Below w.heap.size w w':=by
 have hu74:=Try.underlying74
 have bF:=a0G.mk bY
 have bQ:=a0G.mk bZ
 clear bY bZ
 have HB:=a0G.mk (Below.refl w.heap.size w)
 have H:((r02_ok.f aG aA aI aV aU aW).bind fun t126 =>(if t126 = true then (if aA < (aG.length:Int) then (if 0≤aA then (if ((a1D aG aA).f0) = 0 then ((r02_Name.f k ((a1D aG aA).f1)).bind fun t129 =>(some t129)) else (some false)) else (none)) else (some false)) else (some false))) = some r:=h
 clear h
 replace H:=Option.bind_eq_some_iff.mp H
 obtain ⟨t126,A20,H⟩:=H
 replace H:(if t126 = true then (if aA < (aG.length:Int) then (if 0≤aA then (if ((a1D aG aA).f0) = 0 then ((r02_Name.f k ((a1D aG aA).f1)).bind fun t129 =>(some t129)) else (some false)) else (none)) else (some false)) else (some false)) = some r:=H
 have A2:=a0G.mk A20
 clear A20
 by_cases c3:t126 = true
 ·subst c3
  have H1:(if aA < (aG.length:Int) then (if 0≤aA then (if ((a1D aG aA).f0) = 0 then ((r02_Name.f k ((a1D aG aA).f1)).bind fun t129 =>(some t129)) else (some false)) else (none)) else (some false)) = some r:=by rw [if_pos rfl] at H;exact H
  clear H
  have H:=H1
  clear H1
  by_cases c4:aA < (aG.length:Int)
  ·rw [if_pos c4] at H
   have c4b0:decide (aA < (aG.length:Int)) = true:=decide_eq_true c4
   clear c4
   by_cases c5:0≤aA
   ·rw [if_pos c5] at H
    have c5b0:decide (0≤aA) = true:=decide_eq_true c5
    clear c5
    by_cases c6:((a1D aG aA).f0) = 0
    ·rw [if_pos c6] at H
     have c6b0:(((a1D aG aA).f0) == 0) = true:=beq_iff_eq.mpr c6
     have c6b1:(((a1D aG aA).f0) != 0) = false:=bne_eq_false_iff_eq.mpr c6
     clear c6
     replace H:=Option.bind_eq_some_iff.mp H
     obtain ⟨t129,A70,H⟩:=H
     replace H:(some t129) = some r:=H
     have A7:=a0G.mk A70
     clear A70
     obtain rfl:=Option.some.inj H
     go_enter Try.func59,Try.ntmps59
     go_wp2_with (first | ((with_reducible refine a0P (N:=1) rfl ?_);(try (refine a2C (by rfl) ?_;dsimp only));refine a0Q ?hg (N:=1) ?hd (cs:=#[.slice aZ aG.length aY,.int .i64 aA,.int .i64 aI,.int .i64 aV,.int .i64 aU,.int .i64 aW]) (t:=74) ?hr ?_;(case hd =>rfl);(case hg =>rfl);(case hr =>first | (go_simp;done) | (go_simp;rfl));intro aT hg w8 hbox hb;have bA:=a0G.mk (a0E (by repeat (first | (with_reducible first | exact HB.out | apply a0B | apply a0A | apply a0C) | exact HB.out)) hb);have bC:=a0G.mk (hbox);have bH:=a0G.mk ((by rw [hg];exact (a0U (by repeat (first | (with_reducible first | exact HB.out | apply a0B | apply a0A | apply a0C) | exact HB.out))):w.heap.size≤aT));have bR:=a0G.mk ((by rw [hg];exact (a0U (by repeat (first | (with_reducible first | exact HB.out | apply a0B | apply a0A | apply a0C) | exact HB.out))):w.heap.size≤aT));clear HB;have HB:=bA;have aH:=bC;have GW125:=bH;have bP:=bR;clear bA bC bH bR;clear hb hbox hg;have pW:w8.cell? ⟨aT,0,none⟩ = some (.slice aZ aG.length aY):=(a0F aH.out 0).trans rfl;have pX:w8.cell? ⟨aT,1,none⟩ = some (.int .i64 aA):=(a0F aH.out 1).trans rfl;have pY:w8.cell? ⟨aT,2,none⟩ = some (.int .i64 aI):=(a0F aH.out 2).trans rfl;have pZ:w8.cell? ⟨aT,3,none⟩ = some (.int .i64 aV):=(a0F aH.out 3).trans rfl;have qA:w8.cell? ⟨aT,4,none⟩ = some (.int .i64 aU):=(a0F aH.out 4).trans rfl;have qB:w8.cell? ⟨aT,5,none⟩ = some (.int .i64 aW):=(a0F aH.out 5).trans rfl;have qC:=a0D aH.out 0;have qD:=a0D aH.out 1;have qE:=a0D aH.out 2;have qF:=a0D aH.out 3;have qG:=a0D aH.out 4;have qH:=a0D aH.out 5) | ((with_reducible refine a1F (f:=32) rfl ?_);refine a2M (some 4) rfl rfl Try.func32 (by kernel_rfl) rfl #[.agg #[.slice aZ aG.length aY,.int .i64 aA,.int .i64 aI,.int .i64 aV,.int .i64 aU,.int .i64 aW]] rfl (by (try simp only [List.map_toArray,List.map_cons,List.map_nil]);first | done | rfl | (simp only [List.length_drop,List.length_take];rfl)) ?_;(with_reducible refine (r02_ok.calls _ _ aG aA aI aV aU aW true _ ?side1 ?side2 A2.out).mono ?_);(case side1 =>repeat (first | exact (Kd.a0J bF.out HB.out) | (with_reducible refine Kd.a0T ?_ _) | (with_reducible refine Kd.a0S ?_ _) | (with_reducible refine Kd.a1A ?_)));(case side2 =>exact bQ.out);rintro e w10 ⟨rfl,hb⟩;refine ⟨_,rfl,?_⟩;have bA:=a0G.mk (a0V (g:=aT) (o:=.cells #[.slice aZ aG.length aY,.int .i64 aA,.int .i64 aI,.int .i64 aV,.int .i64 aU,.int .i64 aW] 74 (0,0)) (by (with_reducible repeat (first | refine a0Z ?_ _ | refine a1H ?_ | refine a0W ?_ _));exact aH.out) hb);have bC:=a0G.mk (a0E (by repeat (first | (with_reducible first | exact HB.out | apply a0B | apply a0A | apply a0C | refine a0L ?_ bP.out) | exact HB.out)) hb);clear aH;clear HB;have aH:=bA;have HB:=bC;clear bA bC;(try clear hb);(try clear hb2);(try clear hk);(try clear hi);have eU:w10.cell? ⟨aT,0,none⟩ = some (.slice aZ aG.length aY):=(a0F aH.out 0).trans rfl;have eV:w10.cell? ⟨aT,1,none⟩ = some (.int .i64 aA):=(a0F aH.out 1).trans rfl;have eW:w10.cell? ⟨aT,2,none⟩ = some (.int .i64 aI):=(a0F aH.out 2).trans rfl;have eX:w10.cell? ⟨aT,3,none⟩ = some (.int .i64 aV):=(a0F aH.out 3).trans rfl;have eY:w10.cell? ⟨aT,4,none⟩ = some (.int .i64 aU):=(a0F aH.out 4).trans rfl;have eZ:w10.cell? ⟨aT,5,none⟩ = some (.int .i64 aW):=(a0F aH.out 5).trans rfl;have fA:=a0D aH.out 0;have fB:=a0D aH.out 1;have fC:=a0D aH.out 2;have fD:=a0D aH.out 3;have fE:=a0D aH.out 4;have fF:=a0D aH.out 5;have p127:0≤(aA:Int):=of_decide_eq_true (by first | (with_reducible assumption) | assumption);have q127:aA < (aG.length:Int):=of_decide_eq_true (by first | (with_reducible assumption) | assumption);obtain ⟨ad127,e127,bV,bW,bX⟩:=a4S bF.out aA p127 q127;cases e127;replace bV:=a0M HB.out bV;replace bW:=a0M HB.out bW;replace bX:=a0M HB.out bX;replace p127:=eq_true p127;replace q127:=eq_true q127;have p128:0≤(aA:Int):=of_decide_eq_true (by first | (with_reducible assumption) | assumption);have q128:aA < (aG.length:Int):=of_decide_eq_true (by first | (with_reducible assumption) | assumption);obtain ⟨ad128,e128,cI,cJ,cL⟩:=a4S bF.out aA p128 q128;obtain rfl:ad127 = ad128:=(by injection e128);replace cI:=a0M HB.out cI;replace cJ:=a0M HB.out cJ;replace cL:=a0M HB.out cL;replace p128:=eq_true p128;replace q128:=eq_true q128) | (go_at_call 75;(with_reducible refine (r02_Name.calls k ((a1D aG aA).f1) t129 _ A7.out).mono ?_);rintro e w12 ⟨rfl,hb⟩;have bA:=a0G.mk (a0V (g:=aT) (o:=.cells #[.slice (some ad127) aG.length aY,.int .i64 aA,.int .i64 aI,.int .i64 aV,.int .i64 aU,.int .i64 aW] 74 (0,0)) (by (with_reducible repeat (first | refine a0Z ?_ _ | refine a1H ?_ | refine a0W ?_ _));exact aH.out) hb);have bC:=a0G.mk (a0E (by repeat (first | (with_reducible first | exact HB.out | apply a0B | apply a0A | apply a0C | refine a0L ?_ bP.out) | exact HB.out)) hb);clear aH;clear HB;have aH:=bA;have HB:=bC;clear bA bC;(try clear hb);(try clear hb2);(try clear hk);(try clear hi)))
     go_ret
     exact ⟨by first | rfl | (simp [a0O,a0N] <;> rfl) | (simp [*,a0O,a0N] <;> rfl),by repeat (first | (with_reducible first | exact HB.out | apply a0B | apply a0A | apply a0C | refine a0L ?_ bP.out) | exact HB.out)⟩
    ·rw [if_neg c6] at H
     have c6b0:(((a1D aG aA).f0) == 0) = false:=beq_eq_false_iff_ne.mpr c6
     have c6b1:(((a1D aG aA).f0) != 0) = true:=bne_iff_ne.mpr c6
     obtain rfl:=Option.some.inj H
     go_enter Try.func59,Try.ntmps59
     go_wp2_with (first | ((with_reducible refine a0P (N:=1) rfl ?_);(try (refine a2C (by rfl) ?_;dsimp only));refine a0Q ?hg (N:=1) ?hd (cs:=#[.slice aZ aG.length aY,.int .i64 aA,.int .i64 aI,.int .i64 aV,.int .i64 aU,.int .i64 aW]) (t:=74) ?hr ?_;(case hd =>rfl);(case hg =>rfl);(case hr =>first | (go_simp;done) | (go_simp;rfl));intro aT hg w13 hbox hb;have bA:=a0G.mk (a0E (by repeat (first | (with_reducible first | exact HB.out | apply a0B | apply a0A | apply a0C) | exact HB.out)) hb);have bC:=a0G.mk (hbox);have bH:=a0G.mk ((by rw [hg];exact (a0U (by repeat (first | (with_reducible first | exact HB.out | apply a0B | apply a0A | apply a0C) | exact HB.out))):w.heap.size≤aT));have bR:=a0G.mk ((by rw [hg];exact (a0U (by repeat (first | (with_reducible first | exact HB.out | apply a0B | apply a0A | apply a0C) | exact HB.out))):w.heap.size≤aT));clear HB;have HB:=bA;have aH:=bC;have GW125:=bH;have bP:=bR;clear bA bC bH bR;clear hb hbox hg;have nM:w13.cell? ⟨aT,0,none⟩ = some (.slice aZ aG.length aY):=(a0F aH.out 0).trans rfl;have nN:w13.cell? ⟨aT,1,none⟩ = some (.int .i64 aA):=(a0F aH.out 1).trans rfl;have nO:w13.cell? ⟨aT,2,none⟩ = some (.int .i64 aI):=(a0F aH.out 2).trans rfl;have nP:w13.cell? ⟨aT,3,none⟩ = some (.int .i64 aV):=(a0F aH.out 3).trans rfl;have nQ:w13.cell? ⟨aT,4,none⟩ = some (.int .i64 aU):=(a0F aH.out 4).trans rfl;have nS:w13.cell? ⟨aT,5,none⟩ = some (.int .i64 aW):=(a0F aH.out 5).trans rfl;have nT:=a0D aH.out 0;have nU:=a0D aH.out 1;have nV:=a0D aH.out 2;have nW:=a0D aH.out 3;have nX:=a0D aH.out 4;have nY:=a0D aH.out 5) | ((with_reducible refine a1F (f:=32) rfl ?_);refine a2M (some 4) rfl rfl Try.func32 (by kernel_rfl) rfl #[.agg #[.slice aZ aG.length aY,.int .i64 aA,.int .i64 aI,.int .i64 aV,.int .i64 aU,.int .i64 aW]] rfl (by (try simp only [List.map_toArray,List.map_cons,List.map_nil]);first | done | rfl | (simp only [List.length_drop,List.length_take];rfl)) ?_;(with_reducible refine (r02_ok.calls _ _ aG aA aI aV aU aW true _ ?side1 ?side2 A2.out).mono ?_);(case side1 =>repeat (first | exact (Kd.a0J bF.out HB.out) | (with_reducible refine Kd.a0T ?_ _) | (with_reducible refine Kd.a0S ?_ _) | (with_reducible refine Kd.a1A ?_)));(case side2 =>exact bQ.out);rintro e w15 ⟨rfl,hb⟩;refine ⟨_,rfl,?_⟩;have bA:=a0G.mk (a0V (g:=aT) (o:=.cells #[.slice aZ aG.length aY,.int .i64 aA,.int .i64 aI,.int .i64 aV,.int .i64 aU,.int .i64 aW] 74 (0,0)) (by (with_reducible repeat (first | refine a0Z ?_ _ | refine a1H ?_ | refine a0W ?_ _));exact aH.out) hb);have bC:=a0G.mk (a0E (by repeat (first | (with_reducible first | exact HB.out | apply a0B | apply a0A | apply a0C | refine a0L ?_ bP.out) | exact HB.out)) hb);clear aH;clear HB;have aH:=bA;have HB:=bC;clear bA bC;(try clear hb);(try clear hb2);(try clear hk);(try clear hi);have nZ:w15.cell? ⟨aT,0,none⟩ = some (.slice aZ aG.length aY):=(a0F aH.out 0).trans rfl;have oA:w15.cell? ⟨aT,1,none⟩ = some (.int .i64 aA):=(a0F aH.out 1).trans rfl;have oB:w15.cell? ⟨aT,2,none⟩ = some (.int .i64 aI):=(a0F aH.out 2).trans rfl;have oC:w15.cell? ⟨aT,3,none⟩ = some (.int .i64 aV):=(a0F aH.out 3).trans rfl;have oE:w15.cell? ⟨aT,4,none⟩ = some (.int .i64 aU):=(a0F aH.out 4).trans rfl;have oF:w15.cell? ⟨aT,5,none⟩ = some (.int .i64 aW):=(a0F aH.out 5).trans rfl;have oG:=a0D aH.out 0;have oH:=a0D aH.out 1;have oI:=a0D aH.out 2;have oJ:=a0D aH.out 3;have oK:=a0D aH.out 4;have oL:=a0D aH.out 5;have p127:0≤(aA:Int):=of_decide_eq_true (by first | (with_reducible assumption) | assumption);have q127:aA < (aG.length:Int):=of_decide_eq_true (by first | (with_reducible assumption) | assumption);obtain ⟨ad127,e127,bV,bW,bX⟩:=a4S bF.out aA p127 q127;cases e127;replace bV:=a0M HB.out bV;replace bW:=a0M HB.out bW;replace bX:=a0M HB.out bX;replace p127:=eq_true p127;replace q127:=eq_true q127))
     go_ret
     exact ⟨by first | rfl | (simp [a0O,a0N] <;> rfl) | (simp [*,a0O,a0N] <;> rfl),by repeat (first | (with_reducible first | exact HB.out | apply a0B | apply a0A | apply a0C | refine a0L ?_ bP.out) | exact HB.out)⟩
   ·rw [if_neg c5] at H
    exact absurd H (by simp)
  ·rw [if_neg c4] at H
   have c4b0:decide (aA < (aG.length:Int)) = false:=decide_eq_false c4
   clear c4
   obtain rfl:=Option.some.inj H
   go_enter Try.func59,Try.ntmps59
   go_wp2_with (first | ((with_reducible refine a0P (N:=1) rfl ?_);(try (refine a2C (by rfl) ?_;dsimp only));refine a0Q ?hg (N:=1) ?hd (cs:=#[.slice aZ aG.length aY,.int .i64 aA,.int .i64 aI,.int .i64 aV,.int .i64 aU,.int .i64 aW]) (t:=74) ?hr ?_;(case hd =>rfl);(case hg =>rfl);(case hr =>first | (go_simp;done) | (go_simp;rfl));intro aT hg w17 hbox hb;have bA:=a0G.mk (a0E (by repeat (first | (with_reducible first | exact HB.out | apply a0B | apply a0A | apply a0C) | exact HB.out)) hb);have bC:=a0G.mk (hbox);have bH:=a0G.mk ((by rw [hg];exact (a0U (by repeat (first | (with_reducible first | exact HB.out | apply a0B | apply a0A | apply a0C) | exact HB.out))):w.heap.size≤aT));have bR:=a0G.mk ((by rw [hg];exact (a0U (by repeat (first | (with_reducible first | exact HB.out | apply a0B | apply a0A | apply a0C) | exact HB.out))):w.heap.size≤aT));clear HB;have HB:=bA;have aH:=bC;have GW125:=bH;have bP:=bR;clear bA bC bH bR;clear hb hbox hg;have oM:w17.cell? ⟨aT,0,none⟩ = some (.slice aZ aG.length aY):=(a0F aH.out 0).trans rfl;have oN:w17.cell? ⟨aT,1,none⟩ = some (.int .i64 aA):=(a0F aH.out 1).trans rfl;have oO:w17.cell? ⟨aT,2,none⟩ = some (.int .i64 aI):=(a0F aH.out 2).trans rfl;have oP:w17.cell? ⟨aT,3,none⟩ = some (.int .i64 aV):=(a0F aH.out 3).trans rfl;have oQ:w17.cell? ⟨aT,4,none⟩ = some (.int .i64 aU):=(a0F aH.out 4).trans rfl;have oR:w17.cell? ⟨aT,5,none⟩ = some (.int .i64 aW):=(a0F aH.out 5).trans rfl;have oS:=a0D aH.out 0;have oT:=a0D aH.out 1;have oU:=a0D aH.out 2;have oV:=a0D aH.out 3;have oW:=a0D aH.out 4;have oX:=a0D aH.out 5) | ((with_reducible refine a1F (f:=32) rfl ?_);refine a2M (some 4) rfl rfl Try.func32 (by kernel_rfl) rfl #[.agg #[.slice aZ aG.length aY,.int .i64 aA,.int .i64 aI,.int .i64 aV,.int .i64 aU,.int .i64 aW]] rfl (by (try simp only [List.map_toArray,List.map_cons,List.map_nil]);first | done | rfl | (simp only [List.length_drop,List.length_take];rfl)) ?_;(with_reducible refine (r02_ok.calls _ _ aG aA aI aV aU aW true _ ?side1 ?side2 A2.out).mono ?_);(case side1 =>repeat (first | exact (Kd.a0J bF.out HB.out) | (with_reducible refine Kd.a0T ?_ _) | (with_reducible refine Kd.a0S ?_ _) | (with_reducible refine Kd.a1A ?_)));(case side2 =>exact bQ.out);rintro e w19 ⟨rfl,hb⟩;refine ⟨_,rfl,?_⟩;have bA:=a0G.mk (a0V (g:=aT) (o:=.cells #[.slice aZ aG.length aY,.int .i64 aA,.int .i64 aI,.int .i64 aV,.int .i64 aU,.int .i64 aW] 74 (0,0)) (by (with_reducible repeat (first | refine a0Z ?_ _ | refine a1H ?_ | refine a0W ?_ _));exact aH.out) hb);have bC:=a0G.mk (a0E (by repeat (first | (with_reducible first | exact HB.out | apply a0B | apply a0A | apply a0C | refine a0L ?_ bP.out) | exact HB.out)) hb);clear aH;clear HB;have aH:=bA;have HB:=bC;clear bA bC;(try clear hb);(try clear hb2);(try clear hk);(try clear hi);have dE:w19.cell? ⟨aT,0,none⟩ = some (.slice aZ aG.length aY):=(a0F aH.out 0).trans rfl;have dF:w19.cell? ⟨aT,1,none⟩ = some (.int .i64 aA):=(a0F aH.out 1).trans rfl;have dG:w19.cell? ⟨aT,2,none⟩ = some (.int .i64 aI):=(a0F aH.out 2).trans rfl;have oY:w19.cell? ⟨aT,3,none⟩ = some (.int .i64 aV):=(a0F aH.out 3).trans rfl;have oZ:w19.cell? ⟨aT,4,none⟩ = some (.int .i64 aU):=(a0F aH.out 4).trans rfl;have pA:w19.cell? ⟨aT,5,none⟩ = some (.int .i64 aW):=(a0F aH.out 5).trans rfl;have dH:=a0D aH.out 0;have dI:=a0D aH.out 1;have dJ:=a0D aH.out 2;have pB:=a0D aH.out 3;have pC:=a0D aH.out 4;have pD:=a0D aH.out 5))
   go_ret
   exact ⟨by first | rfl | (simp [a0O,a0N] <;> rfl) | (simp [*,a0O,a0N] <;> rfl),by repeat (first | (with_reducible first | exact HB.out | apply a0B | apply a0A | apply a0C | refine a0L ?_ bP.out) | exact HB.out)⟩
 ·replace c3:=Bool.eq_false_iff.mpr c3
  subst c3
  have H1:(some false) = some r:=by rw [if_neg (show ¬ (false = true) by decide)] at H;exact H
  clear H
  have H:=H1
  clear H1
  obtain rfl:=Option.some.inj H
  go_enter Try.func59,Try.ntmps59
  go_wp2_with (first | ((with_reducible refine a0P (N:=1) rfl ?_);(try (refine a2C (by rfl) ?_;dsimp only));refine a0Q ?hg (N:=1) ?hd (cs:=#[.slice aZ aG.length aY,.int .i64 aA,.int .i64 aI,.int .i64 aV,.int .i64 aU,.int .i64 aW]) (t:=74) ?hr ?_;(case hd =>rfl);(case hg =>rfl);(case hr =>first | (go_simp;done) | (go_simp;rfl));intro aT hg w21 hbox hb;have bA:=a0G.mk (a0E (by repeat (first | (with_reducible first | exact HB.out | apply a0B | apply a0A | apply a0C) | exact HB.out)) hb);have bC:=a0G.mk (hbox);have bH:=a0G.mk ((by rw [hg];exact (a0U (by repeat (first | (with_reducible first | exact HB.out | apply a0B | apply a0A | apply a0C) | exact HB.out))):w.heap.size≤aT));have bR:=a0G.mk ((by rw [hg];exact (a0U (by repeat (first | (with_reducible first | exact HB.out | apply a0B | apply a0A | apply a0C) | exact HB.out))):w.heap.size≤aT));clear HB;have HB:=bA;have aH:=bC;have GW125:=bH;have bP:=bR;clear bA bC bH bR;clear hb hbox hg;have dQ:w21.cell? ⟨aT,0,none⟩ = some (.slice aZ aG.length aY):=(a0F aH.out 0).trans rfl;have dR:w21.cell? ⟨aT,1,none⟩ = some (.int .i64 aA):=(a0F aH.out 1).trans rfl;have dS:w21.cell? ⟨aT,2,none⟩ = some (.int .i64 aI):=(a0F aH.out 2).trans rfl;have pE:w21.cell? ⟨aT,3,none⟩ = some (.int .i64 aV):=(a0F aH.out 3).trans rfl;have pF:w21.cell? ⟨aT,4,none⟩ = some (.int .i64 aU):=(a0F aH.out 4).trans rfl;have pG:w21.cell? ⟨aT,5,none⟩ = some (.int .i64 aW):=(a0F aH.out 5).trans rfl;have dT:=a0D aH.out 0;have dU:=a0D aH.out 1;have dV:=a0D aH.out 2;have pH:=a0D aH.out 3;have pI:=a0D aH.out 4;have pJ:=a0D aH.out 5) | ((with_reducible refine a1F (f:=32) rfl ?_);refine a2M (some 4) rfl rfl Try.func32 (by kernel_rfl) rfl #[.agg #[.slice aZ aG.length aY,.int .i64 aA,.int .i64 aI,.int .i64 aV,.int .i64 aU,.int .i64 aW]] rfl (by (try simp only [List.map_toArray,List.map_cons,List.map_nil]);first | done | rfl | (simp only [List.length_drop,List.length_take];rfl)) ?_;(with_reducible refine (r02_ok.calls _ _ aG aA aI aV aU aW false _ ?side1 ?side2 A2.out).mono ?_);(case side1 =>repeat (first | exact (Kd.a0J bF.out HB.out) | (with_reducible refine Kd.a0T ?_ _) | (with_reducible refine Kd.a0S ?_ _) | (with_reducible refine Kd.a1A ?_)));(case side2 =>exact bQ.out);rintro e w23 ⟨rfl,hb⟩;refine ⟨_,rfl,?_⟩;have bA:=a0G.mk (a0V (g:=aT) (o:=.cells #[.slice aZ aG.length aY,.int .i64 aA,.int .i64 aI,.int .i64 aV,.int .i64 aU,.int .i64 aW] 74 (0,0)) (by (with_reducible repeat (first | refine a0Z ?_ _ | refine a1H ?_ | refine a0W ?_ _));exact aH.out) hb);have bC:=a0G.mk (a0E (by repeat (first | (with_reducible first | exact HB.out | apply a0B | apply a0A | apply a0C | refine a0L ?_ bP.out) | exact HB.out)) hb);clear aH;clear HB;have aH:=bA;have HB:=bC;clear bA bC;(try clear hb);(try clear hb2);(try clear hk);(try clear hi)))
  go_ret
  exact ⟨by first | rfl | (simp [a0O,a0N] <;> rfl) | (simp [*,a0O,a0N] <;> rfl),by repeat (first | (with_reducible first | exact HB.out | apply a0B | apply a0A | apply a0C | refine a0L ?_ bP.out) | exact HB.out)⟩
def r01_Blank.f (a0:Int):Option (Bool):=if a0 = 9 then (some true) else (if a0 = 10 then (some true) else (if a0 = 13 then (some true) else (some (a0 == 32))))
set_option maxHeartbeats 8000000 in
set_option maxRecDepth 100000 in
theorem r01_Blank.calls (a0:Int) (r:Bool) (w:World) (h:r01_Blank.f a0 = some r) :
    Calls Try.prog 27 #[.int .u8 a0] w fun e w' =>e = .returned (.bool r)∧a0Y w w':=by
 have H:(if a0 = 9 then (some true) else (if a0 = 10 then (some true) else (if a0 = 13 then (some true) else (some (a0 == 32))))) = some r:=h
 clear h
 by_cases c2:a0 = 9
 ·rw [if_pos c2] at H
  have c2b0:(a0 == 9) = true:=beq_iff_eq.mpr c2
  have c2b1:(a0 != 9) = false:=bne_eq_false_iff_eq.mpr c2
  clear c2
  obtain rfl:=Option.some.inj H
  go_enter Try.func27,Try.ntmps27
  go_wp2
  go_ret
  exact ⟨by first | rfl | (simp;done) | (simp [*];done),by repeat (first | exact a0Y.refl _ | apply a0Y.step)⟩
 ·rw [if_neg c2] at H
  have c2b0:(a0 == 9) = false:=beq_eq_false_iff_ne.mpr c2
  have c2b1:(a0 != 9) = true:=bne_iff_ne.mpr c2
  by_cases c3:a0 = 10
  ·rw [if_pos c3] at H
   have c3b0:(a0 == 10) = true:=beq_iff_eq.mpr c3
   have c3b1:(a0 != 10) = false:=bne_eq_false_iff_eq.mpr c3
   clear c3
   obtain rfl:=Option.some.inj H
   go_enter Try.func27,Try.ntmps27
   go_wp2
   go_ret
   exact ⟨by first | rfl | (simp;done) | (simp [*];done),by repeat (first | exact a0Y.refl _ | apply a0Y.step)⟩
  ·rw [if_neg c3] at H
   have c3b0:(a0 == 10) = false:=beq_eq_false_iff_ne.mpr c3
   have c3b1:(a0 != 10) = true:=bne_iff_ne.mpr c3
   by_cases c4:a0 = 13
   ·rw [if_pos c4] at H
    have c4b0:(a0 == 13) = true:=beq_iff_eq.mpr c4
    have c4b1:(a0 != 13) = false:=bne_eq_false_iff_eq.mpr c4
    clear c4
    obtain rfl:=Option.some.inj H
    go_enter Try.func27,Try.ntmps27
    go_wp2
    go_ret
    exact ⟨by first | rfl | (simp;done) | (simp [*];done),by repeat (first | exact a0Y.refl _ | apply a0Y.step)⟩
   ·rw [if_neg c4] at H
    have c4b0:(a0 == 13) = false:=beq_eq_false_iff_ne.mpr c4
    have c4b1:(a0 != 13) = true:=bne_iff_ne.mpr c4
    obtain rfl:=Option.some.inj H
    go_enter Try.func27,Try.ntmps27
    go_wp2
    go_ret
    exact ⟨by first | rfl | (simp;done) | (simp [*];done),by repeat (first | exact a0Y.refl _ | apply a0Y.step)⟩
mutual
def r01_Lex.l0:Nat→ByteArray→List (S72)→Int→Option ((List (S72)) × Int × Int)
 | 0,_,_,_ =>none
 | k + 1,x0,x4,x5 =>if x5 < (x0.size:Int) then (if 0≤x5 then ((r01_Blank.f (bt x0 x5)).bind fun t134 =>(if t134 = true then (r01_Lex.l0 k x0 x4 (wrap64 (x5 + 1))) else (if (bt x0 x5) = 35 then (none) else ((r01_Letter.f (bt x0 x5)).bind fun t135 =>(if t135 = true then (r01_Lex.l1 k x0 x4 x5 (wrap64 (x5 + 1)) 0) else ((r01_Digit.f (bt x0 x5)).bind fun t143 =>(if t143 = true then (r01_Lex.l2 k x0 x4 x5 (wrap64 (x5 + 1)) 1) else ((r01_Sign.f k (bt x0 x5)).bind fun t149 =>(if t149 = true then (if x5≤(wrap64 (x5 + 1)) then (if (wrap64 (x5 + 1))≤(x0.size:Int) then (if x4.length < 4398046511104 then (r01_Lex.l0 k x0 (x4 ++ [(⟨2,x0.extract (x5:Int).toNat ((wrap64 (x5 + 1)):Int).toNat,x5⟩:S72)]) (wrap64 (x5 + 1))) else (none)) else (none)) else (none)) else (none)))))))))) else (none)) else (some (x4,0,0))
def r01_Lex.l1:Nat→ByteArray→List (S72)→Int→Int→Int→Option ((List (S72)) × Int × Int)
 | 0,_,_,_,_,_ =>none
 | k + 1,x0,x4,x5,x7,x8 =>if x7 < (x0.size:Int) then (if 0≤x7 then ((r01_Inner.f (bt x0 x7)).bind fun t136 =>(if t136 = true then (r01_Lex.l1 k x0 x4 x5 (wrap64 (x7 + 1)) x8) else (if 0≤x5 then (if x5≤x7 then (if x7≤(x0.size:Int) then (if x4.length < 4398046511104 then (r01_Lex.l0 k x0 (x4 ++ [(⟨x8,x0.extract (x5:Int).toNat (x7:Int).toNat,x5⟩:S72)]) x7) else (none)) else (none)) else (none)) else (none)))) else (none)) else (if 0≤x5 then (if x5≤x7 then (if x7≤(x0.size:Int) then (if x4.length < 4398046511104 then (r01_Lex.l0 k x0 (x4 ++ [(⟨x8,x0.extract (x5:Int).toNat (x7:Int).toNat,x5⟩:S72)]) x7) else (none)) else (none)) else (none)) else (none))
def r01_Lex.l2:Nat→ByteArray→List (S72)→Int→Int→Int→Option ((List (S72)) × Int × Int)
 | 0,_,_,_,_,_ =>none
 | k + 1,x0,x4,x5,x7,x8 =>if x7 < (x0.size:Int) then (if 0≤x7 then ((r01_Inner.f (bt x0 x7)).bind fun t144 =>(r01_Lex.j3 k x0 x4 x5 x7 x8 t144)) else (none)) else (r01_Lex.j3 k x0 x4 x5 x7 x8 false)
def r01_Lex.j3:Nat→ByteArray→List (S72)→Int→Int→Int→Bool→Option ((List (S72)) × Int × Int)
 | 0,_,_,_,_,_,_ =>none
 | k + 1,x0,x4,x5,x7,x8,x66 =>if x66 = true then (if 0≤x7 then (if x7 < (x0.size:Int) then ((r01_Digit.f (bt x0 x7)).bind fun t145 =>(if t145 = true then (r01_Lex.l2 k x0 x4 x5 (wrap64 (x7 + 1)) x8) else (none))) else (none)) else (none)) else (if (wrap64 (x7 - x5)) > 9 then (none) else (if 0≤x5 then (if x5≤x7 then (if x7≤(x0.size:Int) then (if x4.length < 4398046511104 then (r01_Lex.l0 k x0 (x4 ++ [(⟨x8,x0.extract (x5:Int).toNat (x7:Int).toNat,x5⟩:S72)]) x7) else (none)) else (none)) else (none)) else (none)))
end
def r01_Lex.f (k:Nat) (a0:ByteArray):Option ((List (S72)) × Int × Int):=if (a0.size:Int) > 65536 then (none) else (r01_Lex.l0 k a0 (([]:List (S72))) 0)
set_option maxHeartbeats 8000000 in
set_option maxRecDepth 100000 in
theorem r01_Lex.calls (k:Nat) (a0:ByteArray) (r1:List (S72)) (r2:Int) (r3:Int) (w:World) (h:r01_Lex.f k a0 = some (r1,r2,r3)) :
    Calls Try.prog 15 #[.string a0] w fun e w' =>∃ v0_:Value,e = .returned (.tuple #[v0_,.agg #[.int .i64 r2,.int .i64 r3]])∧Kd.R k72 72 w' w.heap.size (fun _ =>True) v0_ r1∧Below w.heap.size w w':=by
 have hu33:=Try.underlying33
 have hu72:=Try.underlying72
 have HB:=a0G.mk (Below.refl w.heap.size w)
 have H:(if (a0.size:Int) > 65536 then (none) else (r01_Lex.l0 k a0 (([]:List (S72))) 0)) = some (r1,r2,r3):=h
 clear h
 by_cases c2:(a0.size:Int) > 65536
 ·rw [if_pos c2] at H
  exact absurd H (by simp)
 ·rw [if_neg c2] at H
  have c2b0:decide (65536 < (a0.size:Int)) = false:=decide_eq_false c2
  have c2b1:decide (65536 < a0.size) = false:=decide_eq_false (by omega)
  clear c2
  obtain ⟨y131,hy131⟩:∃ y_:List (S72),y_ = (([]:List (S72))):=⟨_,rfl⟩
  replace H:(r01_Lex.l0 k a0 y131 0) = some (r1,r2,r3):=by first | (rw [hy131];with_reducible exact H) | (have H2_:=(Option.bind_some _ _).symm.trans H;rw [hy131];with_reducible exact H2_) | (have H2_:=(Option.bind_some _ _).symm.trans H;with_reducible exact H2_) | with_reducible exact H | (rw [hy131];exact H) | exact H
  have Ny131:=a0G.mk hy131
  clear hy131
  have H':=a0G.mk H
  clear H
  go_enter Try.func15,Try.ntmps15
  go_wp2_with (first | ((with_reducible refine a0P (N:=3) rfl ?_);refine a0Q ?hg (N:=3) ?hd (cs:=#[.int .i64 0,.int .i64 0]) (t:=33) ?hr ?_;(case hd =>rfl);(case hg =>rfl);(case hr =>first | (go_simp;done) | (go_simp;rfl));intro bI hg w3 hbox hb;have bA:=a0G.mk (a0E (by repeat (first | (with_reducible first | exact HB.out | apply a0B | apply a0A | apply a0C) | exact HB.out)) hb);have bC:=a0G.mk (hbox);have bH:=a0G.mk ((by rw [hg];exact (a0U (by repeat (first | (with_reducible first | exact HB.out | apply a0B | apply a0A | apply a0C) | exact HB.out))):w.heap.size≤bI));have bR:=a0G.mk ((by rw [hg];exact (a0U (by repeat (first | (with_reducible first | exact HB.out | apply a0B | apply a0A | apply a0C) | exact HB.out))):w.heap.size≤bI));clear HB;have HB:=bA;have aX:=bC;have GW130:=bH;have bE:=bR;clear bA bC bH bR;clear hb hbox hg) | ((with_reducible refine a0P (N:=13) rfl ?_);refine Kd.R_lit k72 _ 72 ?hg (N:=13) ?hd (xs:=([]:List (S72))) (inner:=[]) (ok:=fun _ =>True) (okp:=fun _ =>True) ?hr ?hp (fun _ hk =>hk) trivial (Below.refl _ _) (Nat.le_refl _) (by simp) ?_;(case hd =>rfl);(case hg =>rfl);(case hr =>first | (go_simp;done) | (go_simp;rfl));(case hp =>exact (Reps.none _ _));intro v132 w4 ho5 hb hg_ hnew_;clear hg_ hnew_;(first | rw [← Ny131.out] at ho5 | (simp only [Int.reduceToNat] at ho5;rw [← Ny131.out] at ho5));have bA:=a0G.mk (Kd.a1U ho5 (a0U (by repeat (first | (with_reducible first | exact HB.out | apply a0B | apply a0A | apply a0C | refine a0L ?_ bE.out) | exact HB.out))));have bC:=a0G.mk (a0V (g:=bI) (o:=.cells #[.int .i64 0,.int .i64 0] 33 (0,0)) (by (with_reducible repeat (first | refine a0Z ?_ _ | refine a1H ?_ | refine a0W ?_ _));exact aX.out) hb);have bH:=a0G.mk (a0E (by repeat (first | (with_reducible first | exact HB.out | apply a0B | apply a0A | apply a0C | refine a0L ?_ bE.out) | exact HB.out)) hb);clear aX;clear HB;have HO133:=bA;have aX:=bC;have HB:=bH;clear bA bC bH;clear hb ho5))
  go_loopg [4,5] k (fun kq v4 v5 w' =>∃ (aN:List (S72)) (aD:Int),v5 = .int .i64 aD∧a0G (r01_Lex.l0 kq a0 aN aD = some (r1,r2,r3))∧a0G (kq≤k)∧a0G (Kd.R k72 72 w' w.heap.size (fun _ =>True) v4 aN)∧a0G (w'.heap[bI]? = some (.cells #[.int .i64 0,.int .i64 0] 33 (0,0)))∧a0G (Below w.heap.size w w'))
  case atStart =>exact ⟨(y131),(0),(by first | rfl | (simp;done) | (simp [*];done)),H',⟨Nat.le_refl _⟩,⟨by (with_reducible repeat (first | apply Kd.a1C | apply Kd.a1B | apply Kd.a1I));exact HO133.out⟩,⟨by (with_reducible repeat (first | refine a0Z ?_ _ | refine a1H ?_ | refine a0W ?_ _));exact aX.out⟩,⟨by repeat (first | (with_reducible first | exact HB.out | apply a0B | apply a0A | apply a0C | refine a0L ?_ bE.out) | exact HB.out)⟩⟩
  case round =>
   clear H'
   try clear c1
   try clear c2
   try clear c2b0
   try clear c2b1
   try clear p2
   obtain ⟨aN,aD,rfl,HA,HK1,bJ,aX,HB⟩:=hrel
   cases gk with
   | zero =>exact absurd HA.out (by simp [r01_Lex.l0])
   | succ k1 =>
    have H:=HA.out
    clear HA
    simp only [r01_Lex.l0] at H
    by_cases c6:aD < (a0.size:Int)
    ·rw [if_pos c6] at H
     have c6b0:decide (aD < (a0.size:Int)) = true:=decide_eq_true c6
     clear c6
     by_cases c7:0≤aD
     ·rw [if_pos c7] at H
      have c7b0:decide (0≤aD) = true:=decide_eq_true c7
      clear c7
      replace H:=Option.bind_eq_some_iff.mp H
      obtain ⟨t134,A90,H⟩:=H
      replace H:(if t134 = true then (r01_Lex.l0 k1 a0 aN (wrap64 (aD + 1))) else (if (bt a0 aD) = 35 then (none) else ((r01_Letter.f (bt a0 aD)).bind fun t135 =>(if t135 = true then (r01_Lex.l1 k1 a0 aN aD (wrap64 (aD + 1)) 0) else ((r01_Digit.f (bt a0 aD)).bind fun t143 =>(if t143 = true then (r01_Lex.l2 k1 a0 aN aD (wrap64 (aD + 1)) 1) else ((r01_Sign.f k1 (bt a0 aD)).bind fun t149 =>(if t149 = true then (if aD≤(wrap64 (aD + 1)) then (if (wrap64 (aD + 1))≤(a0.size:Int) then (if aN.length < 4398046511104 then (r01_Lex.l0 k1 a0 (aN ++ [(⟨2,a0.extract (aD:Int).toNat ((wrap64 (aD + 1)):Int).toNat,aD⟩:S72)]) (wrap64 (aD + 1))) else (none)) else (none)) else (none)) else (none))))))))) = some (r1,r2,r3):=H
      have A9:=a0G.mk A90
      clear A90
      by_cases c10:t134 = true
      ·subst c10
       have H1:(r01_Lex.l0 k1 a0 aN (wrap64 (aD + 1))) = some (r1,r2,r3):=by rw [if_pos rfl] at H;exact H
       clear H
       have H:=H1
       clear H1
       have H':=a0G.mk H
       clear H
       have p8:0≤(aD:Int):=of_decide_eq_true (by first | (with_reducible assumption) | assumption)
       have q8:aD < (a0.size:Int):=of_decide_eq_true (by first | (with_reducible assumption) | assumption)
       have hx8:=a3O a0 aD
       replace p8:=eq_true p8
       replace q8:=eq_true q8
       go_wp2_with (first | ((with_reducible refine a1F (f:=27) rfl ?_);refine a2M (some 22) rfl rfl Try.func27 (by kernel_rfl) rfl #[.int .u8 (bt a0 aD)] rfl (by (try simp only [List.map_toArray,List.map_cons,List.map_nil]);first | done | rfl | (simp only [List.length_drop,List.length_take];rfl)) ?_;(with_reducible refine (r01_Blank.calls (bt a0 aD) true _ A9.out).mono ?_);rintro e w' ⟨rfl,⟨nd,rfl⟩⟩;refine ⟨_,rfl,?_⟩))
       go_roundg k1
       case measure =>have:=HK1.out;omega
       case rel =>exact ⟨(aN),(wrap64 (aD + 1)),(by first | rfl | (simp;done) | (simp [*];done)),H',⟨by have:=HK1.out;omega⟩,⟨by (with_reducible repeat (first | apply Kd.a1C | apply Kd.a1B | apply Kd.a1I));exact bJ.out⟩,⟨by (with_reducible repeat (first | refine a0Z ?_ _ | refine a1H ?_ | refine a0W ?_ _));exact aX.out⟩,⟨by repeat (first | (with_reducible first | exact HB.out | apply a0B | apply a0A | apply a0C | refine a0L ?_ bE.out) | exact HB.out)⟩⟩
      ·replace c10:=Bool.eq_false_iff.mpr c10
       subst c10
       have H1:(if (bt a0 aD) = 35 then (none) else ((r01_Letter.f (bt a0 aD)).bind fun t135 =>(if t135 = true then (r01_Lex.l1 k1 a0 aN aD (wrap64 (aD + 1)) 0) else ((r01_Digit.f (bt a0 aD)).bind fun t143 =>(if t143 = true then (r01_Lex.l2 k1 a0 aN aD (wrap64 (aD + 1)) 1) else ((r01_Sign.f k1 (bt a0 aD)).bind fun t149 =>(if t149 = true then (if aD≤(wrap64 (aD + 1)) then (if (wrap64 (aD + 1))≤(a0.size:Int) then (if aN.length < 4398046511104 then (r01_Lex.l0 k1 a0 (aN ++ [(⟨2,a0.extract (aD:Int).toNat ((wrap64 (aD + 1)):Int).toNat,aD⟩:S72)]) (wrap64 (aD + 1))) else (none)) else (none)) else (none)) else (none)))))))) = some (r1,r2,r3):=by rw [if_neg (show ¬ (false = true) by decide)] at H;exact H
       clear H
       have H:=H1
       clear H1
       by_cases c11:(bt a0 aD) = 35
       ·rw [if_pos c11] at H
        exact absurd H (by simp)
       ·rw [if_neg c11] at H
        have c11b0:((bt a0 aD) == 35) = false:=beq_eq_false_iff_ne.mpr c11
        have c11b1:((bt a0 aD) != 35) = true:=bne_iff_ne.mpr c11
        replace H:=Option.bind_eq_some_iff.mp H
        obtain ⟨t135,A120,H⟩:=H
        replace H:(if t135 = true then (r01_Lex.l1 k1 a0 aN aD (wrap64 (aD + 1)) 0) else ((r01_Digit.f (bt a0 aD)).bind fun t143 =>(if t143 = true then (r01_Lex.l2 k1 a0 aN aD (wrap64 (aD + 1)) 1) else ((r01_Sign.f k1 (bt a0 aD)).bind fun t149 =>(if t149 = true then (if aD≤(wrap64 (aD + 1)) then (if (wrap64 (aD + 1))≤(a0.size:Int) then (if aN.length < 4398046511104 then (r01_Lex.l0 k1 a0 (aN ++ [(⟨2,a0.extract (aD:Int).toNat ((wrap64 (aD + 1)):Int).toNat,aD⟩:S72)]) (wrap64 (aD + 1))) else (none)) else (none)) else (none)) else (none)))))) = some (r1,r2,r3):=H
        have A12:=a0G.mk A120
        clear A120
        by_cases c13:t135 = true
        ·subst c13
         have H1:(r01_Lex.l1 k1 a0 aN aD (wrap64 (aD + 1)) 0) = some (r1,r2,r3):=by rw [if_pos rfl] at H;exact H
         clear H
         have H:=H1
         clear H1
         have H':=a0G.mk H
         clear H
         have p8:0≤(aD:Int):=of_decide_eq_true (by first | (with_reducible assumption) | assumption)
         have q8:aD < (a0.size:Int):=of_decide_eq_true (by first | (with_reducible assumption) | assumption)
         have hx8:=a3O a0 aD
         replace p8:=eq_true p8
         replace q8:=eq_true q8
         go_wp2_with (first | ((with_reducible refine a1F (f:=27) rfl ?_);refine a2M (some 22) rfl rfl Try.func27 (by kernel_rfl) rfl #[.int .u8 (bt a0 aD)] rfl (by (try simp only [List.map_toArray,List.map_cons,List.map_nil]);first | done | rfl | (simp only [List.length_drop,List.length_take];rfl)) ?_;(with_reducible refine (r01_Blank.calls (bt a0 aD) false _ A9.out).mono ?_);rintro e w' ⟨rfl,⟨nd,rfl⟩⟩;refine ⟨_,rfl,?_⟩) | ((with_reducible refine a1F (f:=28) rfl ?_);refine a2M (some 42) rfl rfl Try.func28 (by kernel_rfl) rfl #[.int .u8 (bt a0 aD)] rfl (by (try simp only [List.map_toArray,List.map_cons,List.map_nil]);first | done | rfl | (simp only [List.length_drop,List.length_take];rfl)) ?_;(with_reducible refine (r01_Letter.calls (bt a0 aD) true _ A12.out).mono ?_);rintro e w' ⟨rfl,⟨nd,rfl⟩⟩;refine ⟨_,rfl,?_⟩))
         go_loopg [7] k1 (fun kq v7 w' =>∃ (aR:Int),v7 = .int .i64 aR∧a0G (r01_Lex.l1 kq a0 aN aD aR 0 = some (r1,r2,r3))∧a0G (kq≤k1)∧a0G (Kd.R k72 72 w' w.heap.size (fun _ =>True) u4 aN)∧a0G (w'.heap[bI]? = some (.cells #[.int .i64 0,.int .i64 0] 33 (0,0)))∧a0G (Below w.heap.size w w'))
         case atStart =>exact ⟨(wrap64 (aD + 1)),(by first | rfl | (simp;done) | (simp [*];done)),H',⟨Nat.le_refl _⟩,⟨by (with_reducible repeat (first | apply Kd.a1C | apply Kd.a1B | apply Kd.a1I));exact bJ.out⟩,⟨by (with_reducible repeat (first | refine a0Z ?_ _ | refine a1H ?_ | refine a0W ?_ _));exact aX.out⟩,⟨by repeat (first | (with_reducible first | exact HB.out | apply a0B | apply a0A | apply a0C | refine a0L ?_ bE.out) | exact HB.out)⟩⟩
         case round =>
          clear H'
          try clear c1
          try clear c2
          try clear c2b0
          try clear c2b1
          try clear p2
          try clear c6
          try clear c6b0
          try clear p6
          try clear c7
          try clear c7b0
          try clear p8
          try clear q8
          try clear hx8
          try clear c10
          try clear c11
          try clear c11b0
          try clear c11b1
          try clear c13
          try clear p2
          try clear p8
          try clear q8
          obtain ⟨aR,rfl,HA,HK2,bJ,aX,HB⟩:=hrel
          cases gk with
          | zero =>exact absurd HA.out (by simp [r01_Lex.l1])
          | succ k2 =>
           have H:=HA.out
           clear HA
           simp only [r01_Lex.l1] at H
           by_cases c14:aR < (a0.size:Int)
           ·rw [if_pos c14] at H
            have c14b0:decide (aR < (a0.size:Int)) = true:=decide_eq_true c14
            clear c14
            by_cases c15:0≤aR
            ·rw [if_pos c15] at H
             have c15b0:decide (0≤aR) = true:=decide_eq_true c15
             clear c15
             replace H:=Option.bind_eq_some_iff.mp H
             obtain ⟨t136,A170,H⟩:=H
             replace H:(if t136 = true then (r01_Lex.l1 k2 a0 aN aD (wrap64 (aR + 1)) 0) else (if 0≤aD then (if aD≤aR then (if aR≤(a0.size:Int) then (if aN.length < 4398046511104 then (r01_Lex.l0 k2 a0 (aN ++ [(⟨0,a0.extract (aD:Int).toNat (aR:Int).toNat,aD⟩:S72)]) aR) else (none)) else (none)) else (none)) else (none))) = some (r1,r2,r3):=H
             have A17:=a0G.mk A170
             clear A170
             by_cases c18:t136 = true
             ·subst c18
              have H1:(r01_Lex.l1 k2 a0 aN aD (wrap64 (aR + 1)) 0) = some (r1,r2,r3):=by rw [if_pos rfl] at H;exact H
              clear H
              have H:=H1
              clear H1
              have H':=a0G.mk H
              clear H
              have p16:0≤(aR:Int):=of_decide_eq_true (by first | (with_reducible assumption) | assumption)
              have q16:aR < (a0.size:Int):=of_decide_eq_true (by first | (with_reducible assumption) | assumption)
              have hx16:=a3O a0 aR
              replace p16:=eq_true p16
              replace q16:=eq_true q16
              go_wp2_with (first | (go_at_call 29;(with_reducible refine (r01_Inner.calls (bt a0 aR) true _ A17.out).mono ?_);rintro e w' ⟨rfl,⟨nd,rfl⟩⟩))
              go_roundg k2
              case measure =>have:=HK1.out;have:=HK2.out;omega
              case rel =>exact ⟨(wrap64 (aR + 1)),(by first | rfl | (simp;done) | (simp [*];done)),H',⟨by have:=HK1.out;have:=HK2.out;omega⟩,⟨by (with_reducible repeat (first | apply Kd.a1C | apply Kd.a1B | apply Kd.a1I));exact bJ.out⟩,⟨by (with_reducible repeat (first | refine a0Z ?_ _ | refine a1H ?_ | refine a0W ?_ _));exact aX.out⟩,⟨by repeat (first | (with_reducible first | exact HB.out | apply a0B | apply a0A | apply a0C | refine a0L ?_ bE.out) | exact HB.out)⟩⟩
             ·replace c18:=Bool.eq_false_iff.mpr c18
              subst c18
              have H1:(if 0≤aD then (if aD≤aR then (if aR≤(a0.size:Int) then (if aN.length < 4398046511104 then (r01_Lex.l0 k2 a0 (aN ++ [(⟨0,a0.extract (aD:Int).toNat (aR:Int).toNat,aD⟩:S72)]) aR) else (none)) else (none)) else (none)) else (none)) = some (r1,r2,r3):=by rw [if_neg (show ¬ (false = true) by decide)] at H;exact H
              clear H
              have H:=H1
              clear H1
              by_cases c19:0≤aD
              ·rw [if_pos c19] at H
               have c19b0:=eq_true c19
               have c19b1:decide (0≤aD) = true:=decide_eq_true c19
               clear c19
               by_cases c20:aD≤aR
               ·rw [if_pos c20] at H
                have c20b0:=eq_true c20
                have c20b1:decide (aD≤aR) = true:=decide_eq_true c20
                clear c20
                by_cases c21:aR≤(a0.size:Int)
                ·rw [if_pos c21] at H
                 have c21b0:=eq_true c21
                 have c21b1:decide (aR≤(a0.size:Int)) = true:=decide_eq_true c21
                 clear c21
                 by_cases c22:aN.length < 4398046511104
                 ·rw [if_pos c22] at H
                  have LMc22:=a0G.mk c22
                  clear c22
                  obtain ⟨y137,hy137⟩:∃ y_:List (S72),y_ = (aN ++ [(⟨0,a0.extract (aD:Int).toNat (aR:Int).toNat,aD⟩:S72)]):=⟨_,rfl⟩
                  replace H:(r01_Lex.l0 k2 a0 y137 aR) = some (r1,r2,r3):=by first | (rw [hy137];with_reducible exact H) | (have H2_:=(Option.bind_some _ _).symm.trans H;rw [hy137];with_reducible exact H2_) | (have H2_:=(Option.bind_some _ _).symm.trans H;with_reducible exact H2_) | with_reducible exact H | (rw [hy137];exact H) | exact H
                  have Ny137:=a0G.mk hy137
                  clear hy137
                  have H':=a0G.mk H
                  clear H
                  have p16:0≤(aR:Int):=of_decide_eq_true (by first | (with_reducible assumption) | assumption)
                  have q16:aR < (a0.size:Int):=of_decide_eq_true (by first | (with_reducible assumption) | assumption)
                  have hx16:=a3O a0 aR
                  replace p16:=eq_true p16
                  replace q16:=eq_true q16
                  go_wp2_with (first | (go_at_call 29;(with_reducible refine (r01_Inner.calls (bt a0 aR) false _ A17.out).mono ?_);rintro e w' ⟨rfl,⟨nd,rfl⟩⟩) | ((with_reducible refine a2B (b:=.append) (xs:=#[.tmp 87,.tmp 95]) rfl ?_);at_builtin;refine Kd.a3U k72 (w0:=w) w.heap.size rfl (.tmp 87) (.tmp 95) 48 72 (.agg #[(.int .i64 0),(.string ⟨#[]⟩),(.int .i64 0)]) 32 rfl Try.underlying48 b3Q rfl (by decide) (by omega) u4 aN (⟨0,a0.extract (aD:Int).toNat (aR:Int).toNat,aD⟩:S72) [.int .i64 0,.string (a0.extract (aD:Int).toNat (aR:Int).toNat),.int .i64 aD] (fun _ =>True) (fun _ =>False) rfl rfl ?aP (fun _ hk =>hk.elim) ?aF ?aO ?aB ?aS ?aL ?_;(case aP =>exact a9Y _ _ _ (⟨0,a0.extract (aD:Int).toNat (aR:Int).toNat,aD⟩:S72));(case aB =>exact (by repeat (first | (with_reducible first | exact HB.out | apply a0B | apply a0A | apply a0C | refine a0L ?_ bE.out) | exact HB.out)));(case aF =>exact (fun _ _ =>trivial));(case aO =>exact (by (with_reducible repeat (first | apply Kd.a1C | apply Kd.a1B | apply Kd.a1I));exact bJ.out));(case aS =>exact (a0U (by repeat (first | (with_reducible first | exact HB.out | apply a0B | apply a0A | apply a0C | refine a0L ?_ bE.out) | exact HB.out))));(case aL =>have:=LMc22.out;omega);intro v138 w23 ho hb hg hat;rw [← Ny137.out] at ho;have bA:=a0G.mk (a1N (g:=bI) (o:=.cells #[.int .i64 0,.int .i64 0] 33 (0,0)) (by (with_reducible repeat (first | refine a0Z ?_ _ | refine a1H ?_ | refine a0W ?_ _));exact aX.out) hg (Kd.R_ne bJ.out aX.out (by decide)));have bC:=a0G.mk (hb);have bH:=a0G.mk (ho);clear aX;clear HB;clear bJ;have aX:=bA;have HB:=bC;have HO139:=bH;clear bA bC bH;clear ho hb hg hat))
                  go_roundg k2
                  case measure =>have:=HK1.out;have:=HK2.out;omega
                  case rel =>exact ⟨(y137),(aR),(by first | rfl | (simp;done) | (simp [*];done)),H',⟨by have:=HK1.out;have:=HK2.out;omega⟩,⟨by (with_reducible repeat (first | apply Kd.a1C | apply Kd.a1B | apply Kd.a1I));exact HO139.out⟩,⟨by (with_reducible repeat (first | refine a0Z ?_ _ | refine a1H ?_ | refine a0W ?_ _));exact aX.out⟩,⟨by repeat (first | (with_reducible first | exact HB.out | apply a0B | apply a0A | apply a0C | refine a0L ?_ bE.out) | exact HB.out)⟩⟩
                 ·rw [if_neg c22] at H
                  exact absurd H (by simp)
                ·rw [if_neg c21] at H
                 exact absurd H (by simp)
               ·rw [if_neg c20] at H
                exact absurd H (by simp)
              ·rw [if_neg c19] at H
               exact absurd H (by simp)
            ·rw [if_neg c15] at H
             exact absurd H (by simp)
           ·rw [if_neg c14] at H
            have c14b0:decide (aR < (a0.size:Int)) = false:=decide_eq_false c14
            clear c14
            by_cases c24:0≤aD
            ·rw [if_pos c24] at H
             have c24b0:=eq_true c24
             have c24b1:decide (0≤aD) = true:=decide_eq_true c24
             clear c24
             by_cases c25:aD≤aR
             ·rw [if_pos c25] at H
              have c25b0:=eq_true c25
              have c25b1:decide (aD≤aR) = true:=decide_eq_true c25
              clear c25
              by_cases c26:aR≤(a0.size:Int)
              ·rw [if_pos c26] at H
               have c26b0:=eq_true c26
               have c26b1:decide (aR≤(a0.size:Int)) = true:=decide_eq_true c26
               clear c26
               by_cases c27:aN.length < 4398046511104
               ·rw [if_pos c27] at H
                have LMc27:=a0G.mk c27
                clear c27
                obtain ⟨y140,hy140⟩:∃ y_:List (S72),y_ = (aN ++ [(⟨0,a0.extract (aD:Int).toNat (aR:Int).toNat,aD⟩:S72)]):=⟨_,rfl⟩
                replace H:(r01_Lex.l0 k2 a0 y140 aR) = some (r1,r2,r3):=by first | (rw [hy140];with_reducible exact H) | (have H2_:=(Option.bind_some _ _).symm.trans H;rw [hy140];with_reducible exact H2_) | (have H2_:=(Option.bind_some _ _).symm.trans H;with_reducible exact H2_) | with_reducible exact H | (rw [hy140];exact H) | exact H
                have Ny140:=a0G.mk hy140
                clear hy140
                have H':=a0G.mk H
                clear H
                go_wp2_with (first | ((with_reducible refine a2B (b:=.append) (xs:=#[.tmp 87,.tmp 95]) rfl ?_);at_builtin;refine Kd.a3U k72 (w0:=w) w.heap.size rfl (.tmp 87) (.tmp 95) 48 72 (.agg #[(.int .i64 0),(.string ⟨#[]⟩),(.int .i64 0)]) 32 rfl Try.underlying48 b3Q rfl (by decide) (by omega) u4 aN (⟨0,a0.extract (aD:Int).toNat (aR:Int).toNat,aD⟩:S72) [.int .i64 0,.string (a0.extract (aD:Int).toNat (aR:Int).toNat),.int .i64 aD] (fun _ =>True) (fun _ =>False) rfl rfl ?aP (fun _ hk =>hk.elim) ?aF ?aO ?aB ?aS ?aL ?_;(case aP =>exact a9Y _ _ _ (⟨0,a0.extract (aD:Int).toNat (aR:Int).toNat,aD⟩:S72));(case aB =>exact (by repeat (first | (with_reducible first | exact HB.out | apply a0B | apply a0A | apply a0C | refine a0L ?_ bE.out) | exact HB.out)));(case aF =>exact (fun _ _ =>trivial));(case aO =>exact (by (with_reducible repeat (first | apply Kd.a1C | apply Kd.a1B | apply Kd.a1I));exact bJ.out));(case aS =>exact (a0U (by repeat (first | (with_reducible first | exact HB.out | apply a0B | apply a0A | apply a0C | refine a0L ?_ bE.out) | exact HB.out))));(case aL =>have:=LMc27.out;omega);intro v141 w28 ho hb hg hat;rw [← Ny140.out] at ho;have bA:=a0G.mk (a1N (g:=bI) (o:=.cells #[.int .i64 0,.int .i64 0] 33 (0,0)) (by (with_reducible repeat (first | refine a0Z ?_ _ | refine a1H ?_ | refine a0W ?_ _));exact aX.out) hg (Kd.R_ne bJ.out aX.out (by decide)));have bC:=a0G.mk (hb);have bH:=a0G.mk (ho);clear aX;clear HB;clear bJ;have aX:=bA;have HB:=bC;have HO142:=bH;clear bA bC bH;clear ho hb hg hat))
                go_roundg k2
                case measure =>have:=HK1.out;have:=HK2.out;omega
                case rel =>exact ⟨(y140),(aR),(by first | rfl | (simp;done) | (simp [*];done)),H',⟨by have:=HK1.out;have:=HK2.out;omega⟩,⟨by (with_reducible repeat (first | apply Kd.a1C | apply Kd.a1B | apply Kd.a1I));exact HO142.out⟩,⟨by (with_reducible repeat (first | refine a0Z ?_ _ | refine a1H ?_ | refine a0W ?_ _));exact aX.out⟩,⟨by repeat (first | (with_reducible first | exact HB.out | apply a0B | apply a0A | apply a0C | refine a0L ?_ bE.out) | exact HB.out)⟩⟩
               ·rw [if_neg c27] at H
                exact absurd H (by simp)
              ·rw [if_neg c26] at H
               exact absurd H (by simp)
             ·rw [if_neg c25] at H
              exact absurd H (by simp)
            ·rw [if_neg c24] at H
             exact absurd H (by simp)
        ·replace c13:=Bool.eq_false_iff.mpr c13
         subst c13
         have H1:((r01_Digit.f (bt a0 aD)).bind fun t143 =>(if t143 = true then (r01_Lex.l2 k1 a0 aN aD (wrap64 (aD + 1)) 1) else ((r01_Sign.f k1 (bt a0 aD)).bind fun t149 =>(if t149 = true then (if aD≤(wrap64 (aD + 1)) then (if (wrap64 (aD + 1))≤(a0.size:Int) then (if aN.length < 4398046511104 then (r01_Lex.l0 k1 a0 (aN ++ [(⟨2,a0.extract (aD:Int).toNat ((wrap64 (aD + 1)):Int).toNat,aD⟩:S72)]) (wrap64 (aD + 1))) else (none)) else (none)) else (none)) else (none))))) = some (r1,r2,r3):=by rw [if_neg (show ¬ (false = true) by decide)] at H;exact H
         clear H
         have H:=H1
         clear H1
         replace H:=Option.bind_eq_some_iff.mp H
         obtain ⟨t143,A290,H⟩:=H
         replace H:(if t143 = true then (r01_Lex.l2 k1 a0 aN aD (wrap64 (aD + 1)) 1) else ((r01_Sign.f k1 (bt a0 aD)).bind fun t149 =>(if t149 = true then (if aD≤(wrap64 (aD + 1)) then (if (wrap64 (aD + 1))≤(a0.size:Int) then (if aN.length < 4398046511104 then (r01_Lex.l0 k1 a0 (aN ++ [(⟨2,a0.extract (aD:Int).toNat ((wrap64 (aD + 1)):Int).toNat,aD⟩:S72)]) (wrap64 (aD + 1))) else (none)) else (none)) else (none)) else (none)))) = some (r1,r2,r3):=H
         have A29:=a0G.mk A290
         clear A290
         by_cases c30:t143 = true
         ·subst c30
          have H1:(r01_Lex.l2 k1 a0 aN aD (wrap64 (aD + 1)) 1) = some (r1,r2,r3):=by rw [if_pos rfl] at H;exact H
          clear H
          have H:=H1
          clear H1
          have H':=a0G.mk H
          clear H
          have p8:0≤(aD:Int):=of_decide_eq_true (by first | (with_reducible assumption) | assumption)
          have q8:aD < (a0.size:Int):=of_decide_eq_true (by first | (with_reducible assumption) | assumption)
          have hx8:=a3O a0 aD
          replace p8:=eq_true p8
          replace q8:=eq_true q8
          go_wp2_with (first | ((with_reducible refine a1F (f:=27) rfl ?_);refine a2M (some 22) rfl rfl Try.func27 (by kernel_rfl) rfl #[.int .u8 (bt a0 aD)] rfl (by (try simp only [List.map_toArray,List.map_cons,List.map_nil]);first | done | rfl | (simp only [List.length_drop,List.length_take];rfl)) ?_;(with_reducible refine (r01_Blank.calls (bt a0 aD) false _ A9.out).mono ?_);rintro e w' ⟨rfl,⟨nd,rfl⟩⟩;refine ⟨_,rfl,?_⟩) | ((with_reducible refine a1F (f:=28) rfl ?_);refine a2M (some 42) rfl rfl Try.func28 (by kernel_rfl) rfl #[.int .u8 (bt a0 aD)] rfl (by (try simp only [List.map_toArray,List.map_cons,List.map_nil]);first | done | rfl | (simp only [List.length_drop,List.length_take];rfl)) ?_;(with_reducible refine (r01_Letter.calls (bt a0 aD) false _ A12.out).mono ?_);rintro e w' ⟨rfl,⟨nd,rfl⟩⟩;refine ⟨_,rfl,?_⟩) | ((with_reducible refine a1F (f:=30) rfl ?_);refine a2M (some 56) rfl rfl Try.func30 (by kernel_rfl) rfl #[.int .u8 (bt a0 aD)] rfl (by (try simp only [List.map_toArray,List.map_cons,List.map_nil]);first | done | rfl | (simp only [List.length_drop,List.length_take];rfl)) ?_;(with_reducible refine (r01_Digit.calls (bt a0 aD) true _ A29.out).mono ?_);rintro e w' ⟨rfl,⟨nd,rfl⟩⟩;refine ⟨_,rfl,?_⟩))
          go_loopg [7] k1 (fun kq v7 w' =>∃ (aR:Int),v7 = .int .i64 aR∧a0G (r01_Lex.l2 kq a0 aN aD aR 1 = some (r1,r2,r3))∧a0G (kq≤k1)∧a0G (Kd.R k72 72 w' w.heap.size (fun _ =>True) u4 aN)∧a0G (w'.heap[bI]? = some (.cells #[.int .i64 0,.int .i64 0] 33 (0,0)))∧a0G (Below w.heap.size w w'))
          case atStart =>exact ⟨(wrap64 (aD + 1)),(by first | rfl | (simp;done) | (simp [*];done)),H',⟨Nat.le_refl _⟩,⟨by (with_reducible repeat (first | apply Kd.a1C | apply Kd.a1B | apply Kd.a1I));exact bJ.out⟩,⟨by (with_reducible repeat (first | refine a0Z ?_ _ | refine a1H ?_ | refine a0W ?_ _));exact aX.out⟩,⟨by repeat (first | (with_reducible first | exact HB.out | apply a0B | apply a0A | apply a0C | refine a0L ?_ bE.out) | exact HB.out)⟩⟩
          case round =>
           clear H'
           try clear c1
           try clear p1
           try clear q1
           try clear hx1
           try clear c2
           try clear c2b0
           try clear c2b1
           try clear p2
           try clear c3
           try clear c6
           try clear c6b0
           try clear p6
           try clear c7
           try clear c7b0
           try clear p8
           try clear q8
           try clear hx8
           try clear c10
           try clear c11
           try clear c11b0
           try clear c11b1
           try clear c13
           try clear c14
           try clear c14b0
           try clear c15
           try clear c15b0
           try clear p16
           try clear q16
           try clear hx16
           try clear c18
           try clear c19
           try clear c19b0
           try clear c19b1
           try clear c20
           try clear c20b0
           try clear c20b1
           try clear c21
           try clear c21b0
           try clear c21b1
           try clear c22
           try clear c24
           try clear c24b0
           try clear c24b1
           try clear c25
           try clear c25b0
           try clear c25b1
           try clear c26
           try clear c26b0
           try clear c26b1
           try clear c27
           try clear c28
           try clear c30
           try clear p16
           try clear p2
           try clear p6
           try clear p8
           try clear q16
           try clear q8
           obtain ⟨aR,rfl,HA,HK2,bJ,aX,HB⟩:=hrel
           cases gk with
           | zero =>exact absurd HA.out (by simp [r01_Lex.l2])
           | succ k2 =>
            have H:=HA.out
            clear HA
            simp only [r01_Lex.l2] at H
            have HC31:=a0G.mk H
            clear H
            go_upto_region 20 with (fail)
            go_cut [66] (fun v66 wc =>∃ (kq:Nat) (cC:Bool),v66 = .bool cC∧a0G (r01_Lex.j3 kq a0 aN aD aR 1 cC = some (r1,r2,r3))∧a0G (kq≤k2)∧a0G (Kd.R k72 72 wc w.heap.size (fun _ =>True) u4 aN)∧a0G (wc.heap[bI]? = some (.cells #[.int .i64 0,.int .i64 0] 33 (0,0)))∧a0G (Below w.heap.size w wc))
            case first =>
             have H:=HC31.out
             clear HC31
             by_cases c32:aR < (a0.size:Int)
             ·rw [if_pos c32] at H
              have c32b0:decide (aR < (a0.size:Int)) = true:=decide_eq_true c32
              clear c32
              (first | rw [c32b0] | (simp only [b0A,b4Q];rw [c32b0]) | skip)
              by_cases c33:0≤aR
              ·rw [if_pos c33] at H
               have c33b0:decide (0≤aR) = true:=decide_eq_true c33
               clear c33
               replace H:=Option.bind_eq_some_iff.mp H
               obtain ⟨t144,A350,H⟩:=H
               replace H:(r01_Lex.j3 k2 a0 aN aD aR 1 t144) = some (r1,r2,r3):=H
               have A35:=a0G.mk A350
               clear A350
               have H':=a0G.mk H
               clear H
               have p34:0≤(aR:Int):=of_decide_eq_true (by first | (with_reducible assumption) | assumption)
               have q34:aR < (a0.size:Int):=of_decide_eq_true (by first | (with_reducible assumption) | assumption)
               have hx34:=a3O a0 aR
               replace p34:=eq_true p34
               replace q34:=eq_true q34
               go_wp2_with (first | (go_at_call 29;(with_reducible refine (r01_Inner.calls (bt a0 aR) t144 _ A35.out).mono ?_);rintro e w' ⟨rfl,⟨nd,rfl⟩⟩))
               go_meet
               case rel =>exact ⟨_,(t144),(by first | rfl | (simp;done) | (simp [*];done)),H',⟨by have:=HK1.out;have:=HK2.out;first | omega | exact Nat.le_refl _⟩,⟨by (with_reducible repeat (first | apply Kd.a1C | apply Kd.a1B | apply Kd.a1I));exact bJ.out⟩,⟨by (with_reducible repeat (first | refine a0Z ?_ _ | refine a1H ?_ | refine a0W ?_ _));exact aX.out⟩,⟨by repeat (first | (with_reducible first | exact HB.out | apply a0B | apply a0A | apply a0C | refine a0L ?_ bE.out) | exact HB.out)⟩⟩
              ·rw [if_neg c33] at H
               exact absurd H (by simp)
             ·rw [if_neg c32] at H
              have c32b0:decide (aR < (a0.size:Int)) = false:=decide_eq_false c32
              clear c32
              (first | rw [c32b0] | (simp only [b0A,b4Q];rw [c32b0]) | skip)
              have H':=a0G.mk H
              clear H
              go_wp2
              go_meet
              case rel =>exact ⟨_,(false),(by first | rfl | (simp;done) | (simp [*];done)),H',⟨by have:=HK1.out;have:=HK2.out;first | omega | exact Nat.le_refl _⟩,⟨by (with_reducible repeat (first | apply Kd.a1C | apply Kd.a1B | apply Kd.a1I));exact bJ.out⟩,⟨by (with_reducible repeat (first | refine a0Z ?_ _ | refine a1H ?_ | refine a0W ?_ _));exact aX.out⟩,⟨by repeat (first | (with_reducible first | exact HB.out | apply a0B | apply a0A | apply a0C | refine a0L ?_ bE.out) | exact HB.out)⟩⟩
            case rest =>
             clear HC31
             try clear c1
             try clear p1
             try clear q1
             try clear hx1
             try clear c2
             try clear c2b0
             try clear c2b1
             try clear p2
             try clear c3
             try clear p3
             try clear q3
             try clear hx3
             try clear c6
             try clear c6b0
             try clear p6
             try clear c7
             try clear c7b0
             try clear p8
             try clear q8
             try clear hx8
             try clear c10
             try clear c11
             try clear c11b0
             try clear c11b1
             try clear c13
             try clear c14
             try clear c14b0
             try clear c15
             try clear c15b0
             try clear p16
             try clear q16
             try clear hx16
             try clear c18
             try clear c19
             try clear c19b0
             try clear c19b1
             try clear c20
             try clear c20b0
             try clear c20b1
             try clear c21
             try clear c21b0
             try clear c21b1
             try clear c22
             try clear c24
             try clear c24b0
             try clear c24b1
             try clear c25
             try clear c25b0
             try clear c25b1
             try clear c26
             try clear c26b0
             try clear c26b1
             try clear c27
             try clear c28
             try clear c30
             try clear c32
             try clear c32b0
             try clear c33
             try clear c33b0
             try clear p34
             try clear q34
             try clear hx34
             try clear p1
             try clear p16
             try clear p2
             try clear p34
             try clear p6
             try clear p8
             try clear q1
             try clear q16
             try clear q34
             try clear q8
             obtain ⟨kq,cC,rfl,HA,HJ30,bJ,aX,HB⟩:=hcut
             cases kq with
             | zero =>exact absurd HA.out (by simp [r01_Lex.j3])
             | succ kj30 =>
              have H:=HA.out
              clear HA
              simp only [r01_Lex.j3] at H
              by_cases c36:cC = true
              ·subst c36
               have H1:(if 0≤aR then (if aR < (a0.size:Int) then ((r01_Digit.f (bt a0 aR)).bind fun t145 =>(if t145 = true then (r01_Lex.l2 kj30 a0 aN aD (wrap64 (aR + 1)) 1) else (none))) else (none)) else (none)) = some (r1,r2,r3):=by rw [if_pos rfl] at H;exact H
               clear H
               have H:=H1
               clear H1
               by_cases c37:0≤aR
               ·rw [if_pos c37] at H
                have c37b0:decide (0≤aR) = true:=decide_eq_true c37
                clear c37
                by_cases c38:aR < (a0.size:Int)
                ·rw [if_pos c38] at H
                 have c38b0:decide (aR < (a0.size:Int)) = true:=decide_eq_true c38
                 clear c38
                 replace H:=Option.bind_eq_some_iff.mp H
                 obtain ⟨t145,A400,H⟩:=H
                 replace H:(if t145 = true then (r01_Lex.l2 kj30 a0 aN aD (wrap64 (aR + 1)) 1) else (none)) = some (r1,r2,r3):=H
                 have A40:=a0G.mk A400
                 clear A400
                 by_cases c41:t145 = true
                 ·subst c41
                  have H1:(r01_Lex.l2 kj30 a0 aN aD (wrap64 (aR + 1)) 1) = some (r1,r2,r3):=by rw [if_pos rfl] at H;exact H
                  clear H
                  have H:=H1
                  clear H1
                  have H':=a0G.mk H
                  clear H
                  have p39:0≤(aR:Int):=of_decide_eq_true (by first | (with_reducible assumption) | assumption)
                  have q39:aR < (a0.size:Int):=of_decide_eq_true (by first | (with_reducible assumption) | assumption)
                  have hx39:=a3O a0 aR
                  replace p39:=eq_true p39
                  replace q39:=eq_true q39
                  go_wp2_with (first | ((with_reducible refine a1F (f:=30) rfl ?_);refine a2M (some 70) rfl rfl Try.func30 (by kernel_rfl) rfl #[.int .u8 (bt a0 aR)] rfl (by (try simp only [List.map_toArray,List.map_cons,List.map_nil]);first | done | rfl | (simp only [List.length_drop,List.length_take];rfl)) ?_;(with_reducible refine (r01_Digit.calls (bt a0 aR) true _ A40.out).mono ?_);rintro e w' ⟨rfl,⟨nd,rfl⟩⟩;refine ⟨_,rfl,?_⟩))
                  go_roundg kj30
                  case measure =>have:=HK1.out;have:=HK2.out;have:=HJ30.out;omega
                  case rel =>exact ⟨(wrap64 (aR + 1)),(by first | rfl | (simp;done) | (simp [*];done)),H',⟨by have:=HK1.out;have:=HK2.out;have:=HJ30.out;omega⟩,⟨by (with_reducible repeat (first | apply Kd.a1C | apply Kd.a1B | apply Kd.a1I));exact bJ.out⟩,⟨by (with_reducible repeat (first | refine a0Z ?_ _ | refine a1H ?_ | refine a0W ?_ _));exact aX.out⟩,⟨by repeat (first | (with_reducible first | exact HB.out | apply a0B | apply a0A | apply a0C | refine a0L ?_ bE.out) | exact HB.out)⟩⟩
                 ·replace c41:=Bool.eq_false_iff.mpr c41
                  subst c41
                  have H1:(none) = some (r1,r2,r3):=by rw [if_neg (show ¬ (false = true) by decide)] at H;exact H
                  clear H
                  have H:=H1
                  clear H1
                  exact absurd H (by simp)
                ·rw [if_neg c38] at H
                 exact absurd H (by simp)
               ·rw [if_neg c37] at H
                exact absurd H (by simp)
              ·replace c36:=Bool.eq_false_iff.mpr c36
               subst c36
               have H1:(if (wrap64 (aR - aD)) > 9 then (none) else (if 0≤aD then (if aD≤aR then (if aR≤(a0.size:Int) then (if aN.length < 4398046511104 then (r01_Lex.l0 kj30 a0 (aN ++ [(⟨1,a0.extract (aD:Int).toNat (aR:Int).toNat,aD⟩:S72)]) aR) else (none)) else (none)) else (none)) else (none))) = some (r1,r2,r3):=by rw [if_neg (show ¬ (false = true) by decide)] at H;exact H
               clear H
               have H:=H1
               clear H1
               by_cases c42:(wrap64 (aR - aD)) > 9
               ·rw [if_pos c42] at H
                exact absurd H (by simp)
               ·rw [if_neg c42] at H
                have c42b0:decide (9 < (wrap64 (aR - aD))) = false:=decide_eq_false c42
                clear c42
                by_cases c43:0≤aD
                ·rw [if_pos c43] at H
                 have c43b0:=eq_true c43
                 have c43b1:decide (0≤aD) = true:=decide_eq_true c43
                 clear c43
                 by_cases c44:aD≤aR
                 ·rw [if_pos c44] at H
                  have c44b0:=eq_true c44
                  have c44b1:decide (aD≤aR) = true:=decide_eq_true c44
                  clear c44
                  by_cases c45:aR≤(a0.size:Int)
                  ·rw [if_pos c45] at H
                   have c45b0:=eq_true c45
                   have c45b1:decide (aR≤(a0.size:Int)) = true:=decide_eq_true c45
                   clear c45
                   by_cases c46:aN.length < 4398046511104
                   ·rw [if_pos c46] at H
                    have LMc46:=a0G.mk c46
                    clear c46
                    obtain ⟨y146,hy146⟩:∃ y_:List (S72),y_ = (aN ++ [(⟨1,a0.extract (aD:Int).toNat (aR:Int).toNat,aD⟩:S72)]):=⟨_,rfl⟩
                    replace H:(r01_Lex.l0 kj30 a0 y146 aR) = some (r1,r2,r3):=by first | (rw [hy146];with_reducible exact H) | (have H2_:=(Option.bind_some _ _).symm.trans H;rw [hy146];with_reducible exact H2_) | (have H2_:=(Option.bind_some _ _).symm.trans H;with_reducible exact H2_) | with_reducible exact H | (rw [hy146];exact H) | exact H
                    have Ny146:=a0G.mk hy146
                    clear hy146
                    have H':=a0G.mk H
                    clear H
                    go_wp2_with (first | ((with_reducible refine a2B (b:=.append) (xs:=#[.tmp 87,.tmp 95]) rfl ?_);at_builtin;refine Kd.a3U k72 (w0:=w) w.heap.size rfl (.tmp 87) (.tmp 95) 48 72 (.agg #[(.int .i64 0),(.string ⟨#[]⟩),(.int .i64 0)]) 32 rfl Try.underlying48 b3Q rfl (by decide) (by omega) u4 aN (⟨1,a0.extract (aD:Int).toNat (aR:Int).toNat,aD⟩:S72) [.int .i64 1,.string (a0.extract (aD:Int).toNat (aR:Int).toNat),.int .i64 aD] (fun _ =>True) (fun _ =>False) rfl rfl ?aP (fun _ hk =>hk.elim) ?aF ?aO ?aB ?aS ?aL ?_;(case aP =>exact a9Y _ _ _ (⟨1,a0.extract (aD:Int).toNat (aR:Int).toNat,aD⟩:S72));(case aB =>exact (by repeat (first | (with_reducible first | exact HB.out | apply a0B | apply a0A | apply a0C | refine a0L ?_ bE.out) | exact HB.out)));(case aF =>exact (fun _ _ =>trivial));(case aO =>exact (by (with_reducible repeat (first | apply Kd.a1C | apply Kd.a1B | apply Kd.a1I));exact bJ.out));(case aS =>exact (a0U (by repeat (first | (with_reducible first | exact HB.out | apply a0B | apply a0A | apply a0C | refine a0L ?_ bE.out) | exact HB.out))));(case aL =>have:=LMc46.out;omega);intro v147 w47 ho hb hg hat;rw [← Ny146.out] at ho;have bA:=a0G.mk (a1N (g:=bI) (o:=.cells #[.int .i64 0,.int .i64 0] 33 (0,0)) (by (with_reducible repeat (first | refine a0Z ?_ _ | refine a1H ?_ | refine a0W ?_ _));exact aX.out) hg (Kd.R_ne bJ.out aX.out (by decide)));have bC:=a0G.mk (hb);have bH:=a0G.mk (ho);clear aX;clear HB;clear bJ;have aX:=bA;have HB:=bC;have HO148:=bH;clear bA bC bH;clear ho hb hg hat))
                    go_roundg kj30
                    case measure =>have:=HK1.out;have:=HK2.out;have:=HJ30.out;omega
                    case rel =>exact ⟨(y146),(aR),(by first | rfl | (simp;done) | (simp [*];done)),H',⟨by have:=HK1.out;have:=HK2.out;have:=HJ30.out;omega⟩,⟨by (with_reducible repeat (first | apply Kd.a1C | apply Kd.a1B | apply Kd.a1I));exact HO148.out⟩,⟨by (with_reducible repeat (first | refine a0Z ?_ _ | refine a1H ?_ | refine a0W ?_ _));exact aX.out⟩,⟨by repeat (first | (with_reducible first | exact HB.out | apply a0B | apply a0A | apply a0C | refine a0L ?_ bE.out) | exact HB.out)⟩⟩
                   ·rw [if_neg c46] at H
                    exact absurd H (by simp)
                  ·rw [if_neg c45] at H
                   exact absurd H (by simp)
                 ·rw [if_neg c44] at H
                  exact absurd H (by simp)
                ·rw [if_neg c43] at H
                 exact absurd H (by simp)
         ·replace c30:=Bool.eq_false_iff.mpr c30
          subst c30
          have H1:((r01_Sign.f k1 (bt a0 aD)).bind fun t149 =>(if t149 = true then (if aD≤(wrap64 (aD + 1)) then (if (wrap64 (aD + 1))≤(a0.size:Int) then (if aN.length < 4398046511104 then (r01_Lex.l0 k1 a0 (aN ++ [(⟨2,a0.extract (aD:Int).toNat ((wrap64 (aD + 1)):Int).toNat,aD⟩:S72)]) (wrap64 (aD + 1))) else (none)) else (none)) else (none)) else (none))) = some (r1,r2,r3):=by rw [if_neg (show ¬ (false = true) by decide)] at H;exact H
          clear H
          have H:=H1
          clear H1
          replace H:=Option.bind_eq_some_iff.mp H
          obtain ⟨t149,A480,H⟩:=H
          replace H:(if t149 = true then (if aD≤(wrap64 (aD + 1)) then (if (wrap64 (aD + 1))≤(a0.size:Int) then (if aN.length < 4398046511104 then (r01_Lex.l0 k1 a0 (aN ++ [(⟨2,a0.extract (aD:Int).toNat ((wrap64 (aD + 1)):Int).toNat,aD⟩:S72)]) (wrap64 (aD + 1))) else (none)) else (none)) else (none)) else (none)) = some (r1,r2,r3):=H
          have A48:=a0G.mk A480
          clear A480
          by_cases c49:t149 = true
          ·subst c49
           have H1:(if aD≤(wrap64 (aD + 1)) then (if (wrap64 (aD + 1))≤(a0.size:Int) then (if aN.length < 4398046511104 then (r01_Lex.l0 k1 a0 (aN ++ [(⟨2,a0.extract (aD:Int).toNat ((wrap64 (aD + 1)):Int).toNat,aD⟩:S72)]) (wrap64 (aD + 1))) else (none)) else (none)) else (none)) = some (r1,r2,r3):=by rw [if_pos rfl] at H;exact H
           clear H
           have H:=H1
           clear H1
           have c50b0:=eq_true (of_decide_eq_true (by first | (with_reducible assumption) | assumption):0≤aD)
           by_cases c51:aD≤(wrap64 (aD + 1))
           ·rw [if_pos c51] at H
            have c51b0:=eq_true c51
            have c51b1:decide (aD≤(wrap64 (aD + 1))) = true:=decide_eq_true c51
            by_cases c52:(wrap64 (aD + 1))≤(a0.size:Int)
            ·rw [if_pos c52] at H
             have c52b0:=eq_true c52
             have c52b1:decide ((wrap64 (aD + 1))≤(a0.size:Int)) = true:=decide_eq_true c52
             by_cases c53:aN.length < 4398046511104
             ·rw [if_pos c53] at H
              have LMc53:=a0G.mk c53
              clear c53
              obtain ⟨y150,hy150⟩:∃ y_:List (S72),y_ = (aN ++ [(⟨2,a0.extract (aD:Int).toNat ((wrap64 (aD + 1)):Int).toNat,aD⟩:S72)]):=⟨_,rfl⟩
              replace H:(r01_Lex.l0 k1 a0 y150 (wrap64 (aD + 1))) = some (r1,r2,r3):=by first | (rw [hy150];with_reducible exact H) | (have H2_:=(Option.bind_some _ _).symm.trans H;rw [hy150];with_reducible exact H2_) | (have H2_:=(Option.bind_some _ _).symm.trans H;with_reducible exact H2_) | with_reducible exact H | (rw [hy150];exact H) | exact H
              have Ny150:=a0G.mk hy150
              clear hy150
              have H':=a0G.mk H
              clear H
              have p8:0≤(aD:Int):=of_decide_eq_true (by first | (with_reducible assumption) | assumption)
              have q8:aD < (a0.size:Int):=of_decide_eq_true (by first | (with_reducible assumption) | assumption)
              have hx8:=a3O a0 aD
              replace p8:=eq_true p8
              replace q8:=eq_true q8
              go_wp2_with (first | ((with_reducible refine a1F (f:=27) rfl ?_);refine a2M (some 22) rfl rfl Try.func27 (by kernel_rfl) rfl #[.int .u8 (bt a0 aD)] rfl (by (try simp only [List.map_toArray,List.map_cons,List.map_nil]);first | done | rfl | (simp only [List.length_drop,List.length_take];rfl)) ?_;(with_reducible refine (r01_Blank.calls (bt a0 aD) false _ A9.out).mono ?_);rintro e w' ⟨rfl,⟨nd,rfl⟩⟩;refine ⟨_,rfl,?_⟩) | ((with_reducible refine a1F (f:=28) rfl ?_);refine a2M (some 42) rfl rfl Try.func28 (by kernel_rfl) rfl #[.int .u8 (bt a0 aD)] rfl (by (try simp only [List.map_toArray,List.map_cons,List.map_nil]);first | done | rfl | (simp only [List.length_drop,List.length_take];rfl)) ?_;(with_reducible refine (r01_Letter.calls (bt a0 aD) false _ A12.out).mono ?_);rintro e w' ⟨rfl,⟨nd,rfl⟩⟩;refine ⟨_,rfl,?_⟩) | ((with_reducible refine a1F (f:=30) rfl ?_);refine a2M (some 56) rfl rfl Try.func30 (by kernel_rfl) rfl #[.int .u8 (bt a0 aD)] rfl (by (try simp only [List.map_toArray,List.map_cons,List.map_nil]);first | done | rfl | (simp only [List.length_drop,List.length_take];rfl)) ?_;(with_reducible refine (r01_Digit.calls (bt a0 aD) false _ A29.out).mono ?_);rintro e w' ⟨rfl,⟨nd,rfl⟩⟩;refine ⟨_,rfl,?_⟩) | ((with_reducible refine a1F (f:=31) rfl ?_);refine a2M (some 83) rfl rfl Try.func31 (by kernel_rfl) rfl #[.int .u8 (bt a0 aD)] rfl (by (try simp only [List.map_toArray,List.map_cons,List.map_nil]);first | done | rfl | (simp only [List.length_drop,List.length_take];rfl)) ?_;(with_reducible refine (r01_Sign.calls k1 (bt a0 aD) true _ A48.out).mono ?_);rintro e w' ⟨rfl,⟨nd,rfl⟩⟩;refine ⟨_,rfl,?_⟩) | ((with_reducible refine a2B (b:=.append) (xs:=#[.tmp 87,.tmp 95]) rfl ?_);at_builtin;refine Kd.a3U k72 (w0:=w) w.heap.size rfl (.tmp 87) (.tmp 95) 48 72 (.agg #[(.int .i64 0),(.string ⟨#[]⟩),(.int .i64 0)]) 32 rfl Try.underlying48 b3Q rfl (by decide) (by omega) u4 aN (⟨2,a0.extract (aD:Int).toNat ((wrap64 (aD + 1)):Int).toNat,aD⟩:S72) [.int .i64 2,.string (a0.extract (aD:Int).toNat ((wrap64 (aD + 1)):Int).toNat),.int .i64 aD] (fun _ =>True) (fun _ =>False) rfl rfl ?aP (fun _ hk =>hk.elim) ?aF ?aO ?aB ?aS ?aL ?_;(case aP =>exact a9Y _ _ _ (⟨2,a0.extract (aD:Int).toNat ((wrap64 (aD + 1)):Int).toNat,aD⟩:S72));(case aB =>exact (by repeat (first | (with_reducible first | exact HB.out | apply a0B | apply a0A | apply a0C | refine a0L ?_ bE.out) | exact HB.out)));(case aF =>exact (fun _ _ =>trivial));(case aO =>exact (by (with_reducible repeat (first | apply Kd.a1C | apply Kd.a1B | apply Kd.a1I));exact bJ.out));(case aS =>exact (a0U (by repeat (first | (with_reducible first | exact HB.out | apply a0B | apply a0A | apply a0C | refine a0L ?_ bE.out) | exact HB.out))));(case aL =>have:=LMc53.out;omega);intro v151 w54 ho hb hg hat;rw [← Ny150.out] at ho;have bA:=a0G.mk (a1N (g:=bI) (o:=.cells #[.int .i64 0,.int .i64 0] 33 (0,0)) (by (with_reducible repeat (first | refine a0Z ?_ _ | refine a1H ?_ | refine a0W ?_ _));exact aX.out) hg (Kd.R_ne bJ.out aX.out (by decide)));have bC:=a0G.mk (hb);have bH:=a0G.mk (ho);clear aX;clear HB;clear bJ;have aX:=bA;have HB:=bC;have HO152:=bH;clear bA bC bH;clear ho hb hg hat))
              go_roundg k1
              case measure =>have:=HK1.out;omega
              case rel =>exact ⟨(y150),(wrap64 (aD + 1)),(by first | rfl | (simp;done) | (simp [*];done)),H',⟨by have:=HK1.out;omega⟩,⟨by (with_reducible repeat (first | apply Kd.a1C | apply Kd.a1B | apply Kd.a1I));exact HO152.out⟩,⟨by (with_reducible repeat (first | refine a0Z ?_ _ | refine a1H ?_ | refine a0W ?_ _));exact aX.out⟩,⟨by repeat (first | (with_reducible first | exact HB.out | apply a0B | apply a0A | apply a0C | refine a0L ?_ bE.out) | exact HB.out)⟩⟩
             ·rw [if_neg c53] at H
              exact absurd H (by simp)
            ·rw [if_neg c52] at H
             exact absurd H (by simp)
           ·rw [if_neg c51] at H
            exact absurd H (by simp)
          ·replace c49:=Bool.eq_false_iff.mpr c49
           subst c49
           have H1:(none) = some (r1,r2,r3):=by rw [if_neg (show ¬ (false = true) by decide)] at H;exact H
           clear H
           have H:=H1
           clear H1
           exact absurd H (by simp)
     ·rw [if_neg c7] at H
      exact absurd H (by simp)
    ·rw [if_neg c6] at H
     have c6b0:decide (aD < (a0.size:Int)) = false:=decide_eq_false c6
     clear c6
     simp only [Option.some.injEq,Prod.mk.injEq] at H
     obtain ⟨rfl,rfl,rfl⟩:=H
     have eQ:wr.cell? ⟨bI,0,none⟩ = some (.int .i64 0):=(a0F aX.out 0).trans rfl
     have eR:wr.cell? ⟨bI,1,none⟩ = some (.int .i64 0):=(a0F aX.out 1).trans rfl
     have eS:=a0D aX.out 0
     have eT:=a0D aX.out 1
     go_wp2
     refine bodyPost_ret (b4J rfl _ _ bI 33 #[.int .i64 0,.int .i64 0] (0,0) _ rfl (by (with_reducible repeat (first | refine a0Z ?_ _ | refine a1H ?_ | refine a0W ?_ _));refine a2E (cs:=#[.int .i64 0,.int .i64 0]) ?_ 1 _ rfl;(with_reducible repeat (first | refine a0Z ?_ _ | refine a1H ?_ | refine a0W ?_ _));refine a2E (cs:=#[.int .i64 0,.int .i64 0]) ?_ 0 _ rfl;(with_reducible repeat (first | refine a0Z ?_ _ | refine a1H ?_ | refine a0W ?_ _));exact aX.out) Try.underlying33 rfl (by kernel_rfl)) rfl ?_
     exact ⟨_,by first | rfl | (simp [a0O,a0N] <;> rfl) | (simp [*,a0O,a0N] <;> rfl),by (with_reducible repeat (first | apply Kd.a1C | apply Kd.a1B | apply Kd.a1I));exact Kd.a2T (Kd.b0H (p:=⟨bI,1,none⟩) (Kd.b0H (p:=⟨bI,0,none⟩) (Kd.b7U bJ.out aX.out (by decide)) (fun _ hk =>hk.2) (.int .i64 0)) (fun _ hk =>hk.2) (.int .i64 0)) (fun _ hk =>trivial),by repeat (first | (with_reducible first | exact HB.out | apply a0B | apply a0A | apply a0C | refine a0L ?_ bE.out) | exact HB.out)⟩
end Go.Proofs.Ythhgfncliffggaa.Pr
namespace Go.Proofs.Ythhgfncliffggaa.Man
open Go.RowKit Go.Proofs.Ythhgfncliffggaa.Pr Go.Proofs.YthhgfncliffggaaW.PrintWords
attribute [local go_sem] Oper.semAt_some
structure Six (w:World) (g:Nat) (v0 v1 v2 v3 v4 v5:Value) (t:TypeId):Prop where
 b:w.heap[g]? = some (.cells #[v0,v1,v2,v3,v4,v5] t (0,0))
theorem Six.c {w:World} {g:Nat} {v0 v1 v2 v3 v4 v5:Value} {t:TypeId} (h:Six w g v0 v1 v2 v3 v4 v5 t) :
  w.cell? ⟨g,0,none⟩ = some v0∧w.cell? ⟨g,1,none⟩ = some v1∧w.cell? ⟨g,2,none⟩ = some v2∧w.cell? ⟨g,3,none⟩ = some v3∧w.cell? ⟨g,4,none⟩ = some v4∧w.cell? ⟨g,5,none⟩ = some v5 :=
 ⟨(a0F h.b 0).trans rfl,(a0F h.b 1).trans rfl,(a0F h.b 2).trans rfl,(a0F h.b 3).trans rfl,(a0F h.b 4).trans rfl,(a0F h.b 5).trans rfl⟩
theorem Six.f {w:World} {g:Nat} {v0 v1 v2 v3 v4 v5:Value} {t:TypeId} (h:Six w g v0 v1 v2 v3 v4 v5 t) :
  w.frozen? ⟨g,0,none⟩ = false∧w.frozen? ⟨g,1,none⟩ = false∧w.frozen? ⟨g,2,none⟩ = false∧w.frozen? ⟨g,3,none⟩ = false∧w.frozen? ⟨g,4,none⟩ = false∧w.frozen? ⟨g,5,none⟩ = false :=
 ⟨a0D h.b 0,a0D h.b 1,a0D h.b 2,a0D h.b 3,a0D h.b 4,a0D h.b 5⟩
theorem Six.far {w:World} {g:Nat} {v0 v1 v2 v3 v4 v5:Value} {t:TypeId} (h:Six w g v0 v1 v2 v3 v4 v5 t) {p:Addr} (hp:g≠p.block) (u:Value):Six (w.setCell p u) g v0 v1 v2 v3 v4 v5 t:=⟨a1T h.b hp u⟩
theorem Six.put1 {w:World} {g:Nat} {v0 v1 v2 v3 v4 v5:Value} {t:TypeId} (h:Six w g v0 v1 v2 v3 v4 v5 t) (u:Value):Six (w.setCell ⟨g,1,none⟩ u) g v0 u v2 v3 v4 v5 t:=⟨a2E h.b 1 u rfl⟩
theorem Six.put {w:World} {g:Nat} {v0 v1 v2 v3 v4 v5:Value} {t:TypeId} (h:Six w g v0 v1 v2 v3 v4 v5 t) (u0 u1 u2 u3 u4 u5:Value) :
  Six ((((((w.setCell ⟨g,0,none⟩ u0).setCell ⟨g,1,none⟩ u1).setCell ⟨g,2,none⟩ u2).setCell ⟨g,3,none⟩ u3).setCell ⟨g,4,none⟩ u4).setCell ⟨g,5,none⟩ u5) g u0 u1 u2 u3 u4 u5 t :=
 ⟨a2E (a2E (a2E (a2E (a2E (a2E h.b 0 u0 rfl) 1 u1 rfl) 2 u2 rfl) 3 u3 rfl) 4 u4 rfl) 5 u5 rfl⟩
theorem Six.below {w w':World} {g:Nat} {v0 v1 v2 v3 v4 v5:Value} {t:TypeId} (h:Six w g v0 v1 v2 v3 v4 v5 t) (hb:Below w.heap.size w w'):Six w' g v0 v1 v2 v3 v4 v5 t:=⟨a0V h.b hb⟩
theorem Six.alloc {w:World} {g:Nat} {v0 v1 v2 v3 v4 v5:Value} {t:TypeId} (h:Six w g v0 v1 v2 v3 v4 v5 t) (o:Obj):Six (w.alloc o) g v0 v1 v2 v3 v4 v5 t:=⟨a0W h.b o⟩
theorem Six.new (w:World) (v0 v1 v2 v3 v4 v5:Value) (t:TypeId):Six (w.alloc (.cells #[v0,v1,v2,v3,v4,v5] t)) w.heap.size v0 v1 v2 v3 v4 v5 t:=⟨a8L _ _⟩
theorem Six.new1 (w:World) (o:Obj) (v0 v1 v2 v3 v4 v5:Value) (t:TypeId):Six ((w.alloc o).alloc (.cells #[v0,v1,v2,v3,v4,v5] t)) (w.heap.size + 1) v0 v1 v2 v3 v4 v5 t:=⟨by have:=a8L (w.alloc o) (.cells #[v0,v1,v2,v3,v4,v5] t);simpa using this⟩
structure Tri (w:World) (g:Nat) (v0 v1 v2:Value) (t:TypeId):Prop where
 b:w.heap[g]? = some (.cells #[v0,v1,v2] t (0,0))
theorem Tri.c {w:World} {g:Nat} {v0 v1 v2:Value} {t:TypeId} (h:Tri w g v0 v1 v2 t):w.cell? ⟨g,0,none⟩ = some v0∧w.cell? ⟨g,1,none⟩ = some v1∧w.cell? ⟨g,2,none⟩ = some v2 :=
 ⟨(a0F h.b 0).trans rfl,(a0F h.b 1).trans rfl,(a0F h.b 2).trans rfl⟩
theorem Tri.f {w:World} {g:Nat} {v0 v1 v2:Value} {t:TypeId} (h:Tri w g v0 v1 v2 t):w.frozen? ⟨g,0,none⟩ = false∧w.frozen? ⟨g,1,none⟩ = false∧w.frozen? ⟨g,2,none⟩ = false :=
 ⟨a0D h.b 0,a0D h.b 1,a0D h.b 2⟩
theorem Tri.below {w w':World} {g:Nat} {v0 v1 v2:Value} {t:TypeId} (h:Tri w g v0 v1 v2 t) (hb:Below w.heap.size w w'):Tri w' g v0 v1 v2 t:=⟨a0V h.b hb⟩
structure Stm (w:World) (g:Nat) (v0 v1 v2 v3 v4 v5 v6 v7:Value) (t:TypeId):Prop where
 b:w.heap[g]? = some (.cells #[v0,v1,v2,v3,v4,v5,v6,v7] t (0,0))
theorem Stm.c {w:World} {g:Nat} {v0 v1 v2 v3 v4 v5 v6 v7:Value} {t:TypeId} (h:Stm w g v0 v1 v2 v3 v4 v5 v6 v7 t) :
  w.cell? ⟨g,0,none⟩ = some v0∧w.cell? ⟨g,1,none⟩ = some v1∧w.cell? ⟨g,2,none⟩ = some v2∧w.cell? ⟨g,3,none⟩ = some v3∧w.cell? ⟨g,4,none⟩ = some v4∧w.cell? ⟨g,5,none⟩ = some v5∧w.cell? ⟨g,6,none⟩ = some v6∧w.cell? ⟨g,7,none⟩ = some v7 :=
 ⟨(a0F h.b 0).trans rfl,(a0F h.b 1).trans rfl,(a0F h.b 2).trans rfl,(a0F h.b 3).trans rfl,(a0F h.b 4).trans rfl,(a0F h.b 5).trans rfl,(a0F h.b 6).trans rfl,(a0F h.b 7).trans rfl⟩
theorem Stm.f {w:World} {g:Nat} {v0 v1 v2 v3 v4 v5 v6 v7:Value} {t:TypeId} (h:Stm w g v0 v1 v2 v3 v4 v5 v6 v7 t) :
  w.frozen? ⟨g,0,none⟩ = false∧w.frozen? ⟨g,1,none⟩ = false∧w.frozen? ⟨g,2,none⟩ = false∧w.frozen? ⟨g,3,none⟩ = false∧w.frozen? ⟨g,4,none⟩ = false∧w.frozen? ⟨g,5,none⟩ = false∧w.frozen? ⟨g,6,none⟩ = false∧w.frozen? ⟨g,7,none⟩ = false :=
 ⟨a0D h.b 0,a0D h.b 1,a0D h.b 2,a0D h.b 3,a0D h.b 4,a0D h.b 5,a0D h.b 6,a0D h.b 7⟩
theorem Stm.below {w w':World} {g:Nat} {v0 v1 v2 v3 v4 v5 v6 v7:Value} {t:TypeId} (h:Stm w g v0 v1 v2 v3 v4 v5 v6 v7 t) (hb:Below w.heap.size w w'):Stm w' g v0 v1 v2 v3 v4 v5 v6 v7 t:=⟨a0V h.b hb⟩
structure Puts (W w1:World) (g:Nat):Prop where
 far:∀ g' ob,g'≠g→W.heap[g']? = some ob→w1.heap[g']? = some ob
 below:∀ w0:World,w0.heap.size≤g→Below w0.heap.size w0 W→Below w0.heap.size w0 w1
theorem Six.far' {W w1:World} {g g':Nat} {v0 v1 v2 v3 v4 v5:Value} {t:TypeId} (h:Six W g v0 v1 v2 v3 v4 v5 t) (hp:Puts W w1 g') (hn:g≠g'):Six w1 g v0 v1 v2 v3 v4 v5 t:=⟨hp.far _ _ hn h.b⟩
theorem Tri.far' {W w1:World} {g g':Nat} {v0 v1 v2:Value} {t:TypeId} (h:Tri W g v0 v1 v2 t) (hp:Puts W w1 g') (hn:g≠g'):Tri w1 g v0 v1 v2 t:=⟨hp.far _ _ hn h.b⟩
theorem Stm.far' {W w1:World} {g g':Nat} {v0 v1 v2 v3 v4 v5 v6 v7:Value} {t:TypeId} (h:Stm W g v0 v1 v2 v3 v4 v5 v6 v7 t) (hp:Puts W w1 g') (hn:g≠g'):Stm w1 g v0 v1 v2 v3 v4 v5 v6 v7 t:=⟨hp.far _ _ hn h.b⟩
theorem a0I {w:World} {g g':Nat} {o:Obj} (h:w.heap[g]? = some o) (hg:g' = w.heap.size):g≠g':=by have:=a1G h;omega
theorem a4N {W:World} {g:Nat} {e:TypeId} {cur:Array Value} (seg:List Value) (hh:W.heap[g]? = some (.cells cur e (0,0))) (hs:seg.length = cur.size) :
  (W.setCells g 0 seg).heap[g]? = some (.cells seg.toArray e (0,0))∧Puts W (W.setCells g 0 seg) g:=by
 refine ⟨?_,fun g' ob hg hb =>(a3F seg 0 g' hg).trans hb,fun w0 hg hb =>?_⟩
 ·obtain ⟨cur',h1,h2,h3⟩:=a5H seg 0 W cur hh (by omega)
  rw [h1]
  have e:cur' = seg.toArray:=by
   apply Array.toList_inj.1
   rw [h3,List.take_zero,List.nil_append,List.drop_of_length_le (by rw [Array.length_toList];omega),List.append_nil]
  rw [e]
 ·obtain ⟨h1,h2,h3,h4⟩:=a3P g seg 0 W
  refine hb.trans ⟨h1,h2,h3,by rw [h4];exact Nat.le_refl _,fun k hk =>?_⟩
  exact a3F seg 0 k (by omega)
theorem a1E {P:Program} {ops:Array Oper} {rest:List Oper} {o:Oper} {a:Act} {Q:Exit→Act→World→Prop} {W:World} (hgd:o.guard = none) {t:TypeId} {p:Tmp} {v:Operand} (ho:o.op = .store t (.tmp p) v) (hN:o.dst = none) {g:Nat} {e:TypeId} {cur:Array Value} (seg:List Value)
  (hh:W.heap[g]? = some (.cells cur e (0,0))) (hp:a.eval (.tmp p) = .pointer (some ⟨g,0,none⟩)) (hv:(a.eval v).cells.toList = seg) (ht:(P.info? t).map (·.size) = some seg.length) (hs:seg.length = cur.size) (h1:∀ q ∈ seg,q.oneCell' = true)
  (h:∀ w1,w1.heap[g]? = some (.cells seg.toArray e (0,0))→Puts W w1 g→wpList P ops Q rest a w1):wpList P ops Q (o :: rest) a W:=by
 obtain ⟨q1,q2⟩:=a4N seg hh hs
 refine wpList_plain hgd fun K hK =>?_
 have hrun:=a4W (P:=P) (o:=0) t (a.eval v) seg hh hv ht (by omega) h1
 unfold Oper.wp execOp
 simp only [ho,hp,Sem.run_bind,Sem.run_pure,Result.andThen_ok,hrun]
 show K (a.put o.dst undef) _
 rw [hN]
 exact hK _ _ (h _ q1 q2)
theorem b4F {W:World} {g i:Nat} {e:TypeId} {cur:Array Value} (u:Value) (hh:W.heap[g]? = some (.cells cur e (0,0))) :
  (W.setCells g i [u]).heap[g]? = some (.cells (cur.setIfInBounds i u) e (0,0))∧Puts W (W.setCells g i [u]) g:=by
 refine ⟨?_,fun g' ob hg hb =>(a3F [u] i g' hg).trans hb,fun w0 hg hb =>?_⟩
 ·simp only [World.setCells]
  exact b2U hh i u
 ·obtain ⟨h1,h2,h3,h4⟩:=a3P g [u] i W
  refine hb.trans ⟨h1,h2,h3,by rw [h4];exact Nat.le_refl _,fun k hk =>?_⟩
  exact a3F [u] i k (by omega)
theorem a5G {P:Program} {ops:Array Oper} {rest:List Oper} {o:Oper} {a:Act} {Q:Exit→Act→World→Prop} {W:World} (hgd:o.guard = none) {t:TypeId} {p:Tmp} {v:Operand} (ho:o.op = .store t (.tmp p) v) (hN:o.dst = none) {g i:Nat} {e:TypeId} {cur:Array Value} (u:Value)
  (hh:W.heap[g]? = some (.cells cur e (0,0))) (hp:a.eval (.tmp p) = .pointer (some ⟨g,i,none⟩)) (hv:a.eval v = u) (hu:u.cells.toList = [u]) (ht:(P.info? t).map (·.size) = some 1) (hs:i + 1≤cur.size) (h1:u.oneCell' = true)
  (h:∀ w1,w1.heap[g]? = some (.cells (cur.setIfInBounds i u) e (0,0))→Puts W w1 g→wpList P ops Q rest a w1):wpList P ops Q (o :: rest) a W:=by
 obtain ⟨q1,q2⟩:=b4F (i:=i) u hh
 refine wpList_plain hgd fun K hK =>?_
 have hrun:=a4W (P:=P) (o:=i) t (a.eval v) [u] hh (by rw [hv];exact hu) ht (by simpa using hs) (by simpa using h1)
 unfold Oper.wp execOp
 simp only [ho,hp,Sem.run_bind,Sem.run_pure,Result.andThen_ok,hrun]
 show K (a.put o.dst undef) _
 rw [hN]
 exact hK _ _ (h _ q1 q2)
theorem b1V {W w':World} (h:Below W.drew.heap.size W.drew w'):Below W.heap.size W w':=⟨h.os,h.tape,h.output,h.size,h.block⟩
theorem Stm.far {w:World} {g:Nat} {v0 v1 v2 v3 v4 v5 v6 v7:Value} {t:TypeId} (h:Stm w g v0 v1 v2 v3 v4 v5 v6 v7 t) {p:Addr} (hp:g≠p.block) (u:Value):Stm (w.setCell p u) g v0 v1 v2 v3 v4 v5 v6 v7 t:=⟨a1T h.b hp u⟩
theorem Stm.put {w:World} {g:Nat} {v0 v1 v2 v3 v4 v5 v6 v7:Value} {t:TypeId} (h:Stm w g v0 v1 v2 v3 v4 v5 v6 v7 t) (u0 u1 u2 u3 u4 u5 u6 u7:Value) :
  Stm ((((((((w.setCell ⟨g,0,none⟩ u0).setCell ⟨g,1,none⟩ u1).setCell ⟨g,2,none⟩ u2).setCell ⟨g,3,none⟩ u3).setCell ⟨g,4,none⟩ u4).setCell ⟨g,5,none⟩ u5).setCell ⟨g,6,none⟩ u6).setCell ⟨g,7,none⟩ u7) g u0 u1 u2 u3 u4 u5 u6 u7 t :=
 ⟨(a4N [u0,u1,u2,u3,u4,u5,u6,u7] h.b rfl).1⟩
theorem b5Q (w:World) (g:Nat) (u0 u1 u2 u3 u4 u5:Value):(((((w.setCell ⟨g,0,none⟩ u0).setCell ⟨g,1,none⟩ u1).setCell ⟨g,2,none⟩ u2).setCell ⟨g,3,none⟩ u3).setCell ⟨g,4,none⟩ u4).setCell ⟨g,5,none⟩ u5 = w.setCells g 0 [u0,u1,u2,u3,u4,u5]:=rfl
theorem b5P (w:World) (g:Nat) (u0 u1 u2 u3 u4 u5 u6 u7:Value):(((((((w.setCell ⟨g,0,none⟩ u0).setCell ⟨g,1,none⟩ u1).setCell ⟨g,2,none⟩ u2).setCell ⟨g,3,none⟩ u3).setCell ⟨g,4,none⟩ u4).setCell ⟨g,5,none⟩ u5).setCell ⟨g,6,none⟩ u6).setCell ⟨g,7,none⟩ u7 = w.setCells g 0 [u0,u1,u2,u3,u4,u5,u6,u7]:=rfl
structure One (w:World) (g:Nat) (v0:Value) (t:TypeId):Prop where
 b:w.heap[g]? = some (.cells #[v0] t (0,0))
theorem One.c {w:World} {g:Nat} {v0:Value} {t:TypeId} (h:One w g v0 t):w.cell? ⟨g,0,none⟩ = some v0∧True:=⟨(a0F h.b 0).trans rfl,trivial⟩
theorem One.f {w:World} {g:Nat} {v0:Value} {t:TypeId} (h:One w g v0 t):w.frozen? ⟨g,0,none⟩ = false∧True:=⟨a0D h.b 0,trivial⟩
theorem One.below {w w1:World} {g:Nat} {v0:Value} {t:TypeId} (h:One w g v0 t) (hb:Below w.heap.size w w1):One w1 g v0 t:=⟨a0V h.b hb⟩
theorem One.far' {w w1:World} {g:Nat} {v0:Value} {t:TypeId} {g':Nat} (h:One w g v0 t) (hp:Puts w w1 g') (hn:g≠g'):One w1 g v0 t:=⟨hp.far _ _ hn h.b⟩
theorem One.grown {w w1:World} {g:Nat} {v0:Value} {t:TypeId} {row:Option Nat} (h:One w g v0 t) (hg:w.grownBy w1 row) (hne:some g≠row):One w1 g v0 t:=⟨a1N h.b hg hne⟩
structure Two (w:World) (g:Nat) (v0 v1:Value) (t:TypeId):Prop where
 b:w.heap[g]? = some (.cells #[v0,v1] t (0,0))
theorem Two.c {w:World} {g:Nat} {v0 v1:Value} {t:TypeId} (h:Two w g v0 v1 t):w.cell? ⟨g,0,none⟩ = some v0∧w.cell? ⟨g,1,none⟩ = some v1∧True:=⟨(a0F h.b 0).trans rfl,(a0F h.b 1).trans rfl,trivial⟩
theorem Two.f {w:World} {g:Nat} {v0 v1:Value} {t:TypeId} (h:Two w g v0 v1 t):w.frozen? ⟨g,0,none⟩ = false∧w.frozen? ⟨g,1,none⟩ = false∧True:=⟨a0D h.b 0,a0D h.b 1,trivial⟩
theorem Two.below {w w1:World} {g:Nat} {v0 v1:Value} {t:TypeId} (h:Two w g v0 v1 t) (hb:Below w.heap.size w w1):Two w1 g v0 v1 t:=⟨a0V h.b hb⟩
theorem Two.far' {w w1:World} {g:Nat} {v0 v1:Value} {t:TypeId} {g':Nat} (h:Two w g v0 v1 t) (hp:Puts w w1 g') (hn:g≠g'):Two w1 g v0 v1 t:=⟨hp.far _ _ hn h.b⟩
theorem Two.grown {w w1:World} {g:Nat} {v0 v1:Value} {t:TypeId} {row:Option Nat} (h:Two w g v0 v1 t) (hg:w.grownBy w1 row) (hne:some g≠row):Two w1 g v0 v1 t:=⟨a1N h.b hg hne⟩
structure RowB (w:World) (g:Nat) (o:Obj):Prop where
 b:w.heap[g]? = some o
theorem RowB.below {w w':World} {g:Nat} {o:Obj} (h:RowB w g o) (hb:Below w.heap.size w w'):RowB w' g o:=⟨a0V h.b hb⟩
theorem RowB.far' {W w1:World} {g g':Nat} {o:Obj} (h:RowB W g o) (hp:Puts W w1 g') (hn:g≠g'):RowB w1 g o:=⟨hp.far _ _ hn h.b⟩
theorem Six.grown {w w1:World} {g:Nat} {v0 v1 v2 v3 v4 v5:Value} {t:TypeId} {row:Option Nat} (h:Six w g v0 v1 v2 v3 v4 v5 t) (hg:w.grownBy w1 row) (hne:some g≠row):Six w1 g v0 v1 v2 v3 v4 v5 t:=⟨a1N h.b hg hne⟩
theorem Tri.grown {w w1:World} {g:Nat} {v0 v1 v2:Value} {t:TypeId} {row:Option Nat} (h:Tri w g v0 v1 v2 t) (hg:w.grownBy w1 row) (hne:some g≠row):Tri w1 g v0 v1 v2 t:=⟨a1N h.b hg hne⟩
theorem Stm.grown {w w1:World} {g:Nat} {v0 v1 v2 v3 v4 v5 v6 v7:Value} {t:TypeId} {row:Option Nat} (h:Stm w g v0 v1 v2 v3 v4 v5 v6 v7 t) (hg:w.grownBy w1 row) (hne:some g≠row):Stm w1 g v0 v1 v2 v3 v4 v5 v6 v7 t:=⟨a1N h.b hg hne⟩
theorem RowB.grown {w w1:World} {g:Nat} {o:Obj} {row:Option Nat} (h:RowB w g o) (hg:w.grownBy w1 row) (hne:some g≠row):RowB w1 g o:=⟨a1N h.b hg hne⟩
theorem a3H {P:Program} {ops:Array Oper} {rest:List Oper} {o:Oper} {a:Act} {Q:Exit→Act→World→Prop} {W:World} (hgd:o.guard = none) {N:Tmp} (_hd:o.dst = some N) {cs:Array Value} {t:TypeId} {n:Nat}
  (hrun:(execOp a.eval o).run P W = .ok (.value (.slice (some ⟨W.heap.size,0,none⟩) n n)) (W.alloc (.cells cs t (0,0))))
  (h:∀ g,g = W.heap.size→∀ w1,w1.heap[g]? = some (.cells cs t (0,0))→Below W.heap.size W w1→wpList P ops Q rest (a.put o.dst (.slice (some ⟨g,0,none⟩) n n)) w1):wpList P ops Q (o :: rest) a W :=
 Kd.a8G hgd hrun (h _ rfl _ (a8L W _) (a0B (Below.refl _ _) _))
theorem a5K {α:Type} (d:Kd α) (e:TypeId) {w:World} {g base:Nat} (h:w.heap[g]? = some (.cells #[] e (0,0))) (hb:base≤g) (ok:Nat→Prop) (hk:ok g):d.R e w base ok (.slice (some ⟨g,0,none⟩) 0 0) []:=by
 refine ⟨fun k hk' =>by (have:g = k:=by simpa [Value.ownBlock] using hk');subst this;exact hk,[],⟨by simp,.inr ⟨g,0,#[],rfl,hb,h,Nat.le_refl _,by simp [maxLen],by simp,by simp⟩⟩,Reps.none _ _⟩
theorem a1Z {α:Type} {d:Kd α} {W w1:World} {g n:Nat} {ok:Nat→Prop} {A:Option Addr} {xs:List α} (h:Kd.F d W ok A n xs) (hp:Puts W w1 g) (hn:¬ ok g):Kd.F d w1 ok A n xs :=
 Kd.a4D h (fun k hk hlt =>by
  have he:W.heap[k]? = some W.heap[k]:=Array.getElem?_eq_getElem hlt
  rw [hp.far k _ (fun e =>hn (e ▸ hk)) he,he])
theorem a5N {α:Type} {d:Kd α} {e:TypeId} {W w1:World} {base g:Nat} {ok:Nat→Prop} {v:Value} {xs:List α} (h:Kd.N d e W base ok v xs) (hp:Puts W w1 g) (hn:¬ ok g):Kd.N d e w1 base ok v xs :=
 Kd.a8R h (fun k hk hlt =>by
  have he:W.heap[k]? = some W.heap[k]:=Array.getElem?_eq_getElem hlt
  rw [hp.far k _ (fun e =>hn (e ▸ hk)) he,he])
def RowOut {α:Type} (d:Kd α) (w w':World) (xs:List α) (v:Value):Prop:=∃ A c',v = .slice A xs.length c'∧xs.length≤c'∧Kd.F d w' (fun k =>w.heap.size≤k) A xs.length xs
theorem RowOut.tell {α:Type} {d:Kd α} {w w':World} {xs:List α} {v:Value} (h:RowOut d w w' xs v):∃ A c',v = .slice A xs.length c'∧xs.length≤c'∧Kd.F d w' (fun k =>w.heap.size≤k) A xs.length xs:=h
theorem a5Y {α:Type} {d:Kd α} {e:TypeId} {w W w':World} {g c':Nat} {xs:List α} {o:Obj} (h:d.R e W w.heap.size (fun k =>k = g) (.slice (some ⟨g,0,none⟩) xs.length c') xs) (hW:W.heap[g]? = some o) (hw:w'.heap[g]? = some o) (hg:w.heap.size≤g):RowOut d w w' xs (.slice (some ⟨g,0,none⟩) xs.length c'):=by
 have h':=Kd.a7E (w1:=w') h (fun k hk _ =>by rw [hk,hW,hw])
 exact ⟨_,_,rfl,(Kd.a0K h').2.1,Kd.a2F (Kd.R_F h') (fun k hk =>hk ▸ hg)⟩
theorem b3C {α:Type} {d:Kd α} {e:TypeId} {w w':World} {ok:Nat→Prop} {v:Value} {xs:List α} (h:Kd.N d e w' w.heap.size ok v xs) (hk:∀ k,ok k→w.heap.size≤k):RowOut d w w' xs v:=by
 obtain ⟨A,c,rfl⟩:=Kd.a5U h
 exact ⟨_,_,rfl,(Kd.a6D h).2.1,Kd.a2F (Kd.N_F h) hk⟩
theorem b0C {α:Type} (d:Kd α) (W:World) (ok:Nat→Prop):Kd.F d W ok none 0 []:=fun W' _ =>Kd.b8D d W'
theorem a2R (k:Nat) (T:List S72) (A:Option Addr) (c:Nat) (i e n:Int) (s:ByteArray) (w:World) (hc:T.length≤c) (hC:Kd.C k72 w A T.length T) (hT:T.length≤65536) (hi:0≤i) (hn:i < T.length) (h:r02_is.f k T i e n 0 0 s = some true) :
  Calls Try.prog 34 #[.agg #[.slice A T.length c,.int .i64 i,.int .i64 e,.int .i64 n,.int .i64 0,.int .i64 0],.string s] w fun x w' =>x = .returned (.agg #[.slice A T.length c,.int .i64 (i + 1),.int .i64 e,.int .i64 n,.int .i64 0,.int .i64 0])∧Below w.heap.size w w':=by
 have HB:=Lib.hid (Below.refl w.heap.size w)
 have K1:=Lib.hid hC
 clear hC
 go_enter Try.func34,Try.ntmps34
 go_wp2_with (first
  | (go_at_call 61;with_reducible refine (r02_is.calls k A c T i e n 0 0 s true _ (Kd.a0J K1.out (a0B (a0B (Below.refl _ _) _) _)) hc h).mono ?_;rintro x w' ⟨rfl,hb⟩;have b2:=((Six.new w _ _ _ _ _ _ 74).alloc _).below hb;have b4:=(Six.new1 w _ _ _ _ _ _ _ 74).below hb;obtain ⟨c20,c21,c22,c23,c24,c25⟩:=b2.c;obtain ⟨c40,c41,c42,c43,c44,c45⟩:=b4.c;obtain ⟨f20,f21,f22,f23,f24,f25⟩:=b2.f;obtain ⟨f40,f41,f42,f43,f44,f45⟩:=b4.f))
 have b:=((b4.far (p:=⟨w.heap.size,1,none⟩) (by simp) (.int .i64 (i + 1))).put (.slice A T.length c) (.int .i64 (i + 1)) (.int .i64 e) (.int .i64 n) (.int .i64 0) (.int .i64 0)).b
 refine bodyPost_ret (results_cell_row rfl _ _ (w.heap.size + 1) 74 _ (0,0) _ rfl b Try.underlying74 rfl (by kernel_rfl)) rfl ?_
 refine ⟨rfl,?_⟩
 repeat (refine a0L ?_ (by omega))
 exact a0E (a0B (a0B (Below.refl _ _) _) _) hb
open Go.RowKit Go.Proofs.Ythhgfncliffggaa.Pr Go.Proofs.YthhgfncliffggaaW.PrintWords
attribute [local go_sem] Oper.semAt_some
set_option maxRecDepth 100000 in
set_option maxHeartbeats 4000000 in
theorem a6L (k:Nat) (T:List S72) (A:Option Addr) (c:Nat) (i e n:Int) (w:World) (hc:T.length≤c) (hC:Kd.C k72 w A T.length T) (hT:T.length≤65536) (hi:0≤i) (hn:i < T.length) (h:r02_isName.f k T i e n 0 0 = some true) :
  Calls Try.prog 33 #[.agg #[.slice A T.length c,.int .i64 i,.int .i64 e,.int .i64 n,.int .i64 0,.int .i64 0]] w fun x w' =>x = .returned (.tuple #[.agg #[.slice A T.length c,.int .i64 (i + 1),.int .i64 e,.int .i64 n,.int .i64 0,.int .i64 0],.string (a1D T i).f1])∧Below w.heap.size w w':=by
 have HB:=Lib.hid (Below.refl w.heap.size w)
 have K1:=Lib.hid hC
 clear hC
 go_enter Try.func33,Try.ntmps33
 go_upto_region 4 with (first
  | (go_at_call 59;with_reducible refine (r02_isName.calls k A c T i e n 0 0 true _ (Kd.a0J K1.out (a0B (a0B (Below.refl _ _) _) _)) hc h).mono ?_;rintro x w' ⟨rfl,hb⟩;have b1:=((Six.new w _ _ _ _ _ _ 74).alloc _).below hb;have b2:=(Six.new1 w _ _ _ _ _ _ _ 74).below hb;obtain ⟨c20,c21,c22,c23,c24,c25⟩:=b1.c;obtain ⟨c40,c41,c42,c43,c44,c45⟩:=b2.c;obtain ⟨f20,f21,f22,f23,f24,f25⟩:=b1.f;obtain ⟨f40,f41,f42,f43,f44,f45⟩:=b2.f))
 have hb2:Below w.heap.size w (w'.setCell ⟨w.heap.size,1,none⟩ (.int .i64 (i + 1))):=a0L (a0E (a0B (a0B (Below.refl _ _) _) _) hb) (Nat.le_refl _)
 have b1':=b1.put1 (.int .i64 (i + 1))
 have b2':=b2.far (p:=⟨w.heap.size,1,none⟩) (by simp) (.int .i64 (i + 1))
 clear c20 c21 c22 c23 c24 c25 c40 c41 c42 c43 c44 c45 f20 f21 f22 f23 f24 f25 f40 f41 f42 f43 f44 f45 b1 b2 hb
 generalize w'.setCell ⟨w.heap.size,1,none⟩ (.int .i64 (i + 1)) = w2 at hb2 b1' b2' ⊢
 have hw:wrap64 (i + 1 - 1) = i:=by simp only [wrap64];omega
 obtain ⟨ad,rfl,x0,x1,x2⟩:=a4S (Kd.a0J K1.out hb2) i hi hn
 obtain ⟨ad',e',y0,_,_⟩:=a4S K1.out i hi hn
 obtain rfl:ad = ad':=by injection e'
 have hl:=World.block_lt_of_cell? _ _ y0
 have n1:(ad.add (i.toNat * 3)).block≠w.heap.size + 1:=by omega
 have n2:¬ (w.heap.size + 1 = (ad.add (i.toNat * 3)).block):=by omega
 obtain ⟨c20,c21,c22,c23,c24,c25⟩:=b1'.c;obtain ⟨c40,c41,c42,c43,c44,c45⟩:=b2'.c;obtain ⟨f20,f21,f22,f23,f24,f25⟩:=b1'.f;obtain ⟨f40,f41,f42,f43,f44,f45⟩:=b2'.f
 go_region
 go_wp2
 have b3:=(b2'.put (.slice (some ad) T.length c) (.int .i64 (i + 1)) (.int .i64 e) (.int .i64 n) (.int .i64 0) (.int .i64 0)).b
 have hb3:Below w.heap.size w ((((((w2.setCell ⟨w.heap.size + 1,0,none⟩ (.slice (some ad) T.length c)).setCell ⟨w.heap.size + 1,1,none⟩ (.int .i64 (i + 1))).setCell ⟨w.heap.size + 1,2,none⟩ (.int .i64 e)).setCell ⟨w.heap.size + 1,3,none⟩ (.int .i64 n)).setCell ⟨w.heap.size + 1,4,none⟩ (.int .i64 0)).setCell ⟨w.heap.size + 1,5,none⟩ (.int .i64 0)):=by
  repeat (refine a0L ?_ (Nat.le_succ _))
  exact hb2
 generalize ((((((w2.setCell ⟨w.heap.size + 1,0,none⟩ (.slice (some ad) T.length c)).setCell ⟨w.heap.size + 1,1,none⟩ (.int .i64 (i + 1))).setCell ⟨w.heap.size + 1,2,none⟩ (.int .i64 e)).setCell ⟨w.heap.size + 1,3,none⟩ (.int .i64 n)).setCell ⟨w.heap.size + 1,4,none⟩ (.int .i64 0)).setCell ⟨w.heap.size + 1,5,none⟩ (.int .i64 0)) = w3 at b3 hb3 ⊢
 refine bodyPost_ret (a3V rfl _ _ (w.heap.size + 1) 74 _ (0,0) _ rfl (a1H b3) Try.underlying74 rfl (by kernel_rfl)) rfl ?_
 exact ⟨rfl,a0C hb3⟩
open Go.RowKit Go.Proofs.Ythhgfncliffggaa.Pr Go.Proofs.YthhgfncliffggaaW.PrintWords
attribute [local go_sem] Oper.semAt_some
theorem b5M:(Try.prog.info? 3).map (·.size) = some 1:=by kernel_rfl
theorem sizeT9:(Try.prog.info? 9).map (·.size) = some 1:=by kernel_rfl
theorem sizeSix:(Try.prog.info? 74).map (·.size) = some 6:=by kernel_rfl
theorem sizeTri:(Try.prog.info? 136).map (·.size) = some 3:=by kernel_rfl
theorem sizeStm:(Try.prog.info? 65).map (·.size) = some 8:=by kernel_rfl
set_option maxRecDepth 100000 in
set_option maxHeartbeats 8000000 in
theorem b1C (k:Nat) (T:List S72) (ad:Addr) (c:Nat) (i e n:Int) (w:World) (hc:T.length≤c) (hC:Kd.C k72 w (some ad) T.length T) (hT:T.length≤65536) (hi:0≤i) (hn:i < T.length)
  (h0:r02_is.f k T i e n 0 0 (⟨#[110,117,108,108]⟩:ByteArray) = some false) (h1:r02_is.f k T i e n 0 0 (⟨#[116,114,117,101]⟩:ByteArray) = some false) (h2:r02_is.f k T i e n 0 0 (⟨#[102,97,108,115,101]⟩:ByteArray) = some false) (h3:r02_is.f k T i e n 0 0 (⟨#[38]⟩:ByteArray) = some false) (hk:(a1D T i).f0 = 0) (hq:r02_isName.f k T i e n 0 0 = some true) :
  Calls Try.prog 77 #[.agg #[.slice (some ad) T.length c,.int .i64 i,.int .i64 e,.int .i64 n,.int .i64 0,.int .i64 0]] w fun x w' =>x = .returned (.tuple #[.agg #[.slice (some ad) T.length c,.int .i64 (i + 1),.int .i64 e,.int .i64 n,.int .i64 0,.int .i64 0],.agg #[.int .i64 4,.int .i64 0,.string (a1D T i).f1]])∧Below w.heap.size w w':=by
 have HB:=Lib.hid (Below.refl w.heap.size w)
 have K0:=Lib.hid hC
 clear hC
 obtain ⟨ad',e',x0,x1,x2⟩:=a4S K0.out i hi hn
 obtain rfl:ad = ad':=by injection e'
 rw [hk] at x0
 have X0:=Lib.hid x0
 clear x0
 clear x1 x2
 go_enter Try.func77,Try.ntmps77
 go_wp2_with (first
  | ((with_reducible refine a0P (N:=1) rfl ?_);refine a0Q ?hg (N:=1) ?hd (cs:=#[.slice (some ad) T.length c,.int .i64 i,.int .i64 e,.int .i64 n,.int .i64 0,.int .i64 0]) (t:=74) ?hr ?_;(case hd =>rfl);(case hg =>rfl);(case hr =>first | (go_simp;done) | (go_simp;rfl));intro g1 hg w1 hx hb;have G1:=Lib.hid (show w.heap.size≤g1 by rw [hg];exact HB.out.size);have HB:=Lib.hid (a0E HB.out hb);have B1:=Lib.hid (Six.mk hx);clear hx hb hg;have k1:=And.intro B1.out.c B1.out.f)
  | ((with_reducible refine a0P (N:=2) rfl ?_);refine a0Q ?hg (N:=2) ?hd (cs:=#[.slice none 0 0,.int .i64 0,.int .i64 0,.int .i64 0,.int .i64 0,.int .i64 0]) (t:=74) ?hr ?_;(case hd =>rfl);(case hg =>rfl);(case hr =>first | (go_simp;done) | (go_simp;rfl));intro g2 hg w1 hx hb;clear k1;have cB:=Lib.hid (a0I B1.out.b hg);have G2:=Lib.hid (show w.heap.size≤g2 by rw [hg];exact HB.out.size);have B1:=Lib.hid (B1.out.below hb);have HB:=Lib.hid (a0E HB.out hb);have B2:=Lib.hid (Six.mk hx);clear hx hb hg;have k1:=And.intro B1.out.c B1.out.f;have k2:=And.intro B2.out.c B2.out.f)
  | ((with_reducible refine a0P (N:=3) rfl ?_);refine a0Q ?hg (N:=3) ?hd (cs:=#[.int .i64 0,.int .i64 0,.string ⟨#[]⟩]) (t:=136) ?hr ?_;(case hd =>rfl);(case hg =>rfl);(case hr =>first | (go_simp;done) | (go_simp;rfl));intro g3 hg w1 hx hb;clear k1 k2;have qI:=Lib.hid (a0I B1.out.b hg);have fK:=Lib.hid (a0I B2.out.b hg);have G3:=Lib.hid (show w.heap.size≤g3 by rw [hg];exact HB.out.size);have B1:=Lib.hid (B1.out.below hb);have B2:=Lib.hid (B2.out.below hb);have HB:=Lib.hid (a0E HB.out hb);have B3:=Lib.hid (Tri.mk hx);clear hx hb hg;have k1:=And.intro B1.out.c B1.out.f;have k2:=And.intro B2.out.c B2.out.f;have k3:=And.intro B3.out.c B3.out.f)
  | (go_at_call 61;with_reducible refine (r02_is.calls k (some ad) c T i e n 0 0 (⟨#[110,117,108,108]⟩:ByteArray) false _ (Kd.a0J K0.out HB.out) hc h0).mono ?_;rintro x w1 ⟨rfl,hb⟩;clear k1 k2 k3;have B1:=Lib.hid (B1.out.below hb);have B2:=Lib.hid (B2.out.below hb);have B3:=Lib.hid (B3.out.below hb);have HB:=Lib.hid (a0E HB.out hb);clear hb;have k1:=And.intro B1.out.c B1.out.f;have k2:=And.intro B2.out.c B2.out.f;have k3:=And.intro B3.out.c B3.out.f)
  | (go_at_call 61;with_reducible refine (r02_is.calls k (some ad) c T i e n 0 0 (⟨#[116,114,117,101]⟩:ByteArray) false _ (Kd.a0J K0.out HB.out) hc h1).mono ?_;rintro x w1 ⟨rfl,hb⟩;clear k1 k2 k3;have B1:=Lib.hid (B1.out.below hb);have B2:=Lib.hid (B2.out.below hb);have B3:=Lib.hid (B3.out.below hb);have HB:=Lib.hid (a0E HB.out hb);clear hb;have k1:=And.intro B1.out.c B1.out.f;have k2:=And.intro B2.out.c B2.out.f;have k3:=And.intro B3.out.c B3.out.f)
  | (go_at_call 61;with_reducible refine (r02_is.calls k (some ad) c T i e n 0 0 (⟨#[102,97,108,115,101]⟩:ByteArray) false _ (Kd.a0J K0.out HB.out) hc h2).mono ?_;rintro x w1 ⟨rfl,hb⟩;clear k1 k2 k3;have B1:=Lib.hid (B1.out.below hb);have B2:=Lib.hid (B2.out.below hb);have B3:=Lib.hid (B3.out.below hb);have HB:=Lib.hid (a0E HB.out hb);clear hb;have k1:=And.intro B1.out.c B1.out.f;have k2:=And.intro B2.out.c B2.out.f;have k3:=And.intro B3.out.c B3.out.f)
  | (go_at_call 61;with_reducible refine (r02_is.calls k (some ad) c T i e n 0 0 (⟨#[38]⟩:ByteArray) false _ (Kd.a0J K0.out HB.out) hc h3).mono ?_;rintro x w1 ⟨rfl,hb⟩;clear k1 k2 k3;have B1:=Lib.hid (B1.out.below hb);have B2:=Lib.hid (B2.out.below hb);have B3:=Lib.hid (B3.out.below hb);have HB:=Lib.hid (a0E HB.out hb);clear hb;have k1:=And.intro B1.out.c B1.out.f;have k2:=And.intro B2.out.c B2.out.f;have k3:=And.intro B3.out.c B3.out.f)
  | (go_at_call 32;with_reducible refine (r02_ok.calls (some ad) c T i e n 0 0 true _ (Kd.a0J K0.out HB.out) hc rfl).mono ?_;rintro x w1 ⟨rfl,hb⟩;clear k1 k2 k3;have B1:=Lib.hid (B1.out.below hb);have B2:=Lib.hid (B2.out.below hb);have B3:=Lib.hid (B3.out.below hb);have HB:=Lib.hid (a0E HB.out hb);clear hb;have k1:=And.intro B1.out.c B1.out.f;have k2:=And.intro B2.out.c B2.out.f;have k3:=And.intro B3.out.c B3.out.f;have x0:=(HB.out.cell (World.block_lt_of_cell? _ _ X0.out)).trans X0.out)
  | (go_at_call 33;with_reducible refine (a6L k T (some ad) c i e n _ hc (Kd.a0J K0.out HB.out) hT hi hn hq).mono ?_;rintro x w1 ⟨rfl,hb⟩;clear k1 k2 k3;have B1:=Lib.hid (B1.out.below hb);have B2:=Lib.hid (B2.out.below hb);have B3:=Lib.hid (B3.out.below hb);have HB:=Lib.hid (a0E HB.out hb);clear hb;have k1:=And.intro B1.out.c B1.out.f;have k2:=And.intro B2.out.c B2.out.f;have k3:=And.intro B3.out.c B3.out.f)
  | ((with_reducible refine a0P (N:=11) rfl ?_);refine a0Q ?hg (N:=11) ?hd (cs:=#[.slice none 0 0,.int .i64 0,.int .i64 0,.int .i64 0,.int .i64 0,.int .i64 0]) (t:=74) ?hr ?_;(case hd =>rfl);(case hg =>rfl);(case hr =>first | (go_simp;done) | (go_simp;rfl));intro g11 hg w1 hx hb;clear k1 k2 k3;have fL:=Lib.hid (a0I B1.out.b hg);have fH:=Lib.hid (a0I B2.out.b hg);have fI:=Lib.hid (a0I B3.out.b hg);have G11:=Lib.hid (show w.heap.size≤g11 by rw [hg];exact HB.out.size);have B1:=Lib.hid (B1.out.below hb);have B2:=Lib.hid (B2.out.below hb);have B3:=Lib.hid (B3.out.below hb);have HB:=Lib.hid (a0E HB.out hb);have B11:=Lib.hid (Six.mk hx);clear hx hb hg;have k1:=And.intro B1.out.c B1.out.f;have k2:=And.intro B2.out.c B2.out.f;have k3:=And.intro B3.out.c B3.out.f;have k11:=And.intro B11.out.c B11.out.f)
  | ((with_reducible refine a0R (t:=74) (p:=11) rfl ?_);refine a1E rfl rfl rfl [.slice (some ad) T.length c,.int .i64 (i + 1),.int .i64 e,.int .i64 n,.int .i64 0,.int .i64 0] B11.out.b rfl ?hv sizeSix rfl ?h1 ?_;(case hv =>rfl);(case h1 =>(intro q hq;simp only [List.mem_cons,List.not_mem_nil,or_false] at hq;rcases hq with rfl | rfl | rfl | rfl | rfl | rfl <;> rfl));intro w1 hx hp;clear k1 k2 k3 k11;have B1:=Lib.hid (B1.out.far' hp (fL.out));have B2:=Lib.hid (B2.out.far' hp (fH.out));have B3:=Lib.hid (B3.out.far' hp (fI.out));have HB:=Lib.hid (hp.below _ G11.out HB.out);have B11:=Lib.hid (Six.mk hx);clear hx hp;have k1:=And.intro B1.out.c B1.out.f;have k2:=And.intro B2.out.c B2.out.f;have k3:=And.intro B3.out.c B3.out.f;have k11:=And.intro B11.out.c B11.out.f)
  | ((with_reducible refine a0R (t:=74) (p:=2) rfl ?_);refine a1E rfl rfl rfl [.slice (some ad) T.length c,.int .i64 (i + 1),.int .i64 e,.int .i64 n,.int .i64 0,.int .i64 0] B2.out.b rfl ?hv sizeSix rfl ?h1 ?_;(case hv =>rfl);(case h1 =>(intro q hq;simp only [List.mem_cons,List.not_mem_nil,or_false] at hq;rcases hq with rfl | rfl | rfl | rfl | rfl | rfl <;> rfl));intro w1 hx hp;clear k1 k2 k3 k11;have B1:=Lib.hid (B1.out.far' hp (cB.out));have B3:=Lib.hid (B3.out.far' hp (Ne.symm fK.out));have B11:=Lib.hid (B11.out.far' hp (Ne.symm fH.out));have HB:=Lib.hid (hp.below _ G2.out HB.out);have B2:=Lib.hid (Six.mk hx);clear hx hp;have k1:=And.intro B1.out.c B1.out.f;have k2:=And.intro B2.out.c B2.out.f;have k3:=And.intro B3.out.c B3.out.f;have k11:=And.intro B11.out.c B11.out.f)
  | ((with_reducible refine a0R (t:=136) (p:=3) rfl ?_);refine a1E rfl rfl rfl [.int .i64 4,.int .i64 0,.string (a1D T i).f1] B3.out.b rfl ?hv sizeTri rfl ?h1 ?_;(case hv =>rfl);(case h1 =>(intro q hq;simp only [List.mem_cons,List.not_mem_nil,or_false] at hq;rcases hq with rfl | rfl | rfl <;> rfl));intro w1 hx hp;clear k1 k2 k3 k11;have B1:=Lib.hid (B1.out.far' hp (qI.out));have B2:=Lib.hid (B2.out.far' hp (fK.out));have B11:=Lib.hid (B11.out.far' hp (Ne.symm fI.out));have HB:=Lib.hid (hp.below _ G3.out HB.out);have B3:=Lib.hid (Tri.mk hx);clear hx hp;have k1:=And.intro B1.out.c B1.out.f;have k2:=And.intro B2.out.c B2.out.f;have k3:=And.intro B3.out.c B3.out.f;have k11:=And.intro B11.out.c B11.out.f))
 refine bodyPost_ret (a3K rfl _ _ g2 g3 _ _ _ _ (0,0) (0,0) _ _ rfl B2.out.b Try.underlying74 rfl (by kernel_rfl) rfl B3.out.b Try.underlying136 rfl (by kernel_rfl)) rfl ?_
 exact ⟨rfl,HB.out⟩
open Go.RowKit Go.Proofs.Ythhgfncliffggaa.Pr Go.Proofs.YthhgfncliffggaaW.PrintWords
attribute [local go_sem] Oper.semAt_some
theorem b6Y:(Try.prog.info? 136).map (fun i =>(i.zero,i.size,i.bytes)) = some (some (.agg #[(.int .i64 0),(.int .i64 0),(.string ⟨#[]⟩)]),3,32):=by kernel_rfl
set_option maxRecDepth 100000 in
set_option maxHeartbeats 8000000 in
theorem b7R (k:Nat) (T:List S72) (ad:Addr) (c:Nat) (i e n:Int) (w:World) (hc:T.length≤c) (hC:Kd.C k72 w (some ad) T.length T) (hT:T.length≤65536) (hi:0≤i) (hn:i + 1 < T.length)
  (h0:r02_is.f k T i e n 0 0 (⟨#[40]⟩:ByteArray) = some true) (h1:r02_is.f k T (i + 1) e n 0 0 (⟨#[41]⟩:ByteArray) = some true) :
  Calls Try.prog 92 #[.agg #[.slice (some ad) T.length c,.int .i64 i,.int .i64 e,.int .i64 n,.int .i64 0,.int .i64 0]] w fun x w' =>∃ v,x = .returned (.tuple #[.agg #[.slice (some ad) T.length c,.int .i64 (i + 1 + 1),.int .i64 e,.int .i64 n,.int .i64 0,.int .i64 0],v])∧RowOut k136 w w' [] v∧Below w.heap.size w w':=by
 have HB:=Lib.hid (Below.refl w.heap.size w)
 have K0:=Lib.hid hC
 clear hC
 go_enter Try.func92,Try.ntmps92
 go_wp2_with (first
  | ((with_reducible refine a0P (N:=1) rfl ?_);refine a0Q ?hg (N:=1) ?hd (cs:=#[.slice (some ad) T.length c,.int .i64 i,.int .i64 e,.int .i64 n,.int .i64 0,.int .i64 0]) (t:=74) ?hr ?_;(case hd =>rfl);(case hg =>rfl);(case hr =>first | (go_simp;done) | (go_simp;rfl));intro g1 hg w1 hx hb;have G1:=Lib.hid (show w.heap.size≤g1 by rw [hg];exact HB.out.size);have HB:=Lib.hid (a0E HB.out hb);have B1:=Lib.hid (Six.mk hx);clear hx hb hg;have k1:=And.intro B1.out.c B1.out.f)
  | ((with_reducible refine a0P (N:=2) rfl ?_);refine a0Q ?hg (N:=2) ?hd (cs:=#[.slice none 0 0,.int .i64 0,.int .i64 0,.int .i64 0,.int .i64 0,.int .i64 0]) (t:=74) ?hr ?_;(case hd =>rfl);(case hg =>rfl);(case hr =>first | (go_simp;done) | (go_simp;rfl));intro g2 hg w1 hx hb;clear k1;have cB:=Lib.hid (a0I B1.out.b hg);have G2:=Lib.hid (show w.heap.size≤g2 by rw [hg];exact HB.out.size);have B1:=Lib.hid (B1.out.below hb);have HB:=Lib.hid (a0E HB.out hb);have B2:=Lib.hid (Six.mk hx);clear hx hb hg;have k1:=And.intro B1.out.c B1.out.f;have k2:=And.intro B2.out.c B2.out.f)
  | ((with_reducible refine a0P (N:=7) rfl ?_);refine a3H ?hg (N:=7) ?hd (cs:=#[]) (t:=136) (n:=0) ?hr ?_;(case hd =>rfl);(case hg =>rfl);(case hr =>first | (go_simp;done) | (go_simp;rfl));intro g7 hg w1 hx hb;clear k1 k2;have cN:=Lib.hid (a0I B1.out.b hg);have dD:=Lib.hid (a0I B2.out.b hg);have G7:=Lib.hid (show w.heap.size≤g7 by rw [hg];exact HB.out.size);have B1:=Lib.hid (B1.out.below hb);have B2:=Lib.hid (B2.out.below hb);have HB:=Lib.hid (a0E HB.out hb);have B7:=Lib.hid (RowB.mk hx);clear hx hb hg;have k1:=And.intro B1.out.c B1.out.f;have k2:=And.intro B2.out.c B2.out.f)
  | (go_at_call 34;with_reducible refine (a2R k T (some ad) c i e n (⟨#[40]⟩:ByteArray) _ hc (Kd.a0J K0.out HB.out) hT hi (by omega) h0).mono ?_;rintro x w1 ⟨rfl,hb⟩;clear k1 k2;have B1:=Lib.hid (B1.out.below hb);have B2:=Lib.hid (B2.out.below hb);have B7:=Lib.hid (B7.out.below hb);have HB:=Lib.hid (a0E HB.out hb);clear hb;have k1:=And.intro B1.out.c B1.out.f;have k2:=And.intro B2.out.c B2.out.f)
  | ((with_reducible refine a0R (t:=74) (p:=1) rfl ?_);refine a1E rfl rfl rfl [.slice (some ad) T.length c,.int .i64 (i + 1),.int .i64 e,.int .i64 n,.int .i64 0,.int .i64 0] B1.out.b rfl ?hv sizeSix rfl ?h1 ?_;(case hv =>rfl);(case h1 =>(intro q hq;simp only [List.mem_cons,List.not_mem_nil,or_false] at hq;rcases hq with rfl | rfl | rfl | rfl | rfl | rfl <;> rfl));intro w1 hx hp;clear k1 k2;have B2:=Lib.hid (B2.out.far' hp (Ne.symm cB.out));have B7:=Lib.hid (B7.out.far' hp (Ne.symm cN.out));have HB:=Lib.hid (hp.below _ G1.out HB.out);have B1:=Lib.hid (Six.mk hx);clear hx hp;have k1:=And.intro B1.out.c B1.out.f;have k2:=And.intro B2.out.c B2.out.f)
  | (go_at_call 61;with_reducible refine (r02_is.calls k (some ad) c T (i + 1) e n 0 0 (⟨#[41]⟩:ByteArray) true _ (Kd.a0J K0.out HB.out) hc h1).mono ?_;rintro x w1 ⟨rfl,hb⟩;clear k1 k2;have B1:=Lib.hid (B1.out.below hb);have B2:=Lib.hid (B2.out.below hb);have B7:=Lib.hid (B7.out.below hb);have HB:=Lib.hid (a0E HB.out hb);clear hb;have k1:=And.intro B1.out.c B1.out.f;have k2:=And.intro B2.out.c B2.out.f)
  | (go_at_call 34;with_reducible refine (a2R k T (some ad) c (i + 1) e n (⟨#[41]⟩:ByteArray) _ hc (Kd.a0J K0.out HB.out) hT (by omega) hn h1).mono ?_;rintro x w1 ⟨rfl,hb⟩;clear k1 k2;have B1:=Lib.hid (B1.out.below hb);have B2:=Lib.hid (B2.out.below hb);have B7:=Lib.hid (B7.out.below hb);have HB:=Lib.hid (a0E HB.out hb);clear hb;have k1:=And.intro B1.out.c B1.out.f;have k2:=And.intro B2.out.c B2.out.f)
  | ((with_reducible refine a0R (t:=74) (p:=2) rfl ?_);refine a1E rfl rfl rfl [.slice (some ad) T.length c,.int .i64 (i + 1 + 1),.int .i64 e,.int .i64 n,.int .i64 0,.int .i64 0] B2.out.b rfl ?hv sizeSix rfl ?h1 ?_;(case hv =>rfl);(case h1 =>(intro q hq;simp only [List.mem_cons,List.not_mem_nil,or_false] at hq;rcases hq with rfl | rfl | rfl | rfl | rfl | rfl <;> rfl));intro w1 hx hp;clear k1 k2;have B1:=Lib.hid (B1.out.far' hp (cB.out));have B7:=Lib.hid (B7.out.far' hp (Ne.symm dD.out));have HB:=Lib.hid (hp.below _ G2.out HB.out);have B2:=Lib.hid (Six.mk hx);clear hx hp;have k1:=And.intro B1.out.c B1.out.f;have k2:=And.intro B2.out.c B2.out.f))
 refine bodyPost_ret (a3V rfl _ _ g2 _ _ (0,0) _ rfl B2.out.b Try.underlying74 rfl (by kernel_rfl)) rfl ?_
 exact ⟨_,rfl,a5Y (a5K k136 136 B7.out.b G7.out _ rfl) B7.out.b B7.out.b G7.out,HB.out⟩
set_option maxRecDepth 100000 in
set_option maxHeartbeats 8000000 in
theorem a9A (k:Nat) (T:List S72) (ad:Addr) (c:Nat) (i e n:Int) (w:World) (hc:T.length≤c) (hC:Kd.C k72 w (some ad) T.length T) (hT:T.length≤65536) (hi:0≤i) (hn:i + 1 < T.length)
  (h0:r02_is.f k T i e n 0 0 (⟨#[40]⟩:ByteArray) = some true) (h1:r02_is.f k T (i + 1) e n 0 0 (⟨#[41]⟩:ByteArray) = some true) :
  Calls Try.prog 35 #[.agg #[.slice (some ad) T.length c,.int .i64 i,.int .i64 e,.int .i64 n,.int .i64 0,.int .i64 0]] w fun x w' =>∃ v,x = .returned (.tuple #[.agg #[.slice (some ad) T.length c,.int .i64 (i + 1 + 1),.int .i64 e,.int .i64 n,.int .i64 0,.int .i64 0],v])∧RowOut Kd.string w w' [] v∧Below w.heap.size w w':=by
 have HB:=Lib.hid (Below.refl w.heap.size w)
 have K0:=Lib.hid hC
 clear hC
 go_enter Try.func35,Try.ntmps35
 go_wp2_with (first
  | ((with_reducible refine a0P (N:=1) rfl ?_);refine a0Q ?hg (N:=1) ?hd (cs:=#[.slice (some ad) T.length c,.int .i64 i,.int .i64 e,.int .i64 n,.int .i64 0,.int .i64 0]) (t:=74) ?hr ?_;(case hd =>rfl);(case hg =>rfl);(case hr =>first | (go_simp;done) | (go_simp;rfl));intro g1 hg w1 hx hb;have G1:=Lib.hid (show w.heap.size≤g1 by rw [hg];exact HB.out.size);have HB:=Lib.hid (a0E HB.out hb);have B1:=Lib.hid (Six.mk hx);clear hx hb hg;have k1:=And.intro B1.out.c B1.out.f)
  | ((with_reducible refine a0P (N:=2) rfl ?_);refine a0Q ?hg (N:=2) ?hd (cs:=#[.slice none 0 0,.int .i64 0,.int .i64 0,.int .i64 0,.int .i64 0,.int .i64 0]) (t:=74) ?hr ?_;(case hd =>rfl);(case hg =>rfl);(case hr =>first | (go_simp;done) | (go_simp;rfl));intro g2 hg w1 hx hb;clear k1;have cB:=Lib.hid (a0I B1.out.b hg);have G2:=Lib.hid (show w.heap.size≤g2 by rw [hg];exact HB.out.size);have B1:=Lib.hid (B1.out.below hb);have HB:=Lib.hid (a0E HB.out hb);have B2:=Lib.hid (Six.mk hx);clear hx hb hg;have k1:=And.intro B1.out.c B1.out.f;have k2:=And.intro B2.out.c B2.out.f)
  | ((with_reducible refine a0P (N:=7) rfl ?_);refine a3H ?hg (N:=7) ?hd (cs:=#[]) (t:=9) (n:=0) ?hr ?_;(case hd =>rfl);(case hg =>rfl);(case hr =>first | (go_simp;done) | (go_simp;rfl));intro g7 hg w1 hx hb;clear k1 k2;have cN:=Lib.hid (a0I B1.out.b hg);have dD:=Lib.hid (a0I B2.out.b hg);have G7:=Lib.hid (show w.heap.size≤g7 by rw [hg];exact HB.out.size);have B1:=Lib.hid (B1.out.below hb);have B2:=Lib.hid (B2.out.below hb);have HB:=Lib.hid (a0E HB.out hb);have B7:=Lib.hid (RowB.mk hx);clear hx hb hg;have k1:=And.intro B1.out.c B1.out.f;have k2:=And.intro B2.out.c B2.out.f)
  | (go_at_call 34;with_reducible refine (a2R k T (some ad) c i e n (⟨#[40]⟩:ByteArray) _ hc (Kd.a0J K0.out HB.out) hT hi (by omega) h0).mono ?_;rintro x w1 ⟨rfl,hb⟩;clear k1 k2;have B1:=Lib.hid (B1.out.below hb);have B2:=Lib.hid (B2.out.below hb);have B7:=Lib.hid (B7.out.below hb);have HB:=Lib.hid (a0E HB.out hb);clear hb;have k1:=And.intro B1.out.c B1.out.f;have k2:=And.intro B2.out.c B2.out.f)
  | ((with_reducible refine a0R (t:=74) (p:=1) rfl ?_);refine a1E rfl rfl rfl [.slice (some ad) T.length c,.int .i64 (i + 1),.int .i64 e,.int .i64 n,.int .i64 0,.int .i64 0] B1.out.b rfl ?hv sizeSix rfl ?h1 ?_;(case hv =>rfl);(case h1 =>(intro q hq;simp only [List.mem_cons,List.not_mem_nil,or_false] at hq;rcases hq with rfl | rfl | rfl | rfl | rfl | rfl <;> rfl));intro w1 hx hp;clear k1 k2;have B2:=Lib.hid (B2.out.far' hp (Ne.symm cB.out));have B7:=Lib.hid (B7.out.far' hp (Ne.symm cN.out));have HB:=Lib.hid (hp.below _ G1.out HB.out);have B1:=Lib.hid (Six.mk hx);clear hx hp;have k1:=And.intro B1.out.c B1.out.f;have k2:=And.intro B2.out.c B2.out.f)
  | (go_at_call 61;with_reducible refine (r02_is.calls k (some ad) c T (i + 1) e n 0 0 (⟨#[41]⟩:ByteArray) true _ (Kd.a0J K0.out HB.out) hc h1).mono ?_;rintro x w1 ⟨rfl,hb⟩;clear k1 k2;have B1:=Lib.hid (B1.out.below hb);have B2:=Lib.hid (B2.out.below hb);have B7:=Lib.hid (B7.out.below hb);have HB:=Lib.hid (a0E HB.out hb);clear hb;have k1:=And.intro B1.out.c B1.out.f;have k2:=And.intro B2.out.c B2.out.f)
  | (go_at_call 34;with_reducible refine (a2R k T (some ad) c (i + 1) e n (⟨#[41]⟩:ByteArray) _ hc (Kd.a0J K0.out HB.out) hT (by omega) hn h1).mono ?_;rintro x w1 ⟨rfl,hb⟩;clear k1 k2;have B1:=Lib.hid (B1.out.below hb);have B2:=Lib.hid (B2.out.below hb);have B7:=Lib.hid (B7.out.below hb);have HB:=Lib.hid (a0E HB.out hb);clear hb;have k1:=And.intro B1.out.c B1.out.f;have k2:=And.intro B2.out.c B2.out.f)
  | ((with_reducible refine a0R (t:=74) (p:=2) rfl ?_);refine a1E rfl rfl rfl [.slice (some ad) T.length c,.int .i64 (i + 1 + 1),.int .i64 e,.int .i64 n,.int .i64 0,.int .i64 0] B2.out.b rfl ?hv sizeSix rfl ?h1 ?_;(case hv =>rfl);(case h1 =>(intro q hq;simp only [List.mem_cons,List.not_mem_nil,or_false] at hq;rcases hq with rfl | rfl | rfl | rfl | rfl | rfl <;> rfl));intro w1 hx hp;clear k1 k2;have B1:=Lib.hid (B1.out.far' hp (cB.out));have B7:=Lib.hid (B7.out.far' hp (Ne.symm dD.out));have HB:=Lib.hid (hp.below _ G2.out HB.out);have B2:=Lib.hid (Six.mk hx);clear hx hp;have k1:=And.intro B1.out.c B1.out.f;have k2:=And.intro B2.out.c B2.out.f))
 refine bodyPost_ret (a3V rfl _ _ g2 _ _ (0,0) _ rfl B2.out.b Try.underlying74 rfl (by kernel_rfl)) rfl ?_
 exact ⟨_,rfl,a5Y (a5K Kd.string 9 B7.out.b G7.out _ rfl) B7.out.b B7.out.b G7.out,HB.out⟩
set_option maxRecDepth 100000 in
set_option maxHeartbeats 8000000 in
theorem args_one (k:Nat) (T:List S72) (ad:Addr) (c:Nat) (i e n:Int) (w:World) (hc:T.length≤c) (hC:Kd.C k72 w (some ad) T.length T) (hT:T.length≤65536) (hi:0≤i) (hn:i + 1 + 1 < T.length)
  (h0:r02_is.f k T i e n 0 0 (⟨#[40]⟩:ByteArray) = some true) (h1:r02_is.f k T (i + 1) e n 0 0 (⟨#[41]⟩:ByteArray) = some false) (h2:r02_is.f k T (i + 1) e n 0 0 (⟨#[110,117,108,108]⟩:ByteArray) = some false) (h3:r02_is.f k T (i + 1) e n 0 0 (⟨#[116,114,117,101]⟩:ByteArray) = some false) (h4:r02_is.f k T (i + 1) e n 0 0 (⟨#[102,97,108,115,101]⟩:ByteArray) = some false) (h5:r02_is.f k T (i + 1) e n 0 0 (⟨#[38]⟩:ByteArray) = some false) (hk:(a1D T (i + 1)).f0 = 0) (hq:r02_isName.f k T (i + 1) e n 0 0 = some true) (h6:r02_is.f k T (i + 1 + 1) e n 0 0 (⟨#[41]⟩:ByteArray) = some true) :
  Calls Try.prog 92 #[.agg #[.slice (some ad) T.length c,.int .i64 i,.int .i64 e,.int .i64 n,.int .i64 0,.int .i64 0]] w fun x w' =>∃ v,x = .returned (.tuple #[.agg #[.slice (some ad) T.length c,.int .i64 (i + 1 + 1 + 1),.int .i64 e,.int .i64 n,.int .i64 0,.int .i64 0],v])∧RowOut k136 w w' [⟨4,0,(a1D T (i + 1)).f1⟩] v∧Below w.heap.size w w':=by
 have HB:=Lib.hid (Below.refl w.heap.size w)
 have K0:=Lib.hid hC
 clear hC
 go_enter Try.func92,Try.ntmps92
 go_wp2_with (first
  | ((with_reducible refine a0P (N:=1) rfl ?_);refine a0Q ?hg (N:=1) ?hd (cs:=#[.slice (some ad) T.length c,.int .i64 i,.int .i64 e,.int .i64 n,.int .i64 0,.int .i64 0]) (t:=74) ?hr ?_;(case hd =>rfl);(case hg =>rfl);(case hr =>first | (go_simp;done) | (go_simp;rfl));intro g1 hg w1 hx hb;have G1:=Lib.hid (show w.heap.size≤g1 by rw [hg];exact HB.out.size);have HB:=Lib.hid (a0E HB.out hb);have B1:=Lib.hid (Six.mk hx);clear hx hb hg;have k1:=And.intro B1.out.c B1.out.f)
  | ((with_reducible refine a0P (N:=2) rfl ?_);refine a0Q ?hg (N:=2) ?hd (cs:=#[.slice none 0 0,.int .i64 0,.int .i64 0,.int .i64 0,.int .i64 0,.int .i64 0]) (t:=74) ?hr ?_;(case hd =>rfl);(case hg =>rfl);(case hr =>first | (go_simp;done) | (go_simp;rfl));intro g2 hg w1 hx hb;clear k1;have cB:=Lib.hid (a0I B1.out.b hg);have G2:=Lib.hid (show w.heap.size≤g2 by rw [hg];exact HB.out.size);have B1:=Lib.hid (B1.out.below hb);have HB:=Lib.hid (a0E HB.out hb);have B2:=Lib.hid (Six.mk hx);clear hx hb hg;have k1:=And.intro B1.out.c B1.out.f;have k2:=And.intro B2.out.c B2.out.f)
  | ((with_reducible refine a0P (N:=7) rfl ?_);refine a3H ?hg (N:=7) ?hd (cs:=#[]) (t:=136) (n:=0) ?hr ?_;(case hd =>rfl);(case hg =>rfl);(case hr =>first | (go_simp;done) | (go_simp;rfl));intro g7 hg w1 hx hb;clear k1 k2;have cN:=Lib.hid (a0I B1.out.b hg);have dD:=Lib.hid (a0I B2.out.b hg);have G7:=Lib.hid (show w.heap.size≤g7 by rw [hg];exact HB.out.size);have B1:=Lib.hid (B1.out.below hb);have B2:=Lib.hid (B2.out.below hb);have HB:=Lib.hid (a0E HB.out hb);have B7:=Lib.hid (RowB.mk hx);clear hx hb hg;have k1:=And.intro B1.out.c B1.out.f;have k2:=And.intro B2.out.c B2.out.f)
  | (go_at_call 34;with_reducible refine (a2R k T (some ad) c i e n (⟨#[40]⟩:ByteArray) _ hc (Kd.a0J K0.out HB.out) hT hi (by omega) h0).mono ?_;rintro x w1 ⟨rfl,hb⟩;clear k1 k2;have B1:=Lib.hid (B1.out.below hb);have B2:=Lib.hid (B2.out.below hb);have B7:=Lib.hid (B7.out.below hb);have HB:=Lib.hid (a0E HB.out hb);clear hb;have k1:=And.intro B1.out.c B1.out.f;have k2:=And.intro B2.out.c B2.out.f)
  | ((with_reducible refine a0R (t:=74) (p:=1) rfl ?_);refine a1E rfl rfl rfl [.slice (some ad) T.length c,.int .i64 (i + 1),.int .i64 e,.int .i64 n,.int .i64 0,.int .i64 0] B1.out.b rfl ?hv sizeSix rfl ?h1 ?_;(case hv =>rfl);(case h1 =>(intro q hq;simp only [List.mem_cons,List.not_mem_nil,or_false] at hq;rcases hq with rfl | rfl | rfl | rfl | rfl | rfl <;> rfl));intro w1 hx hp;clear k1 k2;have B2:=Lib.hid (B2.out.far' hp (Ne.symm cB.out));have B7:=Lib.hid (B7.out.far' hp (Ne.symm cN.out));have HB:=Lib.hid (hp.below _ G1.out HB.out);have B1:=Lib.hid (Six.mk hx);clear hx hp;have k1:=And.intro B1.out.c B1.out.f;have k2:=And.intro B2.out.c B2.out.f)
  | (go_at_call 61;with_reducible refine (r02_is.calls k (some ad) c T (i + 1) e n 0 0 (⟨#[41]⟩:ByteArray) false _ (Kd.a0J K0.out HB.out) hc h1).mono ?_;rintro x w1 ⟨rfl,hb⟩;clear k1 k2;have B1:=Lib.hid (B1.out.below hb);have B2:=Lib.hid (B2.out.below hb);have B7:=Lib.hid (B7.out.below hb);have HB:=Lib.hid (a0E HB.out hb);clear hb;have k1:=And.intro B1.out.c B1.out.f;have k2:=And.intro B2.out.c B2.out.f))
 go_loopg [4] 0 (fun kq v4 w' =>v4 = .slice (some ⟨g7,0,none⟩) 0 0∧Hid (Six w' g1 (.slice (some ad) T.length c) (.int .i64 (i + 1)) (.int .i64 e) (.int .i64 n) (.int .i64 0) (.int .i64 0) 74)∧Hid (Six w' g2 (.slice none 0 0) (.int .i64 0) (.int .i64 0) (.int .i64 0) (.int .i64 0) (.int .i64 0) 74)∧Hid (RowB w' g7 (.cells #[] 136 (0,0)))∧Hid (Below w.heap.size w w'))
 case atStart =>exact ⟨rfl,B1,B2,B7,HB⟩
 case round =>
  obtain ⟨rfl,B1,B2,B7,HB⟩:=hrel
  have k1:=And.intro B1.out.c B1.out.f;have k2:=And.intro B2.out.c B2.out.f
  go_wp2_with (first
  | (go_at_call 32;with_reducible refine (r02_ok.calls (some ad) c T (i + 1) e n 0 0 true _ (Kd.a0J K0.out HB.out) hc rfl).mono ?_;rintro x w1 ⟨rfl,hb⟩;clear k1 k2;have B1:=Lib.hid (B1.out.below hb);have B2:=Lib.hid (B2.out.below hb);have B7:=Lib.hid (B7.out.below hb);have HB:=Lib.hid (a0E HB.out hb);clear hb;have k1:=And.intro B1.out.c B1.out.f;have k2:=And.intro B2.out.c B2.out.f)
  | (go_at_call 77;with_reducible refine (b1C k T ad c (i + 1) e n _ hc (Kd.a0J K0.out HB.out) hT (by omega) (by omega) h2 h3 h4 h5 hk hq).mono ?_;rintro x w1 ⟨rfl,hb⟩;clear k1 k2;have B1:=Lib.hid (B1.out.below hb);have B2:=Lib.hid (B2.out.below hb);have B7:=Lib.hid (B7.out.below hb);have HB:=Lib.hid (a0E HB.out hb);clear hb;have k1:=And.intro B1.out.c B1.out.f;have k2:=And.intro B2.out.c B2.out.f)
  | ((with_reducible refine a0P (N:=5) rfl ?_);refine a0Q ?hg (N:=5) ?hd (cs:=#[.slice none 0 0,.int .i64 0,.int .i64 0,.int .i64 0,.int .i64 0,.int .i64 0]) (t:=74) ?hr ?_;(case hd =>rfl);(case hg =>rfl);(case hr =>first | (go_simp;done) | (go_simp;rfl));intro g5 hg w1 hx hb;clear k1 k2;have fM:=Lib.hid (a0I B1.out.b hg);have fN:=Lib.hid (a0I B2.out.b hg);have fO:=Lib.hid (a0I B7.out.b hg);have G5:=Lib.hid (show w.heap.size≤g5 by rw [hg];exact HB.out.size);have B1:=Lib.hid (B1.out.below hb);have B2:=Lib.hid (B2.out.below hb);have B7:=Lib.hid (B7.out.below hb);have HB:=Lib.hid (a0E HB.out hb);have B5:=Lib.hid (Six.mk hx);clear hx hb hg;have k1:=And.intro B1.out.c B1.out.f;have k2:=And.intro B2.out.c B2.out.f;have k5:=And.intro B5.out.c B5.out.f)
  | ((with_reducible refine a0P (N:=6) rfl ?_);refine a0Q ?hg (N:=6) ?hd (cs:=#[.int .i64 0,.int .i64 0,.string ⟨#[]⟩]) (t:=136) ?hr ?_;(case hd =>rfl);(case hg =>rfl);(case hr =>first | (go_simp;done) | (go_simp;rfl));intro g6 hg w1 hx hb;clear k1 k2 k5;have qJ:=Lib.hid (a0I B1.out.b hg);have qK:=Lib.hid (a0I B2.out.b hg);have qL:=Lib.hid (a0I B7.out.b hg);have fP:=Lib.hid (a0I B5.out.b hg);have G6:=Lib.hid (show w.heap.size≤g6 by rw [hg];exact HB.out.size);have B1:=Lib.hid (B1.out.below hb);have B2:=Lib.hid (B2.out.below hb);have B7:=Lib.hid (B7.out.below hb);have B5:=Lib.hid (B5.out.below hb);have HB:=Lib.hid (a0E HB.out hb);have B6:=Lib.hid (Tri.mk hx);clear hx hb hg;have k1:=And.intro B1.out.c B1.out.f;have k2:=And.intro B2.out.c B2.out.f;have k5:=And.intro B5.out.c B5.out.f;have k6:=And.intro B6.out.c B6.out.f)
  | ((with_reducible refine a0R (t:=74) (p:=5) rfl ?_);refine a1E rfl rfl rfl [.slice (some ad) T.length c,.int .i64 (i + 1 + 1),.int .i64 e,.int .i64 n,.int .i64 0,.int .i64 0] B5.out.b rfl ?hv sizeSix rfl ?h1 ?_;(case hv =>rfl);(case h1 =>(intro q hq;simp only [List.mem_cons,List.not_mem_nil,or_false] at hq;rcases hq with rfl | rfl | rfl | rfl | rfl | rfl <;> rfl));intro w1 hx hp;clear k1 k2 k5 k6;have B1:=Lib.hid (B1.out.far' hp (fM.out));have B2:=Lib.hid (B2.out.far' hp (fN.out));have B7:=Lib.hid (B7.out.far' hp (fO.out));have B6:=Lib.hid (B6.out.far' hp (Ne.symm fP.out));have HB:=Lib.hid (hp.below _ G5.out HB.out);have B5:=Lib.hid (Six.mk hx);clear hx hp;have k1:=And.intro B1.out.c B1.out.f;have k2:=And.intro B2.out.c B2.out.f;have k5:=And.intro B5.out.c B5.out.f;have k6:=And.intro B6.out.c B6.out.f)
  | ((with_reducible refine a0R (t:=136) (p:=6) rfl ?_);refine a1E rfl rfl rfl [.int .i64 4,.int .i64 0,.string (a1D T (i + 1)).f1] B6.out.b rfl ?hv sizeTri rfl ?h1 ?_;(case hv =>rfl);(case h1 =>(intro q hq;simp only [List.mem_cons,List.not_mem_nil,or_false] at hq;rcases hq with rfl | rfl | rfl <;> rfl));intro w1 hx hp;clear k1 k2 k5 k6;have B1:=Lib.hid (B1.out.far' hp (qJ.out));have B2:=Lib.hid (B2.out.far' hp (qK.out));have B7:=Lib.hid (B7.out.far' hp (qL.out));have B5:=Lib.hid (B5.out.far' hp (fP.out));have HB:=Lib.hid (hp.below _ G6.out HB.out);have B6:=Lib.hid (Tri.mk hx);clear hx hp;have k1:=And.intro B1.out.c B1.out.f;have k2:=And.intro B2.out.c B2.out.f;have k5:=And.intro B5.out.c B5.out.f;have k6:=And.intro B6.out.c B6.out.f)
  | ((with_reducible refine a2B (b:=.append) (xs:=#[.tmp 22,.tmp 24]) rfl ?_);at_builtin;refine Kd.a3U k136 w.heap.size rfl (.tmp 22) (.tmp 24) 63 136 (.agg #[(.int .i64 0),(.int .i64 0),(.string ⟨#[]⟩)]) 32 rfl Try.underlying63 b6Y rfl (by decide) (by omega) (.slice (some ⟨g7,0,none⟩) 0 0) [] (⟨4,0,(a1D T (i + 1)).f1⟩:S136) [.int .i64 4,.int .i64 0,.string (a1D T (i + 1)).f1] (fun _ =>True) (fun _ =>False) rfl rfl (k136_mkM _ _ _ (⟨4,0,(a1D T (i + 1)).f1⟩:S136)) (fun _ h =>h.elim) (fun _ _ =>trivial) (a5K k136 136 B7.out.b G7.out _ trivial) HB.out HB.out.size (by simp) ?_;intro v25 w25 ho hb hg hat;clear k1 k2 k5 k6;have B1:=Lib.hid (B1.out.grown hg (by simpa [Value.ownBlock] using cN.out));have B2:=Lib.hid (B2.out.grown hg (by simpa [Value.ownBlock] using dD.out));have B5:=Lib.hid (B5.out.grown hg (by simpa [Value.ownBlock] using Ne.symm fO.out));have HB:=Lib.hid hb;obtain ⟨g25,c25,e25,hg1,hg2,cells25,hc25⟩:=Kd.b4B ho (by simp);subst e25;have HR:=Lib.hid (Kd.a4T (ok:=fun k =>k = g25) rfl ho (fun k hk =>by simpa [Value.ownBlock] using hk.symm));have HC25:=Lib.hid hc25;have G25:=Lib.hid hg1;have fQ:=Lib.hid (a5Q B1.out.b HC25.out (by decide));have fR:=Lib.hid (a5Q B2.out.b HC25.out (by decide));have qM:=Lib.hid (a5Q B5.out.b HC25.out (by decide));have B25:=Lib.hid (RowB.mk hc25);clear ho hb hg hat hg1 hg2 hc25;have k1:=And.intro B1.out.c B1.out.f;have k2:=And.intro B2.out.c B2.out.f;have k5:=And.intro B5.out.c B5.out.f)
  | ((with_reducible refine a0R (t:=74) (p:=1) rfl ?_);refine a1E rfl rfl rfl [.slice (some ad) T.length c,.int .i64 (i + 1 + 1),.int .i64 e,.int .i64 n,.int .i64 0,.int .i64 0] B1.out.b rfl ?hv sizeSix rfl ?h1 ?_;(case hv =>rfl);(case h1 =>(intro q hq;simp only [List.mem_cons,List.not_mem_nil,or_false] at hq;rcases hq with rfl | rfl | rfl | rfl | rfl | rfl <;> rfl));intro w1 hx hp;clear k1 k2 k5;have B2:=Lib.hid (B2.out.far' hp (Ne.symm cB.out));have B5:=Lib.hid (B5.out.far' hp (Ne.symm fM.out));have B25:=Lib.hid (B25.out.far' hp (Ne.symm fQ.out));have HB:=Lib.hid (hp.below _ G1.out HB.out);have B1:=Lib.hid (Six.mk hx);clear hx hp;have k1:=And.intro B1.out.c B1.out.f;have k2:=And.intro B2.out.c B2.out.f;have k5:=And.intro B5.out.c B5.out.f)
  | (go_at_call 61;with_reducible refine (r02_is.calls k (some ad) c T (i + 1 + 1) e n 0 0 (⟨#[41]⟩:ByteArray) true _ (Kd.a0J K0.out HB.out) hc h6).mono ?_;rintro x w1 ⟨rfl,hb⟩;clear k1 k2 k5;have B1:=Lib.hid (B1.out.below hb);have B2:=Lib.hid (B2.out.below hb);have B5:=Lib.hid (B5.out.below hb);have B25:=Lib.hid (B25.out.below hb);have HB:=Lib.hid (a0E HB.out hb);clear hb;have k1:=And.intro B1.out.c B1.out.f;have k2:=And.intro B2.out.c B2.out.f;have k5:=And.intro B5.out.c B5.out.f)
  | (go_at_call 34;with_reducible refine (a2R k T (some ad) c (i + 1 + 1) e n (⟨#[41]⟩:ByteArray) _ hc (Kd.a0J K0.out HB.out) hT (by omega) hn h6).mono ?_;rintro x w1 ⟨rfl,hb⟩;clear k1 k2 k5;have B1:=Lib.hid (B1.out.below hb);have B2:=Lib.hid (B2.out.below hb);have B5:=Lib.hid (B5.out.below hb);have B25:=Lib.hid (B25.out.below hb);have HB:=Lib.hid (a0E HB.out hb);clear hb;have k1:=And.intro B1.out.c B1.out.f;have k2:=And.intro B2.out.c B2.out.f;have k5:=And.intro B5.out.c B5.out.f)
  | ((with_reducible refine a0R (t:=74) (p:=2) rfl ?_);refine a1E rfl rfl rfl [.slice (some ad) T.length c,.int .i64 (i + 1 + 1 + 1),.int .i64 e,.int .i64 n,.int .i64 0,.int .i64 0] B2.out.b rfl ?hv sizeSix rfl ?h1 ?_;(case hv =>rfl);(case h1 =>(intro q hq;simp only [List.mem_cons,List.not_mem_nil,or_false] at hq;rcases hq with rfl | rfl | rfl | rfl | rfl | rfl <;> rfl));intro w1 hx hp;clear k1 k2 k5;have B1:=Lib.hid (B1.out.far' hp (cB.out));have B5:=Lib.hid (B5.out.far' hp (Ne.symm fN.out));have B25:=Lib.hid (B25.out.far' hp (Ne.symm fR.out));have HB:=Lib.hid (hp.below _ G2.out HB.out);have B2:=Lib.hid (Six.mk hx);clear hx hp;have k1:=And.intro B1.out.c B1.out.f;have k2:=And.intro B2.out.c B2.out.f;have k5:=And.intro B5.out.c B5.out.f))
  refine bodyPost_ret (a3V rfl _ _ g2 _ _ (0,0) _ rfl B2.out.b Try.underlying74 rfl (by kernel_rfl)) rfl ?_
  exact ⟨_,rfl,a5Y HR.out HC25.out B25.out.b G25.out,HB.out⟩
end Go.Proofs.Ythhgfncliffggaa.Man
