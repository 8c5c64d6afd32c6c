/- A part of the proof that EffectsUnion returns true for every argument (the row of EffectsUnion: theorem effectsUnion_holds). No conditions beyond the given statement's own. -/
import Derived.Test.YthhgfncliffggaaEUn2
import Derived.Test.YthhgfncliffggaaEUn3
import Derived.Test.YthhgfncliffggaaEUn6
import Derived.Test.YthhgfncliffggaaRows
import Derived.WalkKit
import Derived.ProofKit
import Derived.OpenShut
import Derived.ShutString
import Derived.ChangeOld
import Derived.Below
import Derived.SizedLaws
set_option linter.unusedVariables false
set_option linter.unusedSimpArgs false
namespace Go.Proofs.Ythhgfncliffggaa.Pr
open Go.RowKit Go.Proofs.YthhgfncliffggaaW.PrintWords Go.Proofs.YthhgfncliffggaaW.PrintLast Go.Proofs.YthhgfncliffggaaW.PrintMore
attribute [local go_sem] a4I a4H a5P a5O a4R a4Q a6C a6B   -- for this text's walks alone
theorem a3G (t:TypeId) (a b:ByteArray):binOp .leq t (.string a) (.string b) = pure (.bool (!(Op.bytesLess b.toList a.toList))):=by
 have key:∀ x y:List UInt8,(Op.bytesLess x y || x == y) = !(Op.bytesLess y x):=by
  intro x
  induction x with
  | nil =>intro y;cases y <;> simp [Op.bytesLess]
  | cons p x ih =>
   intro y
   cases y with
   | nil =>simp [Op.bytesLess]
   | cons q y =>
    simp only [Op.bytesLess]
    rcases Nat.lt_trichotomy p.toNat q.toNat with h | h | h
    ·have h1:p < q:=UInt8.lt_iff_toNat_lt.2 h
     have h2:¬ q < p:=fun e =>by have:=UInt8.lt_iff_toNat_lt.1 e;omega
     have h3:¬ q = p:=fun e =>by rw [e] at h;omega
     simp [h1,h2,h3]
    ·obtain rfl:p = q:=UInt8.toNat_inj.1 h
     have h2:¬ p < p:=fun e =>by have:=UInt8.lt_iff_toNat_lt.1 e;omega
     have:=ih y
     simp [h2] at this ⊢
     exact this
    ·have h1:q < p:=UInt8.lt_iff_toNat_lt.2 h
     have h2:¬ p < q:=fun e =>by have:=UInt8.lt_iff_toNat_lt.1 e;omega
     have h3:¬ p = q:=fun e =>by rw [e] at h;omega
     simp [h1,h2,h3]
 simp [binOp,Op.stringOp,key]
attribute [local go_sem] a3G
theorem a2X (t:TypeId) (a b:ByteArray):binOp .geq t (.string a) (.string b) = pure (.bool (!(Op.bytesLess a.toList b.toList))):=by simp [binOp,Op.stringOp]
attribute [local go_sem] a2X
mutual
noncomputable def w14_EffectsUnion.j0:Nat→List ByteArray→List ByteArray→ByteArray→Bool→Option (Bool)
 | 0,_,_,_,_ =>none
 | k + 1,x0,x1,x2,x21 =>if x21 = true then ((w14_fixed.f).bind fun t193 =>(some t193)) else ((effects_Union.f x0 x1).bind fun t194 =>(w14_EffectsUnion.l0 k x0 x1 x2 t194 1))
noncomputable def w14_EffectsUnion.l0:Nat→List ByteArray→List ByteArray→ByteArray→List ByteArray→Int→Option (Bool)
 | 0,_,_,_,_,_ =>none
 | k + 1,x0,x1,x2,x7,x8 =>if x8 < (x7.length:Int) then (if 0≤(wrap64 (x8 - 1)) then (if (wrap64 (x8 - 1)) < (x7.length:Int) then (if 0≤x8 then (if ((Op.bytesLess ((rdOf ByteArray.empty x7 (wrap64 (x8 - 1))).toList) ((rdOf ByteArray.empty x7 x8).toList)) = true) then (w14_EffectsUnion.l0 k x0 x1 x2 x7 (wrap64 (x8 + 1))) else (some false)) else (none)) else (none)) else (none)) else ((w14_has.f k x0 x2).bind fun t199 =>(if t199 = true then (w14_EffectsUnion.j2 k x0 x1 x2 x7 true) else ((w14_has.f k x1 x2).bind fun t200 =>(w14_EffectsUnion.j2 k x0 x1 x2 x7 t200))))
noncomputable def w14_EffectsUnion.j2:Nat→List ByteArray→List ByteArray→ByteArray→List ByteArray→Bool→Option (Bool)
 | 0,_,_,_,_,_ =>none
 | k + 1,x0,x1,x2,x7,x9 =>(effects_Union.f x1 x0).bind fun t201 =>((r14_Texts.f k x7 t201).bind fun t204 =>(if t204 = true then ((effects_Union.f x7 x0).bind fun t205 =>((r14_Texts.f k x7 t205).bind fun t208 =>(if t208 = true then ((w14_has.f k x7 x2).bind fun t209 =>(some (t209 == x9))) else (some false)))) else (some false)))
end
noncomputable def w14_EffectsUnion.f (k:Nat) (l0:List ByteArray) (l1:List ByteArray) (a2:ByteArray):Option (Bool):=(w14_fixed.f).bind fun t192 =>(if t192 = true then (if (l0.length:Int) > 100 then (w14_EffectsUnion.j0 k l0 l1 a2 true) else (w14_EffectsUnion.j0 k l0 l1 a2 (decide ((l1.length:Int) > 100)))) else (w14_EffectsUnion.j0 k l0 l1 a2 true))
set_option maxHeartbeats 8000000 in
set_option maxRecDepth 100000 in
theorem w14_EffectsUnion.calls (k:Nat) (A0:Option Addr) (c0:Nat) (l0:List ByteArray) (A1:Option Addr) (c1:Nat) (l1:List ByteArray) (a2:ByteArray) (r:Bool) (w:World) (hr0:Kd.C Kd.string w A0 l0.length l0) (hc0:l0.length≤c0) (hr1:Kd.C Kd.string w A1 l1.length l1) (hc1:l1.length≤c1) (h:w14_EffectsUnion.f k l0 l1 a2 = some r) :
    Calls Try.prog 3 #[.slice A0 l0.length c0,.slice A1 l1.length c1,.string a2] w fun e w' =>e = .returned (.bool r)∧Below w.heap.size w w':=by
 have HR0:=a0G.mk hr0
 have HC0:=a0G.mk hc0
 clear hr0 hc0
 have HR1:=a0G.mk hr1
 have HC1:=a0G.mk hc1
 clear hr1 hc1
 have HB:=a0G.mk (Below.refl w.heap.size w)
 have H:((w14_fixed.f).bind fun t192 =>(if t192 = true then (if (l0.length:Int) > 100 then (w14_EffectsUnion.j0 k l0 l1 a2 true) else (w14_EffectsUnion.j0 k l0 l1 a2 (decide ((l1.length:Int) > 100)))) else (w14_EffectsUnion.j0 k l0 l1 a2 true))) = some r:=h
 clear h
 have HC4:=a0G.mk H
 clear H
 go_enter Try.func3,Try.ntmps3
 go_upto_region 1 with (fail)
 repeat (go_quiet (fail);go_upto_region 1 with (fail))
 go_cut [21] (fun v21 wc =>∃ (kq:Nat) (aJ:Bool),v21 = .bool aJ∧a0G (w14_EffectsUnion.j0 kq l0 l1 a2 aJ = some r)∧a0G (kq≤k)∧a0G (Below w.heap.size w wc))
 case first =>
  have H:=HC4.out
  clear HC4
  replace H:=Option.bind_eq_some_iff.mp H
  obtain ⟨t192,A50,H⟩:=H
  replace H:(if t192 = true then (if (l0.length:Int) > 100 then (w14_EffectsUnion.j0 k l0 l1 a2 true) else (w14_EffectsUnion.j0 k l0 l1 a2 (decide ((l1.length:Int) > 100)))) else (w14_EffectsUnion.j0 k l0 l1 a2 true)) = some r:=H
  have A5:=a0G.mk A50
  clear A50
  by_cases c6:t192 = true
  ·subst c6
   have H1:(if (l0.length:Int) > 100 then (w14_EffectsUnion.j0 k l0 l1 a2 true) else (w14_EffectsUnion.j0 k l0 l1 a2 (decide ((l1.length:Int) > 100)))) = some r:=by rw [if_pos rfl] at H;exact H
   clear H
   have H:=H1
   clear H1
   by_cases c7:(l0.length:Int) > 100
   ·rw [if_pos c7] at H
    have c7b0:decide (100 < (l0.length:Int)) = true:=decide_eq_true c7
    have c7b1:decide (100 < l0.length) = true:=decide_eq_true (by omega)
    clear c7
    (first | rw [c7b0] | (simp only [b0A,b4Q];rw [c7b0]) | skip)
    have H':=a0G.mk H
    clear H
    go_wp2_with (first | (go_at_call 4;(with_reducible refine (w14_fixed.calls  true _ A5.out).mono ?_);rintro e w8 ⟨rfl,hb⟩;have aC:=a0G.mk (a0E (by repeat (first | (with_reducible first | exact HB.out | apply a0B | apply a0A | apply a0C) | exact HB.out)) hb);clear HB;have HB:=aC;clear aC;(try clear hb);(try clear hb2);(try clear hk);(try clear hi)))
    repeat (go_quiet (first | (go_at_call 4;(with_reducible refine (w14_fixed.calls  true _ A5.out).mono ?_);rintro e w8 ⟨rfl,hb⟩;have aC:=a0G.mk (a0E (by repeat (first | (with_reducible first | exact HB.out | apply a0B | apply a0A | apply a0C) | exact HB.out)) hb);clear HB;have HB:=aC;clear aC;(try clear hb);(try clear hb2);(try clear hk);(try clear hi)));try go_wp2_with (first | (go_at_call 4;(with_reducible refine (w14_fixed.calls  true _ A5.out).mono ?_);rintro e w8 ⟨rfl,hb⟩;have aC:=a0G.mk (a0E (by repeat (first | (with_reducible first | exact HB.out | apply a0B | apply a0A | apply a0C) | exact HB.out)) hb);clear HB;have HB:=aC;clear aC;(try clear hb);(try clear hb2);(try clear hk);(try clear hi))))
    go_meet
    case rel =>exact ⟨_,(true),(by first | rfl | (simp;done) | (simp [*];done)),H',⟨by first | omega | exact Nat.le_refl _⟩,⟨by repeat (first | (with_reducible first | exact HB.out | apply a0B | apply a0A | apply a0C) | exact HB.out)⟩⟩
   ·rw [if_neg c7] at H
    have c7b0:decide (100 < (l0.length:Int)) = false:=decide_eq_false c7
    have c7b1:decide (100 < l0.length) = false:=decide_eq_false (by omega)
    clear c7
    (first | rw [c7b0] | (simp only [b0A,b4Q];rw [c7b0]) | skip)
    have H':=a0G.mk H
    clear H
    go_wp2_with (first | (go_at_call 4;(with_reducible refine (w14_fixed.calls  true _ A5.out).mono ?_);rintro e w9 ⟨rfl,hb⟩;have aC:=a0G.mk (a0E (by repeat (first | (with_reducible first | exact HB.out | apply a0B | apply a0A | apply a0C) | exact HB.out)) hb);clear HB;have HB:=aC;clear aC;(try clear hb);(try clear hb2);(try clear hk);(try clear hi)))
    repeat (go_quiet (first | (go_at_call 4;(with_reducible refine (w14_fixed.calls  true _ A5.out).mono ?_);rintro e w9 ⟨rfl,hb⟩;have aC:=a0G.mk (a0E (by repeat (first | (with_reducible first | exact HB.out | apply a0B | apply a0A | apply a0C) | exact HB.out)) hb);clear HB;have HB:=aC;clear aC;(try clear hb);(try clear hb2);(try clear hk);(try clear hi)));try go_wp2_with (first | (go_at_call 4;(with_reducible refine (w14_fixed.calls  true _ A5.out).mono ?_);rintro e w9 ⟨rfl,hb⟩;have aC:=a0G.mk (a0E (by repeat (first | (with_reducible first | exact HB.out | apply a0B | apply a0A | apply a0C) | exact HB.out)) hb);clear HB;have HB:=aC;clear aC;(try clear hb);(try clear hb2);(try clear hk);(try clear hi))))
    go_meet
    case rel =>exact ⟨_,(decide ((l1.length:Int) > 100)),(by first | rfl | (simp;done) | (simp [*];done)),H',⟨by first | omega | exact Nat.le_refl _⟩,⟨by repeat (first | (with_reducible first | exact HB.out | apply a0B | apply a0A | apply a0C) | exact HB.out)⟩⟩
  ·replace c6:=Bool.eq_false_iff.mpr c6
   subst c6
   have H1:(w14_EffectsUnion.j0 k l0 l1 a2 true) = some r:=by rw [if_neg (show ¬ (false = true) by decide)] at H;exact H
   clear H
   have H:=H1
   clear H1
   have H':=a0G.mk H
   clear H
   go_wp2_with (first | (go_at_call 4;(with_reducible refine (w14_fixed.calls  false _ A5.out).mono ?_);rintro e w10 ⟨rfl,hb⟩;have aC:=a0G.mk (a0E (by repeat (first | (with_reducible first | exact HB.out | apply a0B | apply a0A | apply a0C) | exact HB.out)) hb);clear HB;have HB:=aC;clear aC;(try clear hb);(try clear hb2);(try clear hk);(try clear hi)))
   repeat (go_quiet (first | (go_at_call 4;(with_reducible refine (w14_fixed.calls  false _ A5.out).mono ?_);rintro e w10 ⟨rfl,hb⟩;have aC:=a0G.mk (a0E (by repeat (first | (with_reducible first | exact HB.out | apply a0B | apply a0A | apply a0C) | exact HB.out)) hb);clear HB;have HB:=aC;clear aC;(try clear hb);(try clear hb2);(try clear hk);(try clear hi)));try go_wp2_with (first | (go_at_call 4;(with_reducible refine (w14_fixed.calls  false _ A5.out).mono ?_);rintro e w10 ⟨rfl,hb⟩;have aC:=a0G.mk (a0E (by repeat (first | (with_reducible first | exact HB.out | apply a0B | apply a0A | apply a0C) | exact HB.out)) hb);clear HB;have HB:=aC;clear aC;(try clear hb);(try clear hb2);(try clear hk);(try clear hi))))
   go_meet
   case rel =>exact ⟨_,(true),(by first | rfl | (simp;done) | (simp [*];done)),H',⟨by first | omega | exact Nat.le_refl _⟩,⟨by repeat (first | (with_reducible first | exact HB.out | apply a0B | apply a0A | apply a0C) | exact HB.out)⟩⟩
 case rest =>
  clear HC4
  try clear c1
  try clear p2
  try clear c3
  try clear c6
  try clear c7
  try clear c7b0
  try clear c7b1
  obtain ⟨kq,aJ,rfl,HA,HJ3,HB⟩:=hcut
  cases kq with
  | zero =>exact absurd HA.out (by simp [w14_EffectsUnion.j0])
  | succ kj3 =>
   have H:=HA.out
   clear HA
   simp only [w14_EffectsUnion.j0] at H
   by_cases c11:aJ = true
   ·subst c11
    have H1:((w14_fixed.f).bind fun t193 =>(some t193)) = some r:=by rw [if_pos rfl] at H;exact H
    clear H
    have H:=H1
    clear H1
    replace H:=Option.bind_eq_some_iff.mp H
    obtain ⟨t193,A120,H⟩:=H
    replace H:(some t193) = some r:=H
    have A12:=a0G.mk A120
    clear A120
    obtain rfl:=Option.some.inj H
    go_wp2_with (first | (go_at_call 4;(with_reducible refine (w14_fixed.calls  t193 _ A12.out).mono ?_);rintro e w13 ⟨rfl,hb⟩;have aC:=a0G.mk (a0E (by repeat (first | (with_reducible first | exact HB.out | apply a0B | apply a0A | apply a0C) | exact HB.out)) hb);clear HB;have HB:=aC;clear aC;(try clear hb);(try clear hb2);(try clear hk);(try clear hi)))
    repeat (go_quiet (first | (go_at_call 4;(with_reducible refine (w14_fixed.calls  t193 _ A12.out).mono ?_);rintro e w13 ⟨rfl,hb⟩;have aC:=a0G.mk (a0E (by repeat (first | (with_reducible first | exact HB.out | apply a0B | apply a0A | apply a0C) | exact HB.out)) hb);clear HB;have HB:=aC;clear aC;(try clear hb);(try clear hb2);(try clear hk);(try clear hi)));try go_wp2_with (first | (go_at_call 4;(with_reducible refine (w14_fixed.calls  t193 _ A12.out).mono ?_);rintro e w13 ⟨rfl,hb⟩;have aC:=a0G.mk (a0E (by repeat (first | (with_reducible first | exact HB.out | apply a0B | apply a0A | apply a0C) | exact HB.out)) hb);clear HB;have HB:=aC;clear aC;(try clear hb);(try clear hb2);(try clear hk);(try clear hi))))
    go_ret
    exact ⟨by first | rfl | (simp [a0O,a0N] <;> rfl) | (simp [*,a0O,a0N] <;> rfl),by repeat (first | (with_reducible first | exact HB.out | apply a0B | apply a0A | apply a0C) | exact HB.out)⟩
   ·replace c11:=Bool.eq_false_iff.mpr c11
    subst c11
    have H1:((effects_Union.f l0 l1).bind fun t194 =>(w14_EffectsUnion.l0 kj3 l0 l1 a2 t194 1)) = some r:=by rw [if_neg (show ¬ (false = true) by decide)] at H;exact H
    clear H
    have H:=H1
    clear H1
    replace H:=Option.bind_eq_some_iff.mp H
    obtain ⟨t194,A140,H⟩:=H
    replace H:(w14_EffectsUnion.l0 kj3 l0 l1 a2 t194 1) = some r:=H
    have A14:=a0G.mk A140
    clear A140
    have H':=a0G.mk H
    clear H
    go_wp2_with (first | (go_at_call 5;(with_reducible refine (effects_Union.calls _ _ l0 _ _ l1 t194 _ ?side1 ?side2 ?side3 ?side4 A14.out).mono ?_);(case side1 =>repeat (first | exact (Kd.a0J HR0.out HB.out) | (with_reducible refine Kd.a0T ?_ _) | (with_reducible refine Kd.a0S ?_ _) | (with_reducible refine Kd.a1A ?_)));(case side2 =>exact HC0.out);(case side3 =>repeat (first | exact (Kd.a0J HR1.out HB.out) | (with_reducible refine Kd.a0T ?_ _) | (with_reducible refine Kd.a0S ?_ _) | (with_reducible refine Kd.a1A ?_)));(case side4 =>exact HC1.out);rintro e w15 ⟨v195,rfl,ho0,hb⟩;have aC:=a0G.mk (Kd.a1U ho0 (a0U (by repeat (first | (with_reducible first | exact HB.out | apply a0B | apply a0A | apply a0C) | exact HB.out))));have aD:=a0G.mk (a0E (by repeat (first | (with_reducible first | exact HB.out | apply a0B | apply a0A | apply a0C) | exact HB.out)) hb);clear HB;have HO196:=aC;have HB:=aD;clear aC aD;(try clear hb);(try clear hb2);(try clear hk);(try clear hi);(try clear ho0)))
    repeat (go_quiet (first | (go_at_call 5;(with_reducible refine (effects_Union.calls _ _ l0 _ _ l1 t194 _ ?side1 ?side2 ?side3 ?side4 A14.out).mono ?_);(case side1 =>repeat (first | exact (Kd.a0J HR0.out HB.out) | (with_reducible refine Kd.a0T ?_ _) | (with_reducible refine Kd.a0S ?_ _) | (with_reducible refine Kd.a1A ?_)));(case side2 =>exact HC0.out);(case side3 =>repeat (first | exact (Kd.a0J HR1.out HB.out) | (with_reducible refine Kd.a0T ?_ _) | (with_reducible refine Kd.a0S ?_ _) | (with_reducible refine Kd.a1A ?_)));(case side4 =>exact HC1.out);rintro e w15 ⟨v195,rfl,ho0,hb⟩;have aC:=a0G.mk (Kd.a1U ho0 (a0U (by repeat (first | (with_reducible first | exact HB.out | apply a0B | apply a0A | apply a0C) | exact HB.out))));have aD:=a0G.mk (a0E (by repeat (first | (with_reducible first | exact HB.out | apply a0B | apply a0A | apply a0C) | exact HB.out)) hb);clear HB;have HO196:=aC;have HB:=aD;clear aC aD;(try clear hb);(try clear hb2);(try clear hk);(try clear hi);(try clear ho0)));try go_wp2_with (first | (go_at_call 5;(with_reducible refine (effects_Union.calls _ _ l0 _ _ l1 t194 _ ?side1 ?side2 ?side3 ?side4 A14.out).mono ?_);(case side1 =>repeat (first | exact (Kd.a0J HR0.out HB.out) | (with_reducible refine Kd.a0T ?_ _) | (with_reducible refine Kd.a0S ?_ _) | (with_reducible refine Kd.a1A ?_)));(case side2 =>exact HC0.out);(case side3 =>repeat (first | exact (Kd.a0J HR1.out HB.out) | (with_reducible refine Kd.a0T ?_ _) | (with_reducible refine Kd.a0S ?_ _) | (with_reducible refine Kd.a1A ?_)));(case side4 =>exact HC1.out);rintro e w15 ⟨v195,rfl,ho0,hb⟩;have aC:=a0G.mk (Kd.a1U ho0 (a0U (by repeat (first | (with_reducible first | exact HB.out | apply a0B | apply a0A | apply a0C) | exact HB.out))));have aD:=a0G.mk (a0E (by repeat (first | (with_reducible first | exact HB.out | apply a0B | apply a0A | apply a0C) | exact HB.out)) hb);clear HB;have HO196:=aC;have HB:=aD;clear aC aD;(try clear hb);(try clear hb2);(try clear hk);(try clear hi);(try clear ho0))))
    go_loopg [8] kj3 (fun kq v8 w' =>∃ (aE:Int),v8 = .int .i64 aE∧a0G (w14_EffectsUnion.l0 kq l0 l1 a2 t194 aE = some r)∧a0G (kq≤kj3)∧a0G (Kd.R Kd.string 9 w' w.heap.size (fun _ =>True) v195 t194)∧a0G (Below w.heap.size w w'))
    case atStart =>exact ⟨(1),(by first | rfl | (simp;done) | (simp [*];done)),H',⟨Nat.le_refl _⟩,⟨by (with_reducible repeat (first | apply Kd.a1C | apply Kd.a1B | apply Kd.a1I));exact HO196.out⟩,⟨by repeat (first | (with_reducible first | exact HB.out | apply a0B | apply a0A | apply a0C) | exact HB.out)⟩⟩
    case round =>
     clear H'
     try clear c1
     try clear p2
     try clear c3
     try clear c6
     try clear c7
     try clear c7b0
     try clear c7b1
     try clear c11
     try clear p2
     obtain ⟨aE,rfl,HA,HK2,aA,HB⟩:=hrel
     cases gk with
     | zero =>exact absurd HA.out (by simp [w14_EffectsUnion.l0])
     | succ k2 =>
      have H:=HA.out
      clear HA
      simp only [w14_EffectsUnion.l0] at H
      by_cases c16:aE < (t194.length:Int)
      ·rw [if_pos c16] at H
       have c16b0:decide (aE < (t194.length:Int)) = true:=decide_eq_true c16
       clear c16
       obtain ⟨ji17,hji17⟩:∃ j_:Int,(wrap64 (aE - 1)) = j_:=⟨_,rfl⟩
       replace H:(if 0≤(ji17) then (if (ji17) < (t194.length:Int) then (if 0≤aE then (if ((Op.bytesLess ((rdOf ByteArray.empty t194 (ji17)).toList) ((rdOf ByteArray.empty t194 aE).toList)) = true) then (w14_EffectsUnion.l0 k2 l0 l1 a2 t194 (wrap64 (aE + 1))) else (some false)) else (none)) else (none)) else (none)) = some r:=by first | (rw [hji17] at H;exact H) | (simp only [hji17] at H ⊢;exact H)
       have hji17w:(IntKind.i64.wrap (aE - 1)) = ji17:=(b0A _).trans hji17
       by_cases c18:0≤(ji17)
       ·rw [if_pos c18] at H
        have c18b0:decide (0≤(ji17)) = true:=decide_eq_true c18
        clear c18
        by_cases c19:(ji17) < (t194.length:Int)
        ·rw [if_pos c19] at H
         have c19b0:decide ((ji17) < (t194.length:Int)) = true:=decide_eq_true c19
         clear c19
         by_cases c20:0≤aE
         ·rw [if_pos c20] at H
          have c20b0:decide (0≤aE) = true:=decide_eq_true c20
          clear c20
          by_cases c21:((Op.bytesLess ((rdOf ByteArray.empty t194 (ji17)).toList) ((rdOf ByteArray.empty t194 aE).toList)) = true)
          ·rw [if_pos c21] at H
           have c21b0:(Op.bytesLess ((rdOf ByteArray.empty t194 (ji17)).toList) ((rdOf ByteArray.empty t194 aE).toList)) = true:=c21
           clear c21
           have H':=a0G.mk H
           clear H
           obtain ⟨Ao22,co22,eo22⟩:=Kd.a1P aA.out
           subst eo22
           have p197:0≤((ji17):Int):=of_decide_eq_true (by first | (with_reducible assumption) | assumption)
           have q197:(ji17) < (t194.length:Int):=of_decide_eq_true (by first | (with_reducible assumption) | assumption)
           obtain ⟨ad197,e197,aK⟩:=Kd.a2D (Kd.a0K aA.out).2.2 (ji17) p197 q197
           cases e197
           replace p197:=eq_true p197
           replace q197:=eq_true q197
           have p198:0≤(aE:Int):=of_decide_eq_true (by first | (with_reducible assumption) | assumption)
           have q198:aE < (t194.length:Int):=of_decide_eq_true (by first | (with_reducible assumption) | assumption)
           obtain ⟨ad198,e198,aM⟩:=Kd.a2D (Kd.a0K aA.out).2.2 aE p198 q198
           obtain rfl:ad197 = ad198:=(by injection e198)
           replace p198:=eq_true p198
           replace q198:=eq_true q198
           go_wp2
           repeat (go_quiet (fail);try go_wp2)
           go_roundg k2
           case measure =>have:=HJ3.out;have:=HK2.out;omega
           case rel =>exact ⟨(wrap64 (aE + 1)),(by first | rfl | (simp;done) | (simp [*];done)),H',⟨by have:=HJ3.out;have:=HK2.out;omega⟩,⟨by (with_reducible repeat (first | apply Kd.a1C | apply Kd.a1B | apply Kd.a1I));exact aA.out⟩,⟨by repeat (first | (with_reducible first | exact HB.out | apply a0B | apply a0A | apply a0C) | exact HB.out)⟩⟩
          ·rw [if_neg c21] at H
           have c21b0:(Op.bytesLess ((rdOf ByteArray.empty t194 (ji17)).toList) ((rdOf ByteArray.empty t194 aE).toList)) = false:=by simpa using c21
           clear c21
           obtain rfl:=Option.some.inj H
           obtain ⟨Ao23,co23,eo23⟩:=Kd.a1P aA.out
           subst eo23
           have p197:0≤((ji17):Int):=of_decide_eq_true (by first | (with_reducible assumption) | assumption)
           have q197:(ji17) < (t194.length:Int):=of_decide_eq_true (by first | (with_reducible assumption) | assumption)
           obtain ⟨ad197,e197,aK⟩:=Kd.a2D (Kd.a0K aA.out).2.2 (ji17) p197 q197
           cases e197
           replace p197:=eq_true p197
           replace q197:=eq_true q197
           have p198:0≤(aE:Int):=of_decide_eq_true (by first | (with_reducible assumption) | assumption)
           have q198:aE < (t194.length:Int):=of_decide_eq_true (by first | (with_reducible assumption) | assumption)
           obtain ⟨ad198,e198,aM⟩:=Kd.a2D (Kd.a0K aA.out).2.2 aE p198 q198
           obtain rfl:ad197 = ad198:=(by injection e198)
           replace p198:=eq_true p198
           replace q198:=eq_true q198
           go_wp2
           repeat (go_quiet (fail);try go_wp2)
           go_ret
           exact ⟨by first | rfl | (simp [a0O,a0N] <;> rfl) | (simp only [← hji17];first | rfl | (simp [a0O,a0N] <;> rfl)) | (simp [*,a0O,a0N] <;> rfl),by repeat (first | (with_reducible first | exact HB.out | apply a0B | apply a0A | apply a0C) | exact HB.out)⟩
         ·rw [if_neg c20] at H
          exact absurd H (by simp)
        ·rw [if_neg c19] at H
         exact absurd H (by simp)
       ·rw [if_neg c18] at H
        exact absurd H (by simp)
      ·rw [if_neg c16] at H
       have c16b0:decide (aE < (t194.length:Int)) = false:=decide_eq_false c16
       clear c16
       have HC24:=a0G.mk H
       clear H
       obtain ⟨Ao25,co25,eo25⟩:=Kd.a1P aA.out
       subst eo25
       go_upto_region 9 with (fail)
       repeat (go_quiet (fail);go_upto_region 9 with (fail))
       go_cut [9] (fun v9 wc =>∃ (kq:Nat) (aH:Bool),v9 = .bool aH∧a0G (w14_EffectsUnion.j2 kq l0 l1 a2 t194 aH = some r)∧a0G (kq≤k2)∧a0G (Kd.R Kd.string 9 wc w.heap.size (fun _ =>True) (.slice Ao25 t194.length co25) t194)∧a0G (Below w.heap.size w wc))
       case first =>
        have H:=HC24.out
        clear HC24
        replace H:=Option.bind_eq_some_iff.mp H
        obtain ⟨t199,A260,H⟩:=H
        replace H:(if t199 = true then (w14_EffectsUnion.j2 k2 l0 l1 a2 t194 true) else ((w14_has.f k2 l1 a2).bind fun t200 =>(w14_EffectsUnion.j2 k2 l0 l1 a2 t194 t200))) = some r:=H
        have A26:=a0G.mk A260
        clear A260
        by_cases c27:t199 = true
        ·subst c27
         have H1:(w14_EffectsUnion.j2 k2 l0 l1 a2 t194 true) = some r:=by rw [if_pos rfl] at H;exact H
         clear H
         have H:=H1
         clear H1
         have H':=a0G.mk H
         clear H
         go_wp2_with (first | (go_at_call 6;(with_reducible refine (w14_has.calls k2 _ _ l0 a2 true _ ?side1 ?side2 A26.out).mono ?_);(case side1 =>repeat (first | exact (Kd.a0J HR0.out HB.out) | (with_reducible refine Kd.a0T ?_ _) | (with_reducible refine Kd.a0S ?_ _) | (with_reducible refine Kd.a1A ?_)));(case side2 =>exact HC0.out);rintro e w' ⟨rfl,⟨nd,rfl⟩⟩;(try first | exact ⟨rfl,_,World.drewN_drewN _ _ _⟩ | exact ⟨rfl,_,Eq.trans (World.drewN_drewN _ _ _) (congrArg (World.drewN _) (Nat.add_assoc _ _ _))⟩)))
         repeat (go_quiet (first | (go_at_call 6;(with_reducible refine (w14_has.calls k2 _ _ l0 a2 true _ ?side1 ?side2 A26.out).mono ?_);(case side1 =>repeat (first | exact (Kd.a0J HR0.out HB.out) | (with_reducible refine Kd.a0T ?_ _) | (with_reducible refine Kd.a0S ?_ _) | (with_reducible refine Kd.a1A ?_)));(case side2 =>exact HC0.out);rintro e w' ⟨rfl,⟨nd,rfl⟩⟩;(try first | exact ⟨rfl,_,World.drewN_drewN _ _ _⟩ | exact ⟨rfl,_,Eq.trans (World.drewN_drewN _ _ _) (congrArg (World.drewN _) (Nat.add_assoc _ _ _))⟩)));try go_wp2_with (first | (go_at_call 6;(with_reducible refine (w14_has.calls k2 _ _ l0 a2 true _ ?side1 ?side2 A26.out).mono ?_);(case side1 =>repeat (first | exact (Kd.a0J HR0.out HB.out) | (with_reducible refine Kd.a0T ?_ _) | (with_reducible refine Kd.a0S ?_ _) | (with_reducible refine Kd.a1A ?_)));(case side2 =>exact HC0.out);rintro e w' ⟨rfl,⟨nd,rfl⟩⟩;(try first | exact ⟨rfl,_,World.drewN_drewN _ _ _⟩ | exact ⟨rfl,_,Eq.trans (World.drewN_drewN _ _ _) (congrArg (World.drewN _) (Nat.add_assoc _ _ _))⟩))))
         go_meet
         case rel =>exact ⟨_,(true),(by first | rfl | (simp;done) | (simp [*];done)),H',⟨by have:=HJ3.out;have:=HK2.out;first | omega | exact Nat.le_refl _⟩,⟨by (with_reducible repeat (first | apply Kd.a1C | apply Kd.a1B | apply Kd.a1I));exact aA.out⟩,⟨by repeat (first | (with_reducible first | exact HB.out | apply a0B | apply a0A | apply a0C) | exact HB.out)⟩⟩
        ·replace c27:=Bool.eq_false_iff.mpr c27
         subst c27
         have H1:((w14_has.f k2 l1 a2).bind fun t200 =>(w14_EffectsUnion.j2 k2 l0 l1 a2 t194 t200)) = some r:=by rw [if_neg (show ¬ (false = true) by decide)] at H;exact H
         clear H
         have H:=H1
         clear H1
         replace H:=Option.bind_eq_some_iff.mp H
         obtain ⟨t200,A280,H⟩:=H
         replace H:(w14_EffectsUnion.j2 k2 l0 l1 a2 t194 t200) = some r:=H
         have A28:=a0G.mk A280
         clear A280
         have H':=a0G.mk H
         clear H
         go_wp2_with (first | (go_at_call 6;(with_reducible refine (w14_has.calls k2 _ _ l0 a2 false _ ?side1 ?side2 A26.out).mono ?_);(case side1 =>repeat (first | exact (Kd.a0J HR0.out HB.out) | (with_reducible refine Kd.a0T ?_ _) | (with_reducible refine Kd.a0S ?_ _) | (with_reducible refine Kd.a1A ?_)));(case side2 =>exact HC0.out);rintro e w' ⟨rfl,⟨nd,rfl⟩⟩;(try first | exact ⟨rfl,_,World.drewN_drewN _ _ _⟩ | exact ⟨rfl,_,Eq.trans (World.drewN_drewN _ _ _) (congrArg (World.drewN _) (Nat.add_assoc _ _ _))⟩)) | (go_at_call 6;(with_reducible refine (w14_has.calls k2 _ _ l1 a2 t200 _ ?side1 ?side2 A28.out).mono ?_);(case side1 =>repeat (first | exact (Kd.a0J HR1.out (by repeat (first | (with_reducible first | exact HB.out | apply a0B | apply a0A | apply a0C) | exact HB.out))) | (with_reducible refine Kd.a0T ?_ _) | (with_reducible refine Kd.a0S ?_ _) | (with_reducible refine Kd.a1A ?_)));(case side2 =>exact HC1.out);rintro e w' ⟨rfl,⟨nd,rfl⟩⟩;(try first | exact ⟨rfl,_,World.drewN_drewN _ _ _⟩ | exact ⟨rfl,_,Eq.trans (World.drewN_drewN _ _ _) (congrArg (World.drewN _) (Nat.add_assoc _ _ _))⟩)))
         repeat (go_quiet (first | (go_at_call 6;(with_reducible refine (w14_has.calls k2 _ _ l0 a2 false _ ?side1 ?side2 A26.out).mono ?_);(case side1 =>repeat (first | exact (Kd.a0J HR0.out HB.out) | (with_reducible refine Kd.a0T ?_ _) | (with_reducible refine Kd.a0S ?_ _) | (with_reducible refine Kd.a1A ?_)));(case side2 =>exact HC0.out);rintro e w' ⟨rfl,⟨nd,rfl⟩⟩;(try first | exact ⟨rfl,_,World.drewN_drewN _ _ _⟩ | exact ⟨rfl,_,Eq.trans (World.drewN_drewN _ _ _) (congrArg (World.drewN _) (Nat.add_assoc _ _ _))⟩)) | (go_at_call 6;(with_reducible refine (w14_has.calls k2 _ _ l1 a2 t200 _ ?side1 ?side2 A28.out).mono ?_);(case side1 =>repeat (first | exact (Kd.a0J HR1.out (by repeat (first | (with_reducible first | exact HB.out | apply a0B | apply a0A | apply a0C) | exact HB.out))) | (with_reducible refine Kd.a0T ?_ _) | (with_reducible refine Kd.a0S ?_ _) | (with_reducible refine Kd.a1A ?_)));(case side2 =>exact HC1.out);rintro e w' ⟨rfl,⟨nd,rfl⟩⟩;(try first | exact ⟨rfl,_,World.drewN_drewN _ _ _⟩ | exact ⟨rfl,_,Eq.trans (World.drewN_drewN _ _ _) (congrArg (World.drewN _) (Nat.add_assoc _ _ _))⟩)));try go_wp2_with (first | (go_at_call 6;(with_reducible refine (w14_has.calls k2 _ _ l0 a2 false _ ?side1 ?side2 A26.out).mono ?_);(case side1 =>repeat (first | exact (Kd.a0J HR0.out HB.out) | (with_reducible refine Kd.a0T ?_ _) | (with_reducible refine Kd.a0S ?_ _) | (with_reducible refine Kd.a1A ?_)));(case side2 =>exact HC0.out);rintro e w' ⟨rfl,⟨nd,rfl⟩⟩;(try first | exact ⟨rfl,_,World.drewN_drewN _ _ _⟩ | exact ⟨rfl,_,Eq.trans (World.drewN_drewN _ _ _) (congrArg (World.drewN _) (Nat.add_assoc _ _ _))⟩)) | (go_at_call 6;(with_reducible refine (w14_has.calls k2 _ _ l1 a2 t200 _ ?side1 ?side2 A28.out).mono ?_);(case side1 =>repeat (first | exact (Kd.a0J HR1.out (by repeat (first | (with_reducible first | exact HB.out | apply a0B | apply a0A | apply a0C) | exact HB.out))) | (with_reducible refine Kd.a0T ?_ _) | (with_reducible refine Kd.a0S ?_ _) | (with_reducible refine Kd.a1A ?_)));(case side2 =>exact HC1.out);rintro e w' ⟨rfl,⟨nd,rfl⟩⟩;(try first | exact ⟨rfl,_,World.drewN_drewN _ _ _⟩ | exact ⟨rfl,_,Eq.trans (World.drewN_drewN _ _ _) (congrArg (World.drewN _) (Nat.add_assoc _ _ _))⟩))))
         go_meet
         case rel =>exact ⟨_,(t200),(by first | rfl | (simp;done) | (simp [*];done)),H',⟨by have:=HJ3.out;have:=HK2.out;first | omega | exact Nat.le_refl _⟩,⟨by (with_reducible repeat (first | apply Kd.a1C | apply Kd.a1B | apply Kd.a1I));exact aA.out⟩,⟨by repeat (first | (with_reducible first | exact HB.out | apply a0B | apply a0A | apply a0C) | exact HB.out)⟩⟩
       case rest =>
        clear HC24
        try clear c1
        try clear p1
        try clear q1
        try clear hx1
        try clear c2
        try clear p2
        try clear c3
        try clear c6
        try clear p6
        try clear c7
        try clear c7b0
        try clear c7b1
        try clear c11
        try clear c16
        try clear c16b0
        try clear c18
        try clear c18b0
        try clear c19
        try clear c19b0
        try clear p19
        try clear q19
        try clear hx19
        try clear c20
        try clear c20b0
        try clear c21
        try clear c21b0
        try clear c27
        try clear aK
        try clear aM
        try clear p197
        try clear p198
        try clear p2
        try clear q197
        try clear q198
        obtain ⟨kq,aH,rfl,HA,HJ23,aA,HB⟩:=hcut
        cases kq with
        | zero =>exact absurd HA.out (by simp [w14_EffectsUnion.j2])
        | succ kj23 =>
         have H:=HA.out
         clear HA
         simp only [w14_EffectsUnion.j2] at H
         replace H:=Option.bind_eq_some_iff.mp H
         obtain ⟨t201,A290,H⟩:=H
         replace H:((r14_Texts.f kj23 t194 t201).bind fun t204 =>(if t204 = true then ((effects_Union.f t194 l0).bind fun t205 =>((r14_Texts.f kj23 t194 t205).bind fun t208 =>(if t208 = true then ((w14_has.f kj23 t194 a2).bind fun t209 =>(some (t209 == aH))) else (some false)))) else (some false))) = some r:=H
         have A29:=a0G.mk A290
         clear A290
         replace H:=Option.bind_eq_some_iff.mp H
         obtain ⟨t204,A300,H⟩:=H
         replace H:(if t204 = true then ((effects_Union.f t194 l0).bind fun t205 =>((r14_Texts.f kj23 t194 t205).bind fun t208 =>(if t208 = true then ((w14_has.f kj23 t194 a2).bind fun t209 =>(some (t209 == aH))) else (some false)))) else (some false)) = some r:=H
         have A30:=a0G.mk A300
         clear A300
         by_cases c31:t204 = true
         ·subst c31
          have H1:((effects_Union.f t194 l0).bind fun t205 =>((r14_Texts.f kj23 t194 t205).bind fun t208 =>(if t208 = true then ((w14_has.f kj23 t194 a2).bind fun t209 =>(some (t209 == aH))) else (some false)))) = some r:=by rw [if_pos rfl] at H;exact H
          clear H
          have H:=H1
          clear H1
          replace H:=Option.bind_eq_some_iff.mp H
          obtain ⟨t205,A320,H⟩:=H
          replace H:((r14_Texts.f kj23 t194 t205).bind fun t208 =>(if t208 = true then ((w14_has.f kj23 t194 a2).bind fun t209 =>(some (t209 == aH))) else (some false))) = some r:=H
          have A32:=a0G.mk A320
          clear A320
          replace H:=Option.bind_eq_some_iff.mp H
          obtain ⟨t208,A330,H⟩:=H
          replace H:(if t208 = true then ((w14_has.f kj23 t194 a2).bind fun t209 =>(some (t209 == aH))) else (some false)) = some r:=H
          have A33:=a0G.mk A330
          clear A330
          by_cases c34:t208 = true
          ·subst c34
           have H1:((w14_has.f kj23 t194 a2).bind fun t209 =>(some (t209 == aH))) = some r:=by rw [if_pos rfl] at H;exact H
           clear H
           have H:=H1
           clear H1
           replace H:=Option.bind_eq_some_iff.mp H
           obtain ⟨t209,A350,H⟩:=H
           replace H:(some (t209 == aH)) = some r:=H
           have A35:=a0G.mk A350
           clear A350
           obtain rfl:=Option.some.inj H
           go_wp2_with (first | (go_at_call 5;(with_reducible refine (effects_Union.calls _ _ l1 _ _ l0 t201 _ ?side1 ?side2 ?side3 ?side4 A29.out).mono ?_);(case side1 =>repeat (first | exact (Kd.a0J HR1.out HB.out) | (with_reducible refine Kd.a0T ?_ _) | (with_reducible refine Kd.a0S ?_ _) | (with_reducible refine Kd.a1A ?_)));(case side2 =>exact HC1.out);(case side3 =>repeat (first | exact (Kd.a0J HR0.out HB.out) | (with_reducible refine Kd.a0T ?_ _) | (with_reducible refine Kd.a0S ?_ _) | (with_reducible refine Kd.a1A ?_)));(case side4 =>exact HC0.out);rintro e w36 ⟨v202,rfl,ho0,hb⟩;have aC:=a0G.mk (Kd.a2A (by (with_reducible repeat (first | apply Kd.a1C | apply Kd.a1B | apply Kd.a1I));exact aA.out) (Kd.a2Z ho0) hb);have aD:=a0G.mk (Kd.a1U (Kd.a3E ho0 (Kd.R_lt (by (with_reducible repeat (first | apply Kd.a1C | apply Kd.a1B | apply Kd.a1I));exact aA.out))) (a0U (by repeat (first | (with_reducible first | exact HB.out | apply a0B | apply a0A | apply a0C) | exact HB.out))));have aG:=a0G.mk (a0E (by repeat (first | (with_reducible first | exact HB.out | apply a0B | apply a0A | apply a0C) | exact HB.out)) hb);clear aA;clear HB;have aA:=aC;have HO203:=aD;have HB:=aG;clear aC aD aG;(try clear hb);(try clear hb2);(try clear hk);(try clear hi);(try clear ho0);obtain ⟨Ao37,co37,eo37⟩:=Kd.a1P HO203.out;subst eo37) | (go_at_call 7;(with_reducible refine (r14_Texts.calls kj23 _ _ t194 _ _ t201 true _ ?side1 ?side2 ?side3 ?side4 A30.out).mono ?_);(case side1 =>repeat (first | exact (Kd.a0K aA.out).2.2 | (with_reducible refine Kd.a0T ?_ _) | (with_reducible refine Kd.a0S ?_ _) | (with_reducible refine Kd.a1A ?_)));(case side2 =>exact (Kd.a0K aA.out).2.1);(case side3 =>repeat (first | exact (Kd.a0K HO203.out).2.2 | (with_reducible refine Kd.a0T ?_ _) | (with_reducible refine Kd.a0S ?_ _) | (with_reducible refine Kd.a1A ?_)));(case side4 =>exact (Kd.a0K HO203.out).2.1);rintro e w' ⟨rfl,⟨nd,rfl⟩⟩;(try first | exact ⟨rfl,_,World.drewN_drewN _ _ _⟩ | exact ⟨rfl,_,Eq.trans (World.drewN_drewN _ _ _) (congrArg (World.drewN _) (Nat.add_assoc _ _ _))⟩)) | (go_at_call 5;(with_reducible refine (effects_Union.calls _ _ t194 _ _ l0 t205 _ ?side1 ?side2 ?side3 ?side4 A32.out).mono ?_);(case side1 =>repeat (first | exact (Kd.a0K aA.out).2.2 | (with_reducible refine Kd.a0T ?_ _) | (with_reducible refine Kd.a0S ?_ _) | (with_reducible refine Kd.a1A ?_)));(case side2 =>exact (Kd.a0K aA.out).2.1);(case side3 =>repeat (first | exact (Kd.a0J HR0.out (by repeat (first | (with_reducible first | exact HB.out | apply a0B | apply a0A | apply a0C) | exact HB.out))) | (with_reducible refine Kd.a0T ?_ _) | (with_reducible refine Kd.a0S ?_ _) | (with_reducible refine Kd.a1A ?_)));(case side4 =>exact HC0.out);rintro e w38 ⟨v206,rfl,ho0,hb⟩;have aC:=a0G.mk (Kd.a2A (by (with_reducible repeat (first | apply Kd.a1C | apply Kd.a1B | apply Kd.a1I));exact aA.out) (Kd.a2Z ho0) hb);have aD:=a0G.mk (Kd.a2A (by (with_reducible repeat (first | apply Kd.a1C | apply Kd.a1B | apply Kd.a1I));exact HO203.out) (Kd.a2Z ho0) hb);have aG:=a0G.mk (Kd.a1U (Kd.a3E (Kd.a3E ho0 (Kd.R_lt (by (with_reducible repeat (first | apply Kd.a1C | apply Kd.a1B | apply Kd.a1I));exact aA.out))) (Kd.R_lt (by (with_reducible repeat (first | apply Kd.a1C | apply Kd.a1B | apply Kd.a1I));exact HO203.out))) (a0U (by repeat (first | (with_reducible first | exact HB.out | apply a0B | apply a0A | apply a0C) | exact HB.out))));have aI:=a0G.mk (a0E (by repeat (first | (with_reducible first | exact HB.out | apply a0B | apply a0A | apply a0C) | exact HB.out)) hb);clear aA;clear HO203;clear HB;have aA:=aC;have HO203:=aD;have HO207:=aG;have HB:=aI;clear aC aD aG aI;(try clear hb);(try clear hb2);(try clear hk);(try clear hi);(try clear ho0);obtain ⟨Ao39,co39,eo39⟩:=Kd.a1P HO207.out;subst eo39) | (go_at_call 7;(with_reducible refine (r14_Texts.calls kj23 _ _ t194 _ _ t205 true _ ?side1 ?side2 ?side3 ?side4 A33.out).mono ?_);(case side1 =>repeat (first | exact (Kd.a0K aA.out).2.2 | (with_reducible refine Kd.a0T ?_ _) | (with_reducible refine Kd.a0S ?_ _) | (with_reducible refine Kd.a1A ?_)));(case side2 =>exact (Kd.a0K aA.out).2.1);(case side3 =>repeat (first | exact (Kd.a0K HO207.out).2.2 | (with_reducible refine Kd.a0T ?_ _) | (with_reducible refine Kd.a0S ?_ _) | (with_reducible refine Kd.a1A ?_)));(case side4 =>exact (Kd.a0K HO207.out).2.1);rintro e w' ⟨rfl,⟨nd,rfl⟩⟩;(try first | exact ⟨rfl,_,World.drewN_drewN _ _ _⟩ | exact ⟨rfl,_,Eq.trans (World.drewN_drewN _ _ _) (congrArg (World.drewN _) (Nat.add_assoc _ _ _))⟩)) | (go_at_call 6;(with_reducible refine (w14_has.calls kj23 _ _ t194 a2 t209 _ ?side1 ?side2 A35.out).mono ?_);(case side1 =>repeat (first | exact (Kd.a0K aA.out).2.2 | (with_reducible refine Kd.a0T ?_ _) | (with_reducible refine Kd.a0S ?_ _) | (with_reducible refine Kd.a1A ?_)));(case side2 =>exact (Kd.a0K aA.out).2.1);rintro e w' ⟨rfl,⟨nd,rfl⟩⟩;(try first | exact ⟨rfl,_,World.drewN_drewN _ _ _⟩ | exact ⟨rfl,_,Eq.trans (World.drewN_drewN _ _ _) (congrArg (World.drewN _) (Nat.add_assoc _ _ _))⟩)))
           repeat (go_quiet (first | (go_at_call 5;(with_reducible refine (effects_Union.calls _ _ l1 _ _ l0 t201 _ ?side1 ?side2 ?side3 ?side4 A29.out).mono ?_);(case side1 =>repeat (first | exact (Kd.a0J HR1.out HB.out) | (with_reducible refine Kd.a0T ?_ _) | (with_reducible refine Kd.a0S ?_ _) | (with_reducible refine Kd.a1A ?_)));(case side2 =>exact HC1.out);(case side3 =>repeat (first | exact (Kd.a0J HR0.out HB.out) | (with_reducible refine Kd.a0T ?_ _) | (with_reducible refine Kd.a0S ?_ _) | (with_reducible refine Kd.a1A ?_)));(case side4 =>exact HC0.out);rintro e w36 ⟨v202,rfl,ho0,hb⟩;have aC:=a0G.mk (Kd.a2A (by (with_reducible repeat (first | apply Kd.a1C | apply Kd.a1B | apply Kd.a1I));exact aA.out) (Kd.a2Z ho0) hb);have aD:=a0G.mk (Kd.a1U (Kd.a3E ho0 (Kd.R_lt (by (with_reducible repeat (first | apply Kd.a1C | apply Kd.a1B | apply Kd.a1I));exact aA.out))) (a0U (by repeat (first | (with_reducible first | exact HB.out | apply a0B | apply a0A | apply a0C) | exact HB.out))));have aG:=a0G.mk (a0E (by repeat (first | (with_reducible first | exact HB.out | apply a0B | apply a0A | apply a0C) | exact HB.out)) hb);clear aA;clear HB;have aA:=aC;have HO203:=aD;have HB:=aG;clear aC aD aG;(try clear hb);(try clear hb2);(try clear hk);(try clear hi);(try clear ho0);obtain ⟨Ao37,co37,eo37⟩:=Kd.a1P HO203.out;subst eo37) | (go_at_call 7;(with_reducible refine (r14_Texts.calls kj23 _ _ t194 _ _ t201 true _ ?side1 ?side2 ?side3 ?side4 A30.out).mono ?_);(case side1 =>repeat (first | exact (Kd.a0K aA.out).2.2 | (with_reducible refine Kd.a0T ?_ _) | (with_reducible refine Kd.a0S ?_ _) | (with_reducible refine Kd.a1A ?_)));(case side2 =>exact (Kd.a0K aA.out).2.1);(case side3 =>repeat (first | exact (Kd.a0K HO203.out).2.2 | (with_reducible refine Kd.a0T ?_ _) | (with_reducible refine Kd.a0S ?_ _) | (with_reducible refine Kd.a1A ?_)));(case side4 =>exact (Kd.a0K HO203.out).2.1);rintro e w' ⟨rfl,⟨nd,rfl⟩⟩;(try first | exact ⟨rfl,_,World.drewN_drewN _ _ _⟩ | exact ⟨rfl,_,Eq.trans (World.drewN_drewN _ _ _) (congrArg (World.drewN _) (Nat.add_assoc _ _ _))⟩)) | (go_at_call 5;(with_reducible refine (effects_Union.calls _ _ t194 _ _ l0 t205 _ ?side1 ?side2 ?side3 ?side4 A32.out).mono ?_);(case side1 =>repeat (first | exact (Kd.a0K aA.out).2.2 | (with_reducible refine Kd.a0T ?_ _) | (with_reducible refine Kd.a0S ?_ _) | (with_reducible refine Kd.a1A ?_)));(case side2 =>exact (Kd.a0K aA.out).2.1);(case side3 =>repeat (first | exact (Kd.a0J HR0.out (by repeat (first | (with_reducible first | exact HB.out | apply a0B | apply a0A | apply a0C) | exact HB.out))) | (with_reducible refine Kd.a0T ?_ _) | (with_reducible refine Kd.a0S ?_ _) | (with_reducible refine Kd.a1A ?_)));(case side4 =>exact HC0.out);rintro e w38 ⟨v206,rfl,ho0,hb⟩;have aC:=a0G.mk (Kd.a2A (by (with_reducible repeat (first | apply Kd.a1C | apply Kd.a1B | apply Kd.a1I));exact aA.out) (Kd.a2Z ho0) hb);have aD:=a0G.mk (Kd.a2A (by (with_reducible repeat (first | apply Kd.a1C | apply Kd.a1B | apply Kd.a1I));exact HO203.out) (Kd.a2Z ho0) hb);have aG:=a0G.mk (Kd.a1U (Kd.a3E (Kd.a3E ho0 (Kd.R_lt (by (with_reducible repeat (first | apply Kd.a1C | apply Kd.a1B | apply Kd.a1I));exact aA.out))) (Kd.R_lt (by (with_reducible repeat (first | apply Kd.a1C | apply Kd.a1B | apply Kd.a1I));exact HO203.out))) (a0U (by repeat (first | (with_reducible first | exact HB.out | apply a0B | apply a0A | apply a0C) | exact HB.out))));have aI:=a0G.mk (a0E (by repeat (first | (with_reducible first | exact HB.out | apply a0B | apply a0A | apply a0C) | exact HB.out)) hb);clear aA;clear HO203;clear HB;have aA:=aC;have HO203:=aD;have HO207:=aG;have HB:=aI;clear aC aD aG aI;(try clear hb);(try clear hb2);(try clear hk);(try clear hi);(try clear ho0);obtain ⟨Ao39,co39,eo39⟩:=Kd.a1P HO207.out;subst eo39) | (go_at_call 7;(with_reducible refine (r14_Texts.calls kj23 _ _ t194 _ _ t205 true _ ?side1 ?side2 ?side3 ?side4 A33.out).mono ?_);(case side1 =>repeat (first | exact (Kd.a0K aA.out).2.2 | (with_reducible refine Kd.a0T ?_ _) | (with_reducible refine Kd.a0S ?_ _) | (with_reducible refine Kd.a1A ?_)));(case side2 =>exact (Kd.a0K aA.out).2.1);(case side3 =>repeat (first | exact (Kd.a0K HO207.out).2.2 | (with_reducible refine Kd.a0T ?_ _) | (with_reducible refine Kd.a0S ?_ _) | (with_reducible refine Kd.a1A ?_)));(case side4 =>exact (Kd.a0K HO207.out).2.1);rintro e w' ⟨rfl,⟨nd,rfl⟩⟩;(try first | exact ⟨rfl,_,World.drewN_drewN _ _ _⟩ | exact ⟨rfl,_,Eq.trans (World.drewN_drewN _ _ _) (congrArg (World.drewN _) (Nat.add_assoc _ _ _))⟩)) | (go_at_call 6;(with_reducible refine (w14_has.calls kj23 _ _ t194 a2 t209 _ ?side1 ?side2 A35.out).mono ?_);(case side1 =>repeat (first | exact (Kd.a0K aA.out).2.2 | (with_reducible refine Kd.a0T ?_ _) | (with_reducible refine Kd.a0S ?_ _) | (with_reducible refine Kd.a1A ?_)));(case side2 =>exact (Kd.a0K aA.out).2.1);rintro e w' ⟨rfl,⟨nd,rfl⟩⟩;(try first | exact ⟨rfl,_,World.drewN_drewN _ _ _⟩ | exact ⟨rfl,_,Eq.trans (World.drewN_drewN _ _ _) (congrArg (World.drewN _) (Nat.add_assoc _ _ _))⟩)));try go_wp2_with (first | (go_at_call 5;(with_reducible refine (effects_Union.calls _ _ l1 _ _ l0 t201 _ ?side1 ?side2 ?side3 ?side4 A29.out).mono ?_);(case side1 =>repeat (first | exact (Kd.a0J HR1.out HB.out) | (with_reducible refine Kd.a0T ?_ _) | (with_reducible refine Kd.a0S ?_ _) | (with_reducible refine Kd.a1A ?_)));(case side2 =>exact HC1.out);(case side3 =>repeat (first | exact (Kd.a0J HR0.out HB.out) | (with_reducible refine Kd.a0T ?_ _) | (with_reducible refine Kd.a0S ?_ _) | (with_reducible refine Kd.a1A ?_)));(case side4 =>exact HC0.out);rintro e w36 ⟨v202,rfl,ho0,hb⟩;have aC:=a0G.mk (Kd.a2A (by (with_reducible repeat (first | apply Kd.a1C | apply Kd.a1B | apply Kd.a1I));exact aA.out) (Kd.a2Z ho0) hb);have aD:=a0G.mk (Kd.a1U (Kd.a3E ho0 (Kd.R_lt (by (with_reducible repeat (first | apply Kd.a1C | apply Kd.a1B | apply Kd.a1I));exact aA.out))) (a0U (by repeat (first | (with_reducible first | exact HB.out | apply a0B | apply a0A | apply a0C) | exact HB.out))));have aG:=a0G.mk (a0E (by repeat (first | (with_reducible first | exact HB.out | apply a0B | apply a0A | apply a0C) | exact HB.out)) hb);clear aA;clear HB;have aA:=aC;have HO203:=aD;have HB:=aG;clear aC aD aG;(try clear hb);(try clear hb2);(try clear hk);(try clear hi);(try clear ho0);obtain ⟨Ao37,co37,eo37⟩:=Kd.a1P HO203.out;subst eo37) | (go_at_call 7;(with_reducible refine (r14_Texts.calls kj23 _ _ t194 _ _ t201 true _ ?side1 ?side2 ?side3 ?side4 A30.out).mono ?_);(case side1 =>repeat (first | exact (Kd.a0K aA.out).2.2 | (with_reducible refine Kd.a0T ?_ _) | (with_reducible refine Kd.a0S ?_ _) | (with_reducible refine Kd.a1A ?_)));(case side2 =>exact (Kd.a0K aA.out).2.1);(case side3 =>repeat (first | exact (Kd.a0K HO203.out).2.2 | (with_reducible refine Kd.a0T ?_ _) | (with_reducible refine Kd.a0S ?_ _) | (with_reducible refine Kd.a1A ?_)));(case side4 =>exact (Kd.a0K HO203.out).2.1);rintro e w' ⟨rfl,⟨nd,rfl⟩⟩;(try first | exact ⟨rfl,_,World.drewN_drewN _ _ _⟩ | exact ⟨rfl,_,Eq.trans (World.drewN_drewN _ _ _) (congrArg (World.drewN _) (Nat.add_assoc _ _ _))⟩)) | (go_at_call 5;(with_reducible refine (effects_Union.calls _ _ t194 _ _ l0 t205 _ ?side1 ?side2 ?side3 ?side4 A32.out).mono ?_);(case side1 =>repeat (first | exact (Kd.a0K aA.out).2.2 | (with_reducible refine Kd.a0T ?_ _) | (with_reducible refine Kd.a0S ?_ _) | (with_reducible refine Kd.a1A ?_)));(case side2 =>exact (Kd.a0K aA.out).2.1);(case side3 =>repeat (first | exact (Kd.a0J HR0.out (by repeat (first | (with_reducible first | exact HB.out | apply a0B | apply a0A | apply a0C) | exact HB.out))) | (with_reducible refine Kd.a0T ?_ _) | (with_reducible refine Kd.a0S ?_ _) | (with_reducible refine Kd.a1A ?_)));(case side4 =>exact HC0.out);rintro e w38 ⟨v206,rfl,ho0,hb⟩;have aC:=a0G.mk (Kd.a2A (by (with_reducible repeat (first | apply Kd.a1C | apply Kd.a1B | apply Kd.a1I));exact aA.out) (Kd.a2Z ho0) hb);have aD:=a0G.mk (Kd.a2A (by (with_reducible repeat (first | apply Kd.a1C | apply Kd.a1B | apply Kd.a1I));exact HO203.out) (Kd.a2Z ho0) hb);have aG:=a0G.mk (Kd.a1U (Kd.a3E (Kd.a3E ho0 (Kd.R_lt (by (with_reducible repeat (first | apply Kd.a1C | apply Kd.a1B | apply Kd.a1I));exact aA.out))) (Kd.R_lt (by (with_reducible repeat (first | apply Kd.a1C | apply Kd.a1B | apply Kd.a1I));exact HO203.out))) (a0U (by repeat (first | (with_reducible first | exact HB.out | apply a0B | apply a0A | apply a0C) | exact HB.out))));have aI:=a0G.mk (a0E (by repeat (first | (with_reducible first | exact HB.out | apply a0B | apply a0A | apply a0C) | exact HB.out)) hb);clear aA;clear HO203;clear HB;have aA:=aC;have HO203:=aD;have HO207:=aG;have HB:=aI;clear aC aD aG aI;(try clear hb);(try clear hb2);(try clear hk);(try clear hi);(try clear ho0);obtain ⟨Ao39,co39,eo39⟩:=Kd.a1P HO207.out;subst eo39) | (go_at_call 7;(with_reducible refine (r14_Texts.calls kj23 _ _ t194 _ _ t205 true _ ?side1 ?side2 ?side3 ?side4 A33.out).mono ?_);(case side1 =>repeat (first | exact (Kd.a0K aA.out).2.2 | (with_reducible refine Kd.a0T ?_ _) | (with_reducible refine Kd.a0S ?_ _) | (with_reducible refine Kd.a1A ?_)));(case side2 =>exact (Kd.a0K aA.out).2.1);(case side3 =>repeat (first | exact (Kd.a0K HO207.out).2.2 | (with_reducible refine Kd.a0T ?_ _) | (with_reducible refine Kd.a0S ?_ _) | (with_reducible refine Kd.a1A ?_)));(case side4 =>exact (Kd.a0K HO207.out).2.1);rintro e w' ⟨rfl,⟨nd,rfl⟩⟩;(try first | exact ⟨rfl,_,World.drewN_drewN _ _ _⟩ | exact ⟨rfl,_,Eq.trans (World.drewN_drewN _ _ _) (congrArg (World.drewN _) (Nat.add_assoc _ _ _))⟩)) | (go_at_call 6;(with_reducible refine (w14_has.calls kj23 _ _ t194 a2 t209 _ ?side1 ?side2 A35.out).mono ?_);(case side1 =>repeat (first | exact (Kd.a0K aA.out).2.2 | (with_reducible refine Kd.a0T ?_ _) | (with_reducible refine Kd.a0S ?_ _) | (with_reducible refine Kd.a1A ?_)));(case side2 =>exact (Kd.a0K aA.out).2.1);rintro e w' ⟨rfl,⟨nd,rfl⟩⟩;(try first | exact ⟨rfl,_,World.drewN_drewN _ _ _⟩ | exact ⟨rfl,_,Eq.trans (World.drewN_drewN _ _ _) (congrArg (World.drewN _) (Nat.add_assoc _ _ _))⟩))))
           go_ret
           exact ⟨by first | rfl | (simp [a0O,a0N] <;> rfl) | (simp [*,a0O,a0N] <;> rfl),by repeat (first | (with_reducible first | exact HB.out | apply a0B | apply a0A | apply a0C) | exact HB.out)⟩
          ·replace c34:=Bool.eq_false_iff.mpr c34
           subst c34
           have H1:(some false) = some r:=by rw [if_neg (show ¬ (false = true) by decide)] at H;exact H
           clear H
           have H:=H1
           clear H1
           obtain rfl:=Option.some.inj H
           go_wp2_with (first | (go_at_call 5;(with_reducible refine (effects_Union.calls _ _ l1 _ _ l0 t201 _ ?side1 ?side2 ?side3 ?side4 A29.out).mono ?_);(case side1 =>repeat (first | exact (Kd.a0J HR1.out HB.out) | (with_reducible refine Kd.a0T ?_ _) | (with_reducible refine Kd.a0S ?_ _) | (with_reducible refine Kd.a1A ?_)));(case side2 =>exact HC1.out);(case side3 =>repeat (first | exact (Kd.a0J HR0.out HB.out) | (with_reducible refine Kd.a0T ?_ _) | (with_reducible refine Kd.a0S ?_ _) | (with_reducible refine Kd.a1A ?_)));(case side4 =>exact HC0.out);rintro e w40 ⟨v202,rfl,ho0,hb⟩;have aC:=a0G.mk (Kd.a2A (by (with_reducible repeat (first | apply Kd.a1C | apply Kd.a1B | apply Kd.a1I));exact aA.out) (Kd.a2Z ho0) hb);have aD:=a0G.mk (Kd.a1U (Kd.a3E ho0 (Kd.R_lt (by (with_reducible repeat (first | apply Kd.a1C | apply Kd.a1B | apply Kd.a1I));exact aA.out))) (a0U (by repeat (first | (with_reducible first | exact HB.out | apply a0B | apply a0A | apply a0C) | exact HB.out))));have aG:=a0G.mk (a0E (by repeat (first | (with_reducible first | exact HB.out | apply a0B | apply a0A | apply a0C) | exact HB.out)) hb);clear aA;clear HB;have aA:=aC;have HO203:=aD;have HB:=aG;clear aC aD aG;(try clear hb);(try clear hb2);(try clear hk);(try clear hi);(try clear ho0);obtain ⟨Ao41,co41,eo41⟩:=Kd.a1P HO203.out;subst eo41) | (go_at_call 7;(with_reducible refine (r14_Texts.calls kj23 _ _ t194 _ _ t201 true _ ?side1 ?side2 ?side3 ?side4 A30.out).mono ?_);(case side1 =>repeat (first | exact (Kd.a0K aA.out).2.2 | (with_reducible refine Kd.a0T ?_ _) | (with_reducible refine Kd.a0S ?_ _) | (with_reducible refine Kd.a1A ?_)));(case side2 =>exact (Kd.a0K aA.out).2.1);(case side3 =>repeat (first | exact (Kd.a0K HO203.out).2.2 | (with_reducible refine Kd.a0T ?_ _) | (with_reducible refine Kd.a0S ?_ _) | (with_reducible refine Kd.a1A ?_)));(case side4 =>exact (Kd.a0K HO203.out).2.1);rintro e w' ⟨rfl,⟨nd,rfl⟩⟩;(try first | exact ⟨rfl,_,World.drewN_drewN _ _ _⟩ | exact ⟨rfl,_,Eq.trans (World.drewN_drewN _ _ _) (congrArg (World.drewN _) (Nat.add_assoc _ _ _))⟩)) | (go_at_call 5;(with_reducible refine (effects_Union.calls _ _ t194 _ _ l0 t205 _ ?side1 ?side2 ?side3 ?side4 A32.out).mono ?_);(case side1 =>repeat (first | exact (Kd.a0K aA.out).2.2 | (with_reducible refine Kd.a0T ?_ _) | (with_reducible refine Kd.a0S ?_ _) | (with_reducible refine Kd.a1A ?_)));(case side2 =>exact (Kd.a0K aA.out).2.1);(case side3 =>repeat (first | exact (Kd.a0J HR0.out (by repeat (first | (with_reducible first | exact HB.out | apply a0B | apply a0A | apply a0C) | exact HB.out))) | (with_reducible refine Kd.a0T ?_ _) | (with_reducible refine Kd.a0S ?_ _) | (with_reducible refine Kd.a1A ?_)));(case side4 =>exact HC0.out);rintro e w42 ⟨v206,rfl,ho0,hb⟩;have aC:=a0G.mk (Kd.a2A (by (with_reducible repeat (first | apply Kd.a1C | apply Kd.a1B | apply Kd.a1I));exact aA.out) (Kd.a2Z ho0) hb);have aD:=a0G.mk (Kd.a2A (by (with_reducible repeat (first | apply Kd.a1C | apply Kd.a1B | apply Kd.a1I));exact HO203.out) (Kd.a2Z ho0) hb);have aG:=a0G.mk (Kd.a1U (Kd.a3E (Kd.a3E ho0 (Kd.R_lt (by (with_reducible repeat (first | apply Kd.a1C | apply Kd.a1B | apply Kd.a1I));exact aA.out))) (Kd.R_lt (by (with_reducible repeat (first | apply Kd.a1C | apply Kd.a1B | apply Kd.a1I));exact HO203.out))) (a0U (by repeat (first | (with_reducible first | exact HB.out | apply a0B | apply a0A | apply a0C) | exact HB.out))));have aI:=a0G.mk (a0E (by repeat (first | (with_reducible first | exact HB.out | apply a0B | apply a0A | apply a0C) | exact HB.out)) hb);clear aA;clear HO203;clear HB;have aA:=aC;have HO203:=aD;have HO207:=aG;have HB:=aI;clear aC aD aG aI;(try clear hb);(try clear hb2);(try clear hk);(try clear hi);(try clear ho0);obtain ⟨Ao43,co43,eo43⟩:=Kd.a1P HO207.out;subst eo43) | (go_at_call 7;(with_reducible refine (r14_Texts.calls kj23 _ _ t194 _ _ t205 false _ ?side1 ?side2 ?side3 ?side4 A33.out).mono ?_);(case side1 =>repeat (first | exact (Kd.a0K aA.out).2.2 | (with_reducible refine Kd.a0T ?_ _) | (with_reducible refine Kd.a0S ?_ _) | (with_reducible refine Kd.a1A ?_)));(case side2 =>exact (Kd.a0K aA.out).2.1);(case side3 =>repeat (first | exact (Kd.a0K HO207.out).2.2 | (with_reducible refine Kd.a0T ?_ _) | (with_reducible refine Kd.a0S ?_ _) | (with_reducible refine Kd.a1A ?_)));(case side4 =>exact (Kd.a0K HO207.out).2.1);rintro e w' ⟨rfl,⟨nd,rfl⟩⟩;(try first | exact ⟨rfl,_,World.drewN_drewN _ _ _⟩ | exact ⟨rfl,_,Eq.trans (World.drewN_drewN _ _ _) (congrArg (World.drewN _) (Nat.add_assoc _ _ _))⟩)))
           repeat (go_quiet (first | (go_at_call 5;(with_reducible refine (effects_Union.calls _ _ l1 _ _ l0 t201 _ ?side1 ?side2 ?side3 ?side4 A29.out).mono ?_);(case side1 =>repeat (first | exact (Kd.a0J HR1.out HB.out) | (with_reducible refine Kd.a0T ?_ _) | (with_reducible refine Kd.a0S ?_ _) | (with_reducible refine Kd.a1A ?_)));(case side2 =>exact HC1.out);(case side3 =>repeat (first | exact (Kd.a0J HR0.out HB.out) | (with_reducible refine Kd.a0T ?_ _) | (with_reducible refine Kd.a0S ?_ _) | (with_reducible refine Kd.a1A ?_)));(case side4 =>exact HC0.out);rintro e w40 ⟨v202,rfl,ho0,hb⟩;have aC:=a0G.mk (Kd.a2A (by (with_reducible repeat (first | apply Kd.a1C | apply Kd.a1B | apply Kd.a1I));exact aA.out) (Kd.a2Z ho0) hb);have aD:=a0G.mk (Kd.a1U (Kd.a3E ho0 (Kd.R_lt (by (with_reducible repeat (first | apply Kd.a1C | apply Kd.a1B | apply Kd.a1I));exact aA.out))) (a0U (by repeat (first | (with_reducible first | exact HB.out | apply a0B | apply a0A | apply a0C) | exact HB.out))));have aG:=a0G.mk (a0E (by repeat (first | (with_reducible first | exact HB.out | apply a0B | apply a0A | apply a0C) | exact HB.out)) hb);clear aA;clear HB;have aA:=aC;have HO203:=aD;have HB:=aG;clear aC aD aG;(try clear hb);(try clear hb2);(try clear hk);(try clear hi);(try clear ho0);obtain ⟨Ao41,co41,eo41⟩:=Kd.a1P HO203.out;subst eo41) | (go_at_call 7;(with_reducible refine (r14_Texts.calls kj23 _ _ t194 _ _ t201 true _ ?side1 ?side2 ?side3 ?side4 A30.out).mono ?_);(case side1 =>repeat (first | exact (Kd.a0K aA.out).2.2 | (with_reducible refine Kd.a0T ?_ _) | (with_reducible refine Kd.a0S ?_ _) | (with_reducible refine Kd.a1A ?_)));(case side2 =>exact (Kd.a0K aA.out).2.1);(case side3 =>repeat (first | exact (Kd.a0K HO203.out).2.2 | (with_reducible refine Kd.a0T ?_ _) | (with_reducible refine Kd.a0S ?_ _) | (with_reducible refine Kd.a1A ?_)));(case side4 =>exact (Kd.a0K HO203.out).2.1);rintro e w' ⟨rfl,⟨nd,rfl⟩⟩;(try first | exact ⟨rfl,_,World.drewN_drewN _ _ _⟩ | exact ⟨rfl,_,Eq.trans (World.drewN_drewN _ _ _) (congrArg (World.drewN _) (Nat.add_assoc _ _ _))⟩)) | (go_at_call 5;(with_reducible refine (effects_Union.calls _ _ t194 _ _ l0 t205 _ ?side1 ?side2 ?side3 ?side4 A32.out).mono ?_);(case side1 =>repeat (first | exact (Kd.a0K aA.out).2.2 | (with_reducible refine Kd.a0T ?_ _) | (with_reducible refine Kd.a0S ?_ _) | (with_reducible refine Kd.a1A ?_)));(case side2 =>exact (Kd.a0K aA.out).2.1);(case side3 =>repeat (first | exact (Kd.a0J HR0.out (by repeat (first | (with_reducible first | exact HB.out | apply a0B | apply a0A | apply a0C) | exact HB.out))) | (with_reducible refine Kd.a0T ?_ _) | (with_reducible refine Kd.a0S ?_ _) | (with_reducible refine Kd.a1A ?_)));(case side4 =>exact HC0.out);rintro e w42 ⟨v206,rfl,ho0,hb⟩;have aC:=a0G.mk (Kd.a2A (by (with_reducible repeat (first | apply Kd.a1C | apply Kd.a1B | apply Kd.a1I));exact aA.out) (Kd.a2Z ho0) hb);have aD:=a0G.mk (Kd.a2A (by (with_reducible repeat (first | apply Kd.a1C | apply Kd.a1B | apply Kd.a1I));exact HO203.out) (Kd.a2Z ho0) hb);have aG:=a0G.mk (Kd.a1U (Kd.a3E (Kd.a3E ho0 (Kd.R_lt (by (with_reducible repeat (first | apply Kd.a1C | apply Kd.a1B | apply Kd.a1I));exact aA.out))) (Kd.R_lt (by (with_reducible repeat (first | apply Kd.a1C | apply Kd.a1B | apply Kd.a1I));exact HO203.out))) (a0U (by repeat (first | (with_reducible first | exact HB.out | apply a0B | apply a0A | apply a0C) | exact HB.out))));have aI:=a0G.mk (a0E (by repeat (first | (with_reducible first | exact HB.out | apply a0B | apply a0A | apply a0C) | exact HB.out)) hb);clear aA;clear HO203;clear HB;have aA:=aC;have HO203:=aD;have HO207:=aG;have HB:=aI;clear aC aD aG aI;(try clear hb);(try clear hb2);(try clear hk);(try clear hi);(try clear ho0);obtain ⟨Ao43,co43,eo43⟩:=Kd.a1P HO207.out;subst eo43) | (go_at_call 7;(with_reducible refine (r14_Texts.calls kj23 _ _ t194 _ _ t205 false _ ?side1 ?side2 ?side3 ?side4 A33.out).mono ?_);(case side1 =>repeat (first | exact (Kd.a0K aA.out).2.2 | (with_reducible refine Kd.a0T ?_ _) | (with_reducible refine Kd.a0S ?_ _) | (with_reducible refine Kd.a1A ?_)));(case side2 =>exact (Kd.a0K aA.out).2.1);(case side3 =>repeat (first | exact (Kd.a0K HO207.out).2.2 | (with_reducible refine Kd.a0T ?_ _) | (with_reducible refine Kd.a0S ?_ _) | (with_reducible refine Kd.a1A ?_)));(case side4 =>exact (Kd.a0K HO207.out).2.1);rintro e w' ⟨rfl,⟨nd,rfl⟩⟩;(try first | exact ⟨rfl,_,World.drewN_drewN _ _ _⟩ | exact ⟨rfl,_,Eq.trans (World.drewN_drewN _ _ _) (congrArg (World.drewN _) (Nat.add_assoc _ _ _))⟩)));try go_wp2_with (first | (go_at_call 5;(with_reducible refine (effects_Union.calls _ _ l1 _ _ l0 t201 _ ?side1 ?side2 ?side3 ?side4 A29.out).mono ?_);(case side1 =>repeat (first | exact (Kd.a0J HR1.out HB.out) | (with_reducible refine Kd.a0T ?_ _) | (with_reducible refine Kd.a0S ?_ _) | (with_reducible refine Kd.a1A ?_)));(case side2 =>exact HC1.out);(case side3 =>repeat (first | exact (Kd.a0J HR0.out HB.out) | (with_reducible refine Kd.a0T ?_ _) | (with_reducible refine Kd.a0S ?_ _) | (with_reducible refine Kd.a1A ?_)));(case side4 =>exact HC0.out);rintro e w40 ⟨v202,rfl,ho0,hb⟩;have aC:=a0G.mk (Kd.a2A (by (with_reducible repeat (first | apply Kd.a1C | apply Kd.a1B | apply Kd.a1I));exact aA.out) (Kd.a2Z ho0) hb);have aD:=a0G.mk (Kd.a1U (Kd.a3E ho0 (Kd.R_lt (by (with_reducible repeat (first | apply Kd.a1C | apply Kd.a1B | apply Kd.a1I));exact aA.out))) (a0U (by repeat (first | (with_reducible first | exact HB.out | apply a0B | apply a0A | apply a0C) | exact HB.out))));have aG:=a0G.mk (a0E (by repeat (first | (with_reducible first | exact HB.out | apply a0B | apply a0A | apply a0C) | exact HB.out)) hb);clear aA;clear HB;have aA:=aC;have HO203:=aD;have HB:=aG;clear aC aD aG;(try clear hb);(try clear hb2);(try clear hk);(try clear hi);(try clear ho0);obtain ⟨Ao41,co41,eo41⟩:=Kd.a1P HO203.out;subst eo41) | (go_at_call 7;(with_reducible refine (r14_Texts.calls kj23 _ _ t194 _ _ t201 true _ ?side1 ?side2 ?side3 ?side4 A30.out).mono ?_);(case side1 =>repeat (first | exact (Kd.a0K aA.out).2.2 | (with_reducible refine Kd.a0T ?_ _) | (with_reducible refine Kd.a0S ?_ _) | (with_reducible refine Kd.a1A ?_)));(case side2 =>exact (Kd.a0K aA.out).2.1);(case side3 =>repeat (first | exact (Kd.a0K HO203.out).2.2 | (with_reducible refine Kd.a0T ?_ _) | (with_reducible refine Kd.a0S ?_ _) | (with_reducible refine Kd.a1A ?_)));(case side4 =>exact (Kd.a0K HO203.out).2.1);rintro e w' ⟨rfl,⟨nd,rfl⟩⟩;(try first | exact ⟨rfl,_,World.drewN_drewN _ _ _⟩ | exact ⟨rfl,_,Eq.trans (World.drewN_drewN _ _ _) (congrArg (World.drewN _) (Nat.add_assoc _ _ _))⟩)) | (go_at_call 5;(with_reducible refine (effects_Union.calls _ _ t194 _ _ l0 t205 _ ?side1 ?side2 ?side3 ?side4 A32.out).mono ?_);(case side1 =>repeat (first | exact (Kd.a0K aA.out).2.2 | (with_reducible refine Kd.a0T ?_ _) | (with_reducible refine Kd.a0S ?_ _) | (with_reducible refine Kd.a1A ?_)));(case side2 =>exact (Kd.a0K aA.out).2.1);(case side3 =>repeat (first | exact (Kd.a0J HR0.out (by repeat (first | (with_reducible first | exact HB.out | apply a0B | apply a0A | apply a0C) | exact HB.out))) | (with_reducible refine Kd.a0T ?_ _) | (with_reducible refine Kd.a0S ?_ _) | (with_reducible refine Kd.a1A ?_)));(case side4 =>exact HC0.out);rintro e w42 ⟨v206,rfl,ho0,hb⟩;have aC:=a0G.mk (Kd.a2A (by (with_reducible repeat (first | apply Kd.a1C | apply Kd.a1B | apply Kd.a1I));exact aA.out) (Kd.a2Z ho0) hb);have aD:=a0G.mk (Kd.a2A (by (with_reducible repeat (first | apply Kd.a1C | apply Kd.a1B | apply Kd.a1I));exact HO203.out) (Kd.a2Z ho0) hb);have aG:=a0G.mk (Kd.a1U (Kd.a3E (Kd.a3E ho0 (Kd.R_lt (by (with_reducible repeat (first | apply Kd.a1C | apply Kd.a1B | apply Kd.a1I));exact aA.out))) (Kd.R_lt (by (with_reducible repeat (first | apply Kd.a1C | apply Kd.a1B | apply Kd.a1I));exact HO203.out))) (a0U (by repeat (first | (with_reducible first | exact HB.out | apply a0B | apply a0A | apply a0C) | exact HB.out))));have aI:=a0G.mk (a0E (by repeat (first | (with_reducible first | exact HB.out | apply a0B | apply a0A | apply a0C) | exact HB.out)) hb);clear aA;clear HO203;clear HB;have aA:=aC;have HO203:=aD;have HO207:=aG;have HB:=aI;clear aC aD aG aI;(try clear hb);(try clear hb2);(try clear hk);(try clear hi);(try clear ho0);obtain ⟨Ao43,co43,eo43⟩:=Kd.a1P HO207.out;subst eo43) | (go_at_call 7;(with_reducible refine (r14_Texts.calls kj23 _ _ t194 _ _ t205 false _ ?side1 ?side2 ?side3 ?side4 A33.out).mono ?_);(case side1 =>repeat (first | exact (Kd.a0K aA.out).2.2 | (with_reducible refine Kd.a0T ?_ _) | (with_reducible refine Kd.a0S ?_ _) | (with_reducible refine Kd.a1A ?_)));(case side2 =>exact (Kd.a0K aA.out).2.1);(case side3 =>repeat (first | exact (Kd.a0K HO207.out).2.2 | (with_reducible refine Kd.a0T ?_ _) | (with_reducible refine Kd.a0S ?_ _) | (with_reducible refine Kd.a1A ?_)));(case side4 =>exact (Kd.a0K HO207.out).2.1);rintro e w' ⟨rfl,⟨nd,rfl⟩⟩;(try first | exact ⟨rfl,_,World.drewN_drewN _ _ _⟩ | exact ⟨rfl,_,Eq.trans (World.drewN_drewN _ _ _) (congrArg (World.drewN _) (Nat.add_assoc _ _ _))⟩))))
           go_ret
           exact ⟨by first | rfl | (simp [a0O,a0N] <;> rfl) | (simp [*,a0O,a0N] <;> rfl),by repeat (first | (with_reducible first | exact HB.out | apply a0B | apply a0A | apply a0C) | exact HB.out)⟩
         ·replace c31:=Bool.eq_false_iff.mpr c31
          subst c31
          have H1:(some false) = some r:=by rw [if_neg (show ¬ (false = true) by decide)] at H;exact H
          clear H
          have H:=H1
          clear H1
          obtain rfl:=Option.some.inj H
          go_wp2_with (first | (go_at_call 5;(with_reducible refine (effects_Union.calls _ _ l1 _ _ l0 t201 _ ?side1 ?side2 ?side3 ?side4 A29.out).mono ?_);(case side1 =>repeat (first | exact (Kd.a0J HR1.out HB.out) | (with_reducible refine Kd.a0T ?_ _) | (with_reducible refine Kd.a0S ?_ _) | (with_reducible refine Kd.a1A ?_)));(case side2 =>exact HC1.out);(case side3 =>repeat (first | exact (Kd.a0J HR0.out HB.out) | (with_reducible refine Kd.a0T ?_ _) | (with_reducible refine Kd.a0S ?_ _) | (with_reducible refine Kd.a1A ?_)));(case side4 =>exact HC0.out);rintro e w44 ⟨v202,rfl,ho0,hb⟩;have aC:=a0G.mk (Kd.a2A (by (with_reducible repeat (first | apply Kd.a1C | apply Kd.a1B | apply Kd.a1I));exact aA.out) (Kd.a2Z ho0) hb);have aD:=a0G.mk (Kd.a1U (Kd.a3E ho0 (Kd.R_lt (by (with_reducible repeat (first | apply Kd.a1C | apply Kd.a1B | apply Kd.a1I));exact aA.out))) (a0U (by repeat (first | (with_reducible first | exact HB.out | apply a0B | apply a0A | apply a0C) | exact HB.out))));have aG:=a0G.mk (a0E (by repeat (first | (with_reducible first | exact HB.out | apply a0B | apply a0A | apply a0C) | exact HB.out)) hb);clear aA;clear HB;have aA:=aC;have HO203:=aD;have HB:=aG;clear aC aD aG;(try clear hb);(try clear hb2);(try clear hk);(try clear hi);(try clear ho0);obtain ⟨Ao45,co45,eo45⟩:=Kd.a1P HO203.out;subst eo45) | (go_at_call 7;(with_reducible refine (r14_Texts.calls kj23 _ _ t194 _ _ t201 false _ ?side1 ?side2 ?side3 ?side4 A30.out).mono ?_);(case side1 =>repeat (first | exact (Kd.a0K aA.out).2.2 | (with_reducible refine Kd.a0T ?_ _) | (with_reducible refine Kd.a0S ?_ _) | (with_reducible refine Kd.a1A ?_)));(case side2 =>exact (Kd.a0K aA.out).2.1);(case side3 =>repeat (first | exact (Kd.a0K HO203.out).2.2 | (with_reducible refine Kd.a0T ?_ _) | (with_reducible refine Kd.a0S ?_ _) | (with_reducible refine Kd.a1A ?_)));(case side4 =>exact (Kd.a0K HO203.out).2.1);rintro e w' ⟨rfl,⟨nd,rfl⟩⟩;(try first | exact ⟨rfl,_,World.drewN_drewN _ _ _⟩ | exact ⟨rfl,_,Eq.trans (World.drewN_drewN _ _ _) (congrArg (World.drewN _) (Nat.add_assoc _ _ _))⟩)))
          repeat (go_quiet (first | (go_at_call 5;(with_reducible refine (effects_Union.calls _ _ l1 _ _ l0 t201 _ ?side1 ?side2 ?side3 ?side4 A29.out).mono ?_);(case side1 =>repeat (first | exact (Kd.a0J HR1.out HB.out) | (with_reducible refine Kd.a0T ?_ _) | (with_reducible refine Kd.a0S ?_ _) | (with_reducible refine Kd.a1A ?_)));(case side2 =>exact HC1.out);(case side3 =>repeat (first | exact (Kd.a0J HR0.out HB.out) | (with_reducible refine Kd.a0T ?_ _) | (with_reducible refine Kd.a0S ?_ _) | (with_reducible refine Kd.a1A ?_)));(case side4 =>exact HC0.out);rintro e w44 ⟨v202,rfl,ho0,hb⟩;have aC:=a0G.mk (Kd.a2A (by (with_reducible repeat (first | apply Kd.a1C | apply Kd.a1B | apply Kd.a1I));exact aA.out) (Kd.a2Z ho0) hb);have aD:=a0G.mk (Kd.a1U (Kd.a3E ho0 (Kd.R_lt (by (with_reducible repeat (first | apply Kd.a1C | apply Kd.a1B | apply Kd.a1I));exact aA.out))) (a0U (by repeat (first | (with_reducible first | exact HB.out | apply a0B | apply a0A | apply a0C) | exact HB.out))));have aG:=a0G.mk (a0E (by repeat (first | (with_reducible first | exact HB.out | apply a0B | apply a0A | apply a0C) | exact HB.out)) hb);clear aA;clear HB;have aA:=aC;have HO203:=aD;have HB:=aG;clear aC aD aG;(try clear hb);(try clear hb2);(try clear hk);(try clear hi);(try clear ho0);obtain ⟨Ao45,co45,eo45⟩:=Kd.a1P HO203.out;subst eo45) | (go_at_call 7;(with_reducible refine (r14_Texts.calls kj23 _ _ t194 _ _ t201 false _ ?side1 ?side2 ?side3 ?side4 A30.out).mono ?_);(case side1 =>repeat (first | exact (Kd.a0K aA.out).2.2 | (with_reducible refine Kd.a0T ?_ _) | (with_reducible refine Kd.a0S ?_ _) | (with_reducible refine Kd.a1A ?_)));(case side2 =>exact (Kd.a0K aA.out).2.1);(case side3 =>repeat (first | exact (Kd.a0K HO203.out).2.2 | (with_reducible refine Kd.a0T ?_ _) | (with_reducible refine Kd.a0S ?_ _) | (with_reducible refine Kd.a1A ?_)));(case side4 =>exact (Kd.a0K HO203.out).2.1);rintro e w' ⟨rfl,⟨nd,rfl⟩⟩;(try first | exact ⟨rfl,_,World.drewN_drewN _ _ _⟩ | exact ⟨rfl,_,Eq.trans (World.drewN_drewN _ _ _) (congrArg (World.drewN _) (Nat.add_assoc _ _ _))⟩)));try go_wp2_with (first | (go_at_call 5;(with_reducible refine (effects_Union.calls _ _ l1 _ _ l0 t201 _ ?side1 ?side2 ?side3 ?side4 A29.out).mono ?_);(case side1 =>repeat (first | exact (Kd.a0J HR1.out HB.out) | (with_reducible refine Kd.a0T ?_ _) | (with_reducible refine Kd.a0S ?_ _) | (with_reducible refine Kd.a1A ?_)));(case side2 =>exact HC1.out);(case side3 =>repeat (first | exact (Kd.a0J HR0.out HB.out) | (with_reducible refine Kd.a0T ?_ _) | (with_reducible refine Kd.a0S ?_ _) | (with_reducible refine Kd.a1A ?_)));(case side4 =>exact HC0.out);rintro e w44 ⟨v202,rfl,ho0,hb⟩;have aC:=a0G.mk (Kd.a2A (by (with_reducible repeat (first | apply Kd.a1C | apply Kd.a1B | apply Kd.a1I));exact aA.out) (Kd.a2Z ho0) hb);have aD:=a0G.mk (Kd.a1U (Kd.a3E ho0 (Kd.R_lt (by (with_reducible repeat (first | apply Kd.a1C | apply Kd.a1B | apply Kd.a1I));exact aA.out))) (a0U (by repeat (first | (with_reducible first | exact HB.out | apply a0B | apply a0A | apply a0C) | exact HB.out))));have aG:=a0G.mk (a0E (by repeat (first | (with_reducible first | exact HB.out | apply a0B | apply a0A | apply a0C) | exact HB.out)) hb);clear aA;clear HB;have aA:=aC;have HO203:=aD;have HB:=aG;clear aC aD aG;(try clear hb);(try clear hb2);(try clear hk);(try clear hi);(try clear ho0);obtain ⟨Ao45,co45,eo45⟩:=Kd.a1P HO203.out;subst eo45) | (go_at_call 7;(with_reducible refine (r14_Texts.calls kj23 _ _ t194 _ _ t201 false _ ?side1 ?side2 ?side3 ?side4 A30.out).mono ?_);(case side1 =>repeat (first | exact (Kd.a0K aA.out).2.2 | (with_reducible refine Kd.a0T ?_ _) | (with_reducible refine Kd.a0S ?_ _) | (with_reducible refine Kd.a1A ?_)));(case side2 =>exact (Kd.a0K aA.out).2.1);(case side3 =>repeat (first | exact (Kd.a0K HO203.out).2.2 | (with_reducible refine Kd.a0T ?_ _) | (with_reducible refine Kd.a0S ?_ _) | (with_reducible refine Kd.a1A ?_)));(case side4 =>exact (Kd.a0K HO203.out).2.1);rintro e w' ⟨rfl,⟨nd,rfl⟩⟩;(try first | exact ⟨rfl,_,World.drewN_drewN _ _ _⟩ | exact ⟨rfl,_,Eq.trans (World.drewN_drewN _ _ _) (congrArg (World.drewN _) (Nat.add_assoc _ _ _))⟩))))
          go_ret
          exact ⟨by first | rfl | (simp [a0O,a0N] <;> rfl) | (simp [*,a0O,a0N] <;> rfl),by repeat (first | (with_reducible first | exact HB.out | apply a0B | apply a0A | apply a0C) | exact HB.out)⟩
end Go.Proofs.Ythhgfncliffggaa.Pr
namespace Go.Proofs.Ythhgfncliffggaa.Man
open Go.RowKit Go.Proofs.Ythhgfncliffggaa.Pr Go.Proofs.YthhgfncliffggaaW.PrintWords
theorem b7B (l:List ByteArray) (hl:l.length≤8000000000000) (x:ByteArray):∃ b,Ev (fun k =>w14_has.f k l x) b∧(b = true ↔ x ∈ l):=by
 suffices h:∀ m i:Nat,i + m = l.length→∃ b,Ev (fun k =>w14_has.l0 k l x (i:Int)) b∧(b = true ↔ x ∈ l.drop i) by
  obtain ⟨b,h1,h2⟩:=h l.length 0 (by omega)
  exact ⟨b,h1,by simpa using h2⟩
 intro m
 induction m with
 | zero =>
  intro i hi
  have hnl:¬ ((i:Int) < (l.length:Int)):=by rw [show i = l.length from hi];exact Int.lt_irrefl _
  refine ⟨false,Ev.step ?_,by rw [List.drop_of_length_le (by omega)];simp⟩
  simp only [w14_has.l0,if_neg hnl]
  exact Ev.const false
 | succ m ih =>
  intro i hi
  have hil:i < l.length:=by omega
  have c1:(0:Int)≤(i:Int):=Int.natCast_nonneg i
  have c2:(i:Int) < (l.length:Int):=Int.ofNat_lt.2 hil
  have hw:=pz14 i (Nat.le_trans (Nat.le_of_lt hil) hl)
  obtain ⟨b,h1,h2⟩:=ih (i + 1) (by omega)
  rw [List.drop_eq_getElem_cons hil]
  by_cases e:l[i] = x
  ·refine ⟨true,Ev.step ?_,by simp [e]⟩
   simp only [w14_has.l0,if_pos c1,if_pos c2,rd14 l hil,e,if_true]
   exact Ev.const true
  ·refine ⟨b,Ev.step ?_,by rw [h2,List.mem_cons];exact ⟨.inr,fun h =>h.resolve_left (fun e2 =>e e2.symm)⟩⟩
   have ne:¬ (l[i].toList = x.toList):=fun h =>e (a8K (by rw [← Lib.toList_data,← Lib.toList_data,h]))
   simp only [w14_has.l0,if_pos c1,if_pos c2,rd14 l hil,if_neg ne,hw]
   exact h1
theorem ris_at {l:List ByteArray} (h:RisB l) (j:Nat) (hj:j + 1 < l.length):Op.bytesLess ((rdOf ByteArray.empty l (j:Int)).toList) ((rdOf ByteArray.empty l ((j + 1:Nat):Int)).toList) = true:=by
 have hl:(l.map (·.data.toList)).length = l.length:=List.length_map _
 have:=List.pairwise_iff_getElem.1 h j (j + 1) (by omega) (by omega) (by omega)
 rw [List.getElem_map,List.getElem_map] at this
 rw [bytesLess_eq,Lib.toList_data,Lib.toList_data,rd14 l (by omega),rd14 l hj]
 exact decide_eq_true this
theorem b5D (a b:List ByteArray) (x:ByteArray):Ev (fun k =>w14_EffectsUnion.f k a b x) true:=by
 have fx:∀ a b x,Ev (fun k =>w14_EffectsUnion.j0 k a b x true) true:=fun a b x =>by
  refine Ev.step ?_
  simp only [w14_EffectsUnion.j0,if_true,w14_fixed.f,Option.bind_some]
  exact Ev.const true
 unfold w14_EffectsUnion.f
 simp only [w14_fixed.f,Option.bind_some,if_true]
 by_cases ha:(a.length:Int) > 100
 ·simp only [if_pos ha];exact fx a b x
 simp only [if_neg ha]
 by_cases hb:(b.length:Int) > 100
 ·rw [decide_eq_true hb];exact fx a b x
 rw [decide_eq_false hb]
 have la:a.length≤100:=by omega
 have lb:b.length≤100:=by omega
 have lu:(unionF a b).length≤200:=Nat.le_trans (b5E a b) (by omega)
 obtain ⟨u,hu⟩:∃ u,u = unionF a b:=⟨_,rfl⟩
 have hur:RisB u:=by rw [hu];exact a2J _ _
 have hum:x ∈ u ↔ x ∈ a∨x ∈ b:=by rw [hu,a3A]
 have h1:unionF b a = u:=by rw [hu];exact b0R a b
 have h2:unionF u a = u:=by rw [hu];exact b2D a b
 rw [← hu] at lu
 have J2:∀ c:Bool,(c = true ↔ x ∈ a∨x ∈ b)→Ev (fun k =>w14_EffectsUnion.j2 k a b x u c) true:=fun c hc =>by
  refine Ev.step ?_
  simp only [w14_EffectsUnion.j2,b2E b a (by omega) (by omega),Option.bind_some,h1]
  refine Ev.bind (b5H u (by omega)) ?_
  simp only [if_true,b2E u a (by omega) (by omega),Option.bind_some,h2]
  refine Ev.bind (b5H u (by omega)) ?_
  simp only [if_true]
  obtain ⟨t,t1,t2⟩:=b7B u (by omega) x
  refine Ev.bind t1 ?_
  have e:t = c:=by
   rw [Bool.eq_iff_iff,t2,hc,hum]
  rw [e,beq_self_eq_true]
  exact Ev.const true
 have L0:∀ m i:Nat,i + 1 + m = u.length→Ev (fun k =>w14_EffectsUnion.l0 k a b x u ((i + 1:Nat):Int)) true:=by
  intro m
  induction m with
  | zero =>
   intro i hi
   have hnl:¬ (((i + 1:Nat):Int) < (u.length:Int)):=by omega
   refine Ev.step ?_
   simp only [w14_EffectsUnion.l0,if_neg hnl]
   obtain ⟨t,t1,t2⟩:=b7B a (by omega) x
   refine Ev.bind t1 ?_
   cases t with
   | true =>simp only [if_true];exact J2 true ⟨fun _ =>.inl (t2.1 rfl),fun _ =>rfl⟩
   | false =>
    simp only [Bool.false_eq_true,if_false]
    obtain ⟨t',t1',t2'⟩:=b7B b (by omega) x
    refine Ev.bind t1' ?_
    refine J2 t' ?_
    rw [t2']
    exact ⟨.inr,fun h =>h.resolve_left (fun h =>by have:=t2.2 h;simp at this)⟩
  | succ m ih =>
   intro i hi
   have c1:((i + 1:Nat):Int) < (u.length:Int):=by omega
   have e1:wrap64 (((i + 1:Nat):Int) - 1) = (i:Int):=by simp only [wrap64];omega
   have e2:wrap64 (((i + 1:Nat):Int) + 1) = ((i + 1 + 1:Nat):Int):=pz14 (i + 1) (by omega)
   have c2:(0:Int)≤(i:Int):=Int.natCast_nonneg i
   have c3:(i:Int) < (u.length:Int):=by omega
   have c4:(0:Int)≤((i + 1:Nat):Int):=Int.natCast_nonneg _
   refine Ev.step ?_
   simp only [w14_EffectsUnion.l0,if_pos c1,e1,if_pos c2,if_pos c3,if_pos c4,ris_at hur i (by omega),if_true,e2]
   exact ih (i + 1) (by omega)
 refine Ev.step ?_
 simp only [w14_EffectsUnion.j0,Bool.false_eq_true,if_false,b2E a b (by omega) (by omega),Option.bind_some,← hu]
 by_cases hu0:u.length = 0
 ·have hnl:¬ ((1:Int) < (u.length:Int)):=by omega
  have h3:=fun (k:Nat) =>(rfl:w14_EffectsUnion.l0 (k + 1) a b x u 1 = _)
  refine Ev.step ?_
  simp only [w14_EffectsUnion.l0,if_neg hnl]
  obtain ⟨t,t1,t2⟩:=b7B a (by omega) x
  refine Ev.bind t1 ?_
  cases t with
  | true =>simp only [if_true];exact J2 true ⟨fun _ =>.inl (t2.1 rfl),fun _ =>rfl⟩
  | false =>
   simp only [Bool.false_eq_true,if_false]
   obtain ⟨t',t1',t2'⟩:=b7B b (by omega) x
   refine Ev.bind t1' ?_
   refine J2 t' ?_
   rw [t2']
   exact ⟨.inr,fun h =>h.resolve_left (fun h =>by have:=t2.2 h;simp at this)⟩
 ·exact L0 (u.length - 1) 0 (by omega)
end Go.Proofs.Ythhgfncliffggaa.Man
namespace Go.Proofs.Ythhgfncliffggaa.effectsUnion
open Go.ChangeShapes Go.WideShapes Go.ChangeAt Go.RowKit Go.Proofs.Ythhgfncliffggaa.Pr Go.Proofs.YthhgfncliffggaaW.PrintWords
open Go.ChangeMaps (open_string shut_string)
theorem own:ownKnob Try.prog.godebug = none:=by kernel_rfl
theorem laidOut:laidOutB Try.prog = true:=by kernel_rfl
theorem walk (A0:Option Addr) (c0:Nat) (l0:List ByteArray) (hc0:l0.length≤c0) (A1:Option Addr) (c1:Nat) (l1:List ByteArray) (hc1:l1.length≤c1) (a2:ByteArray) (w:World) (hC0:Kd.C Kd.string w A0 l0.length l0) (hC1:Kd.C Kd.string w A1 l1.length l1) :
  Calls Try.prog 3 #[.slice A0 l0.length c0,.slice A1 l1.length c1,.string a2] w fun e w' =>e = .returned (.bool true)∧Below w.heap.size w w':=by
 obtain ⟨k,e⟩:=Man.b5D l0 l1 a2
 exact w14_EffectsUnion.calls k A0 c0 l0 A1 c1 l1 a2 true w hC0 hc0 hC1 hc1 (e k (Nat.le_refl _))
set_option maxRecDepth 100000 in
set_option maxHeartbeats 4000000 in
theorem lifted (os:Os) (started:os.Started) (H:Type) (enc:TypeId × Value→H) :
  ReturnsInHanded {} Try.checked os 3 .any (Rows.effectsUnionSpec.pre6 enc Try.prog Try.f3 Rows.effectsUnionRow.domain false) (Rows.effectsUnionSpec.post enc Try.prog Try.f3 false true false false):=by
 refine returnsInHanded_of_change_sized (C:=Try.checked) own started (by kernel_rfl) Try.func3
  (ChangeSpec.witness6 (enc:=enc) (C:=Try.checked) false ⟨#[],#[.slice none 0 0,.slice none 0 0,.string ⟨#[]⟩],[]⟩ 8 (by kernel_rfl) (by kernel_rfl) (by kernel_rfl) (by kernel_rfl)) ?_
 intro W base args ds gs before hval0 hW hcnd hsz0 _
 have hval:∀ (j:Nat) t v,Try.f3.params[j]? = some t→args[j]? = some v→Value.okWide Try.prog W .any base t v:=hval0
 have hW':=hW
 obtain ⟨p,q,hA0,hV,rfl,hfz,hnd⟩:=hW
 have hA:DataW.TrodAll enc Try.prog W 0 (fun _ =>true) true Try.f3.params.toList args.toList ds p:=hA0
 rw [Try.params3] at hA hval
 obtain ⟨v0,vs0,d0,ds0,p0,q0,hargs,rfl,rfl,h0,r0⟩:=trodAll_cons hA
 obtain ⟨v1,vs1,d1,ds1,p1,q1,rfl,rfl,rfl,h1,r1⟩:=trodAll_cons r0
 obtain ⟨v2,vs2,d2,ds2,p2,q2,rfl,rfl,rfl,h2,r2⟩:=trodAll_cons r1
 obtain ⟨rfl,rfl,rfl⟩:=trodAll_nil r2
 obtain rfl:args = #[v0,v1,v2]:=by cases args;simp_all
 obtain ⟨rfl,rfl⟩:=trodVars_none hV
 obtain ⟨b0,len0,cap0,rfl⟩:=okWide_slice Try.underlying22 (hval 0 22 v0 rfl rfl)
 have k0:=h0
 have lt0:∀ x ∈ p0,x.block < W.heap.size:=by obtain ⟨m,hm⟩:=k0;exact DataW.trod_lt m _ _ _ hm
 obtain ⟨fuel0,hf0⟩:=h0
 obtain ⟨b1,len1,cap1,rfl⟩:=okWide_slice Try.underlying22 (hval 1 22 v1 rfl rfl)
 have k1:=h1
 have lt1:∀ x ∈ p1,x.block < W.heap.size:=by obtain ⟨m,hm⟩:=k1;exact DataW.trod_lt m _ _ _ hm
 obtain ⟨fuel1,hf1⟩:=h1
 obtain ⟨a2,rfl,rfl,rfl,w2⟩:=open_string Try.underlying9 (hval 2 9 v2 rfl rfl) h2
 obtain ⟨A0,c0,l0,hv0,hc0,hC0⟩:=Man.a6F fuel0 _ _ _ hf0
 have e0:Value.slice b0 len0 cap0 = Value.slice A0 l0.length c0:=by simpa [Value.cells] using hv0
 cases e0
 obtain ⟨A1,c1,l1,hv1,hc1,hC1⟩:=Man.a6F fuel1 _ _ _ hf1
 have e1:Value.slice b1 len1 cap1 = Value.slice A1 l1.length c1:=by simpa [Value.cells] using hv1
 cases e1
 clear hA0 hval0 hsz0
 refine (walk _ _ l0 hc0 _ _ l1 hc1 a2 W hC0 hC1).mono fun e W' ⟨he,bel⟩ =>?_
 subst he
 exact ⟨_,rfl,_,_,_,[],_,[],hW',trodAll_mk1 (shut_bool Try.underlying4 _),(trodAll_cons_mk (Below.trod laidOut (by kernel_rfl) (of_decide_eq_true (by kernel_rfl)) k0 bel lt0) (trodAll_cons_mk (Below.trod laidOut (by kernel_rfl) (of_decide_eq_true (by kernel_rfl)) k1 bel lt1) (trodAll_cons_mk (shut_string Try.underlying9 w2) trodAll_mk0))),rfl,bel.frame _,fun h =>by cases h⟩
theorem proved:Rows.EffectsUnionSaid :=
 OpenClaim.holds_of_wide 3 Try.f3 rfl rfl rfl rfl rfl rfl rfl ⟨rfl,rfl,rfl,rfl,rfl⟩ rfl rfl rfl rfl rfl (by kernel_rfl) Try.func3 (by kernel_rfl)
  (of_decide_eq_true (by kernel_rfl)) (by unfold Func.isWrapper;first | (rw [if_pos (by decide +kernel)];kernel_rfl) | (rw [if_neg (by decide +kernel)];exact ⟨rfl,rfl⟩))
  (fun os started H enc _ =>lifted os started H enc)
end Go.Proofs.Ythhgfncliffggaa.effectsUnion
namespace Go.Proofs.Ythhgfncliffggaa
theorem effectsUnion_holds:Rows.EffectsUnionSaid:=effectsUnion.proved
end Go.Proofs.Ythhgfncliffggaa
