/- A part of the proof that EffectsLeast returns true for every argument (the row of EffectsLeastUpto: theorem effectsLeast_holds). No conditions beyond the given statement's own. -/
import Derived.Test.YthhgfncliffggaaGreatEL2
import Derived.Test.YthhgfncliffggaaGreatEL3
import Derived.Test.YthhgfncliffggaaGreatEL5
import Derived.Test.YthhgfncliffggaaGreatEL6
import Derived.Test.YthhgfncliffggaaGreatEL7
import Derived.Test.YthhgfncliffggaaGreatEL4
import Derived.RegionTactic
import Derived.ChangeAlike
import Derived.Test.YthhgfncliffggaaGreatRows
import Derived.WalkKit
import Derived.ProofKit
import Derived.OpenShut
import Derived.ShutString
import Derived.ChangeOld
import Derived.Below
import Derived.SizedLaws
import Derived.JoinedCond
set_option linter.unusedVariables false
set_option linter.unusedSimpArgs false
namespace Go.Proofs.YthhgfncliffggaaGreat.Pr
open Go.RowKit Go.Proofs.YthhgfncliffggaaGreatW.PrintWords Go.Proofs.YthhgfncliffggaaGreatW.PrintLast Go.Proofs.YthhgfncliffggaaGreatW.PrintMore
attribute [local go_sem] a3Y a3X a4U a4T a3R a3Q a4K a4J   -- for this text's walks alone
def r14_Texts.l0:Nat→List ByteArray→List ByteArray→Int→Option (Bool)
 | 0,_,_,_ =>none
 | k + 1,x0,x1,x5 =>if x5 < (x0.length:Int) then (if 0≤x5 then (if x5 < (x1.length:Int) then (if (rdOf ByteArray.empty x0 x5).toList = (rdOf ByteArray.empty x1 x5).toList then (r14_Texts.l0 k x0 x1 (wrap64 (x5 + 1))) else (some false)) else (none)) else (none)) else (some true)
def r14_Texts.f (k:Nat) (l0:List ByteArray) (l1:List ByteArray):Option (Bool):=if (l0.length:Int) = (l1.length:Int) then (r14_Texts.l0 k l0 l1 0) else (some false)
set_option maxHeartbeats 8000000 in
set_option maxRecDepth 100000 in
theorem r14_Texts.calls (k:Nat) (A0:Option Addr) (c0:Nat) (l0:List ByteArray) (A1:Option Addr) (c1:Nat) (l1:List ByteArray) (r:Bool) (w:World) (hr0:Kd.C Kd.string w A0 l0.length l0) (hc0:l0.length≤c0) (hr1:Kd.C Kd.string w A1 l1.length l1) (hc1:l1.length≤c1) (h:r14_Texts.f k l0 l1 = some r) :
    Calls Tryz.prog 10 #[.slice A0 l0.length c0,.slice A1 l1.length c1] w fun e w' =>e = .returned (.bool r)∧a1D w w':=by
 have HR0:=a0B.mk hr0;have HC0:=a0B.mk hc0;clear hr0 hc0;have HR1:=a0B.mk hr1;have HC1:=a0B.mk hc1;clear hr1 hc1;have H:(if (l0.length:Int) = (l1.length:Int) then (r14_Texts.l0 k l0 l1 0) else (some false)) = some r:=h;clear h;by_cases c3:(l0.length:Int) = (l1.length:Int)
 ·rw [if_pos c3] at H;have c3b0:((l0.length:Int) == (l1.length:Int)) = true:=beq_iff_eq.mpr c3;have c3b1:((l0.length:Int) != (l1.length:Int)) = false:=bne_eq_false_iff_eq.mpr c3;have c3b2:(l0.length == l1.length) = true:=by first | simpa using c3 | (simp at c3 ⊢;omega)
  clear c3;have H':=a0B.mk H;clear H;go_enter Tryz.func10,Tryz.ntmps10
  go_wp2
  repeat (go_quiet (fail);try go_wp2)
  go_loopg [5] k (fun kq v5 w' =>∃ (aZ:Int),v5 = .int .i64 aZ∧a0B (r14_Texts.l0 kq l0 l1 aZ = some r)∧a0B (kq≤k)∧a1D w w')
  case atStart =>exact ⟨(0),qE0,H',⟨zH0 _⟩,by repeat (first | exact a1D.refl _ | apply a1D.step)⟩
  case round =>
   clear H';obtain ⟨aZ,rfl,HA,HK1,⟨m1,rfl⟩⟩:=hrel;cases gk with
   | zero =>exact absurd HA.out (by simp [r14_Texts.l0])
   | succ k1 =>
    have H:=HA.out;clear HA;simp only [r14_Texts.l0] at H;by_cases c4:aZ < (l0.length:Int)
    ·rw [if_pos c4] at H;have c4b0:decide (aZ < (l0.length:Int)) = true:=zC0 c4;clear c4;by_cases c5:0≤aZ
     ·rw [if_pos c5] at H;have c5b0:decide (0≤aZ) = true:=zC0 c5;clear c5;by_cases c6:aZ < (l1.length:Int)
      ·rw [if_pos c6] at H;have c6b0:decide (aZ < (l1.length:Int)) = true:=zC0 c6;clear c6;by_cases c7:(rdOf ByteArray.empty l0 aZ).toList = (rdOf ByteArray.empty l1 aZ).toList
       ·rw [if_pos c7] at H;have c7b0:((rdOf ByteArray.empty l0 aZ).toList == (rdOf ByteArray.empty l1 aZ).toList) = true:=beq_iff_eq.mpr c7;have c7b1:((rdOf ByteArray.empty l0 aZ).toList != (rdOf ByteArray.empty l1 aZ).toList) = false:=bne_eq_false_iff_eq.mpr c7;clear c7;have H':=a0B.mk H;clear H;have p371:0≤(aZ:Int):=zB0 qA0;have q371:aZ < (l0.length:Int):=zB0 qA0;obtain ⟨ad371,e371,gS⟩:=Kd.a2F HR0.out aZ p371 q371;cases e371;replace p371:=eq_true p371;replace q371:=eq_true q371;have p372:0≤(aZ:Int):=zB0 qA0;have q372:aZ < (l1.length:Int):=zB0 qA0;obtain ⟨ad372,e372,gT⟩:=Kd.a2F HR1.out aZ p372 q372;cases e372;replace p372:=eq_true p372;replace q372:=eq_true q372;go_wp2
        repeat (go_quiet (fail);try go_wp2)
        go_roundg k1
        case measure =>have:=HK1.out;omega
        case rel =>exact ⟨(wrap64 (aZ + 1)),qE0,H',⟨by have:=HK1.out;omega⟩,by repeat (first | exact a1D.refl _ | apply a1D.step)⟩
       ·rw [if_neg c7] at H;have c7b0:((rdOf ByteArray.empty l0 aZ).toList == (rdOf ByteArray.empty l1 aZ).toList) = false:=beq_eq_false_iff_ne.mpr c7;have c7b1:((rdOf ByteArray.empty l0 aZ).toList != (rdOf ByteArray.empty l1 aZ).toList) = true:=bne_iff_ne.mpr c7;obtain rfl:=zD0 H;have p371:0≤(aZ:Int):=zB0 qA0;have q371:aZ < (l0.length:Int):=zB0 qA0;obtain ⟨ad371,e371,gS⟩:=Kd.a2F HR0.out aZ p371 q371;cases e371;replace p371:=eq_true p371;replace q371:=eq_true q371;have p372:0≤(aZ:Int):=zB0 qA0;have q372:aZ < (l1.length:Int):=zB0 qA0;obtain ⟨ad372,e372,gT⟩:=Kd.a2F HR1.out aZ p372 q372;cases e372;replace p372:=eq_true p372;replace q372:=eq_true q372;go_wp2
        repeat (go_quiet (fail);try go_wp2)
        go_ret;exact qN2
      ·rw [if_neg c6] at H;exact absurd H qH0
     ·rw [if_neg c5] at H;exact absurd H qH0
    ·rw [if_neg c4] at H;have c4b0:decide (aZ < (l0.length:Int)) = false:=zM0 c4;clear c4;obtain rfl:=zD0 H;go_wp2
     repeat (go_quiet (fail);try go_wp2)
     go_ret;exact qN2
 ·rw [if_neg c3] at H;have c3b0:((l0.length:Int) == (l1.length:Int)) = false:=beq_eq_false_iff_ne.mpr c3;have c3b1:((l0.length:Int) != (l1.length:Int)) = true:=bne_iff_ne.mpr c3;have c3b2:(l0.length == l1.length) = false:=by first | simpa using c3 | (simp at c3 ⊢;omega)
  obtain rfl:=zD0 H;go_enter Tryz.func10,Tryz.ntmps10
  go_wp2
  repeat (go_quiet (fail);try go_wp2)
  go_ret;exact qN2
end Go.Proofs.YthhgfncliffggaaGreat.Pr
namespace Go.Proofs.YthhgfncliffggaaGreat.Man
open Go.RowKit Go.Proofs.YthhgfncliffggaaGreat.Pr Go.Proofs.YthhgfncliffggaaGreatW.PrintWords
theorem pz14 (n:Nat) (h:n≤8000000000000):wrap64 ((n:Int) + 1) = ((n + 1:Nat):Int):=by simp only [wrap64];omega
theorem rd14 (l:List ByteArray) {i:Nat} (h:i < l.length):rdOf ByteArray.empty l (i:Int) = l[i]:=by
 unfold rdOf;rw [zO0,zG0,zE0 h];rfl
theorem c0F (l:List ByteArray) (hl:l.length≤8000000000000):Ev (fun k =>r14_Texts.f k l l) true:=by
 suffices h:∀ m i:Nat,i + m = l.length→Ev (fun k =>r14_Texts.l0 k l l (i:Int)) true by
  have:=h l.length 0 qD0;simpa [r14_Texts.f] using this
 intro m
 induction m with
 | zero =>
  intro i hi;have hnl:¬ ((i:Int) < (l.length:Int)):=by rw [show i = l.length from hi];exact zN1 _
  refine Ev.step ?_;simp only [r14_Texts.l0,if_neg hnl];exact Ev.const true
 | succ m ih =>
  intro i hi;have hil:i < l.length:=by omega
  have c1:(0:Int)≤(i:Int):=zJ0 i;have c2:(i:Int) < (l.length:Int):=zC1.2 hil;have hw:=pz14 i (zF0 (zG1 hil) hl);refine Ev.step ?_;simp only [r14_Texts.l0,if_pos c1,if_pos c2,if_true,hw];exact ih (i + 1) qD0
theorem c0B (a b:List ByteArray):(unionF a b).length≤a.length + b.length:=by
 unfold unionF;refine zF0 (b8L _) ?_;rw [zS0];exact zH0 _
def a4R (s:ByteArray):Bool→List ByteArray→List ByteArray
 | laid,[] =>if laid = true then [] else [s]
 | true,x :: r =>x :: a4R s true r
 | false,x :: r =>if Op.bytesLess s.toList x.toList = true then s :: x :: a4R s true r else if s.toList = x.toList then x :: a4R s true r else x :: a4R s false r
theorem b1X (s:ByteArray):∀ l:List ByteArray,a4R s true l = l
 | [] =>rfl
 | x :: r =>by rw [a4R,b1X s r]
theorem b0M (s : ByteArray) : ∀ l : List ByteArray, RisB l → RisB (a4R s false l) ∧ ∀ y, y ∈ a4R s false l ↔ y ∈ l ∨ y = s
  | [], _ => ⟨List.pairwise_singleton _ _, fun y => by simp [a4R]⟩
  | x :: r, h => by
    have h0 := h;unfold RisB at h;rw [zH1] at h;obtain ⟨hx, hr⟩ := List.pairwise_cons.1 h;have e1 : (Op.bytesLess s.toList x.toList = true) ↔ s.data.toList < x.data.toList := by rw [bytesLess_eq, Lib.toList_data, Lib.toList_data]; simp
    rw [a4R, b1X];by_cases h1 : Op.bytesLess s.toList x.toList = true
    · rw [if_pos h1]
      refine ⟨?_, fun y => by simp only [zR0]; constructor
                              · rintro (e | e | e)
                                · exact .inr e
                                · exact .inl (.inl e)
                                · exact .inl (.inr e)
                              · rintro ((e | e) | e)
                                · exact .inr (.inl e)
                                · exact .inr (.inr e)
                                · exact .inl e⟩
      unfold RisB;rw [zH1, zH1];refine List.pairwise_cons.2 ⟨fun y hy => ?_, h⟩;rcases zR0.1 hy with rfl | hy
      · exact e1.1 h1
      · exact List.lt_trans (e1.1 h1) (hx y hy)
    · rw [if_neg h1];by_cases h2 : s.toList = x.toList
      · rw [if_pos h2];have e : s = x := b1N (by rw [← Lib.toList_data, ← Lib.toList_data, h2]);refine ⟨h0, fun y => by rw [e, zR0]; exact ⟨.inl, fun h => h.elim id .inl⟩⟩
      · rw [if_neg h2];obtain ⟨i1, i2⟩ := b0M s r hr;refine ⟨?_, fun y => by rw [zR0, zR0, i2 y, or_assoc]⟩;unfold RisB;rw [zH1];refine List.pairwise_cons.2 ⟨fun y hy => ?_, i1⟩;obtain ⟨z, hz, rfl⟩ := List.mem_map.1 hy;rcases (i2 z).1 hz with hz | rfl
        · exact hx _ (List.mem_map.2 ⟨z, hz, rfl⟩)
        · have n1 : ¬ z.data.toList < x.data.toList := fun h => h1 (e1.2 h)
          have n2 : z.data.toList ≠ x.data.toList := fun h => h2 (by rw [Lib.toList_data, Lib.toList_data, h])
          rcases List.le_iff_lt_or_eq.1 (List.not_lt.1 n1) with h | h
          · exact h
          · exact absurd h.symm n2
theorem b9T (xs:List ByteArray) (s:ByteArray):a4R s false (capB xs) = capB (xs ++ [s]):=by
 obtain ⟨h1,h2⟩:=b0M s (capB xs) (a4H xs);exact h1.ext (a4H _) (fun y =>by rw [h2,a5J,a5J,List.mem_append,List.mem_singleton])
theorem c1H (l:List ByteArray) (j:Nat) (hj:j < l.length):l.drop j = rdOf ByteArray.empty l (j:Int) :: l.drop (j + 1):=by
 rw [rd14 l hj];exact List.drop_eq_getElem_cons hj
theorem with14 (l:List ByteArray) (s:ByteArray) (hl:l.length≤8000000000000):Ev (fun k =>r14_With.f k l s) (a4R s false l):=by
 suffices h:∀ (m j:Nat) (acc:List ByteArray) (laid:Bool),j + m = l.length→acc.length≤j + (if laid = true then 1 else 0)→Ev (fun k =>r14_With.l0 k l s acc laid (j:Int)) (acc ++ a4R s laid (l.drop j)) by
  have:=h l.length 0 [] false qD0 qH0;simpa [r14_With.f] using this
 intro m
 induction m with
 | zero =>
  intro j acc laid hj ha;have hje:j = l.length:=hj;have hnl:¬ ((j:Int) < (l.length:Int)):=by rw [hje];exact zN1 _
  have ha':acc.length≤l.length + 1:=by
   rw [← hje];refine zF0 ha ?_;split <;> omega
  have hcap:acc.length < 8796093022208:=by omega
  refine Ev.step ?_;rw [hje,zJ1 (zH0 _)];rw [hje] at hnl;cases laid with
  | true =>simp only [r14_With.l0,if_neg hnl,if_true];simpa [a4R] using Ev.const acc
  | false =>simp only [r14_With.l0,if_neg hnl,Bool.false_eq_true,if_false,if_pos hcap];simpa [a4R] using Ev.const (acc ++ [s])
 | succ m ih =>
  intro j acc laid hj ha;have hjl:j < l.length:=by omega
  have c1:(0:Int)≤(j:Int):=zJ0 j;have c2:(j:Int) < (l.length:Int):=zC1.2 hjl;have hw:=pz14 j (zF0 (zG1 hjl) hl);have hd:=c1H l j hjl;obtain ⟨x,hx⟩:∃ x,x = rdOf ByteArray.empty l (j:Int):=⟨_,rfl⟩;rw [hd,← hx];refine Ev.step (Ev.step ?_);cases laid with
  | true =>
   have ha0:acc.length≤j + 1:=by simpa using ha
   have hcap:acc.length < 8796093022208:=by omega
   have h2:=ih (j + 1) (acc ++ [x]) true qD0 qE1;rw [show acc ++ a4R s true (x :: l.drop (j + 1)) = (acc ++ [x]) ++ a4R s true (l.drop (j + 1)) by simp [a4R]];by_cases e:s.toList = x.toList
   ·simp only [r14_With.l0,r14_With.j1,if_pos c1,if_pos c2,if_true,Bool.false_eq_true,if_false,if_pos hcap,← hx,hw,if_pos e];exact h2
   ·simp only [r14_With.l0,r14_With.j1,if_pos c1,if_pos c2,if_true,Bool.false_eq_true,if_false,if_pos hcap,← hx,hw,if_neg e];exact h2
  | false =>
   have ha0:acc.length≤j:=by simpa using ha
   have hcap:acc.length < 8796093022208:=by omega
   have hcap2:(acc ++ [s]).length < 8796093022208:=by simp;omega
   by_cases h1:Op.bytesLess s.toList x.toList = true
   ·have h2:=ih (j + 1) (acc ++ [s] ++ [x]) true qD0 qE1;rw [show acc ++ a4R s false (x :: l.drop (j + 1)) = (acc ++ [s] ++ [x]) ++ a4R s true (l.drop (j + 1)) by simp [a4R,h1]];by_cases e:s.toList = x.toList
    ·simp only [r14_With.l0,r14_With.j1,if_pos c1,if_pos c2,if_true,Bool.false_eq_true,if_false,if_pos hcap,if_pos hcap2,← hx,hw,h1,zL0,if_pos e];exact h2
    ·simp only [r14_With.l0,r14_With.j1,if_pos c1,if_pos c2,if_true,Bool.false_eq_true,if_false,if_pos hcap,if_pos hcap2,← hx,hw,h1,zL0,if_neg e];exact h2
   ·by_cases e:s.toList = x.toList
    ·have h2:=ih (j + 1) (acc ++ [x]) true qD0 qE1;rw [show acc ++ a4R s false (x :: l.drop (j + 1)) = (acc ++ [x]) ++ a4R s true (l.drop (j + 1)) by rw [a4R,if_neg h1,if_pos e];simp];simp only [r14_With.l0,r14_With.j1,if_pos c1,if_pos c2,Bool.false_eq_true,if_false,if_pos hcap,← hx,hw,if_neg h1,if_pos e];exact h2
    ·have h2:=ih (j + 1) (acc ++ [x]) false qD0 qE1;rw [show acc ++ a4R s false (x :: l.drop (j + 1)) = (acc ++ [x]) ++ a4R s false (l.drop (j + 1)) by rw [a4R,if_neg h1,if_neg e];simp];simp only [r14_With.l0,r14_With.j1,if_pos c1,if_pos c2,Bool.false_eq_true,if_false,if_pos hcap,← hx,hw,if_neg h1,if_neg e];exact h2
theorem b7G (xs:List ByteArray) (s:ByteArray) (hl:xs.length≤8000000000000):Ev (fun k =>r14_With.f k (capB xs) s) (capB (xs ++ [s])):=by
 rw [← b9T];exact with14 _ _ (zF0 (b8L xs) hl)
theorem b1Z (l:List ByteArray) (i:Nat) (hi:i < l.length):l.take (i + 1) = l.take i ++ [rdOf ByteArray.empty l (i:Int)]:=by
 rw [rd14 l hi,List.take_succ_eq_append_getElem hi]
theorem b1A (a b:List ByteArray) (ha:a.length≤1000000000) (hb:b.length≤1000000000):Ev (fun k =>r14_Union.f k a b) (unionF a b):=by
 have L1:∀ m i:Nat,i + m = b.length→Ev (fun k =>r14_Union.l1 k b (capB (a ++ b.take i)) (i:Int)) (unionF a b):=by
  intro m
  induction m with
  | zero =>
   intro i hi;have hnl:¬ ((i:Int) < (b.length:Int)):=by rw [show i = b.length from hi];exact zN1 _
   refine Ev.step ?_;simp only [r14_Union.l1,if_neg hnl];rw [show i = b.length from hi,List.take_length];exact Ev.const _
  | succ m ih =>
   intro i hi;have hil:i < b.length:=by omega
   have c1:(0:Int)≤(i:Int):=zJ0 i;have c2:(i:Int) < (b.length:Int):=zC1.2 hil;have hw:=pz14 i qD0;refine Ev.step ?_;simp only [r14_Union.l1,if_pos c1,if_pos c2,hw];refine Ev.bind (b7G _ _ (by rw [zS0,zY0];omega)) ?_;rw [List.append_assoc,← b1Z b i hil];exact ih (i + 1) qD0
 have L0:∀ m i:Nat,i + m = a.length→Ev (fun k =>r14_Union.l0 k a b (capB (a.take i)) (i:Int)) (unionF a b):=by
  intro m
  induction m with
  | zero =>
   intro i hi;have hnl:¬ ((i:Int) < (a.length:Int)):=by rw [show i = a.length from hi];exact zN1 _
   refine Ev.step ?_;simp only [r14_Union.l0,if_neg hnl];rw [show i = a.length from hi,List.take_length];have:=L1 b.length 0 qD0;rwa [List.take_zero,List.append_nil] at this
  | succ m ih =>
   intro i hi;have hil:i < a.length:=by omega
   have c1:(0:Int)≤(i:Int):=zJ0 i;have c2:(i:Int) < (a.length:Int):=zC1.2 hil;have hw:=pz14 i qD0;refine Ev.step ?_;simp only [r14_Union.l0,if_pos c1,if_pos c2,hw];refine Ev.bind (b7G _ _ (by rw [zY0];omega)) ?_;rw [← b1Z a i hil];exact ih (i + 1) qD0
 have:=L0 a.length 0 qD0;rw [List.take_zero] at this;unfold r14_Union.f;have e:capB ([]:List ByteArray) = []:=(a4H _).ext RisB.nil (fun x =>a5J);rw [e] at this;exact this
theorem capB_nil:capB ([]:List ByteArray) = []:=(a4H _).ext RisB.nil (fun x =>a5J)
theorem c0C (xs ys:List ByteArray):unionF (capB xs) ys = capB (xs ++ ys):=(a3N _ _).ext (a4H _) (fun x =>by rw [a5A,a5J,a5J,List.mem_append])
theorem c1R (L:List S65):(L.flatMap ownG).length≤L.length:=by
 induction L with
 | nil =>exact zH0 _
 | cons s r ih =>
  have:=b3I s;simp only [List.flatMap_cons,zS0,zV0];omega
theorem b5V (fs:List S34):(allOwn fs).length≤total fs:=by
 unfold allOwn total
 induction fs with
 | nil =>exact zH0 _
 | cons f r ih =>
  have:=c1R (flat f.f2);simp only [List.flatMap_cons,zS0];omega
theorem smG_of {fs:List S34} (hl:LowP fs) (hn:fs.length≤1000) (ht:total fs≤1048576):SmG fs:=by
 refine ⟨hn,fun f hf =>?_,zF0 (b5V fs) qD0⟩;refine zF0 ?_ (zF0 ht qD0);obtain ⟨a,b,rfl⟩:=List.append_of_mem hf;unfold total;simp only [List.flatMap_append,List.flatMap_cons,zS0];omega
def ownI (fs:List S34) (x:Int):List ByteArray:=ownF (a0W fs x)
section
variable {fs:List S34}
theorem reach_is (hn:fs.length≤1000) {i:Nat} (hi:i < fs.length):reachF (callsF fs) (i:Int) = reachL (callsF fs) i:=by
 unfold reachF;rw [if_pos ⟨a8T hn,zJ0 i,by rw [a4I];omega⟩,zO0]
theorem c1E (hn:fs.length≤1000) {i:Nat} (hi:i < fs.length):capB ((reachL (callsF fs) i).flatMap (ownI fs)) = wrF fs (numN (callsF fs) i):=by
 refine (a4H _).ext (b5X _) (fun x =>?_);rw [a5J,a8W hn hi,List.mem_flatMap];constructor
 ·rintro ⟨y,hy,hx⟩;obtain ⟨z,rfl,hz,hr⟩:=b2C hy;rw [a4I] at hz;exact ⟨z,hz,hr,hx⟩
 ·rintro ⟨z,hz,hr,hx⟩;exact ⟨(z:Int),b2H.2 ⟨by rw [a4I];exact hz,hr⟩,hx⟩
theorem b7S (hs:SmG fs) {z:Nat} (hz:z < fs.length):(ownI fs (z:Int)).length≤1050000 :=
 zF0 (a8Z _ _ (a9B _).nodup (b1B hz)) hs.u
theorem wrF_len (hs:SmG fs) {i:Nat} (hi:i < fs.length):(wrF fs (numN (callsF fs) i)).length≤(allOwn fs).length :=
 a8Z _ _ (b5X _).nodup (fun x hx =>by
  obtain ⟨z,hz,_,hx⟩:=(a8W hs.n hi).1 hx
  exact b1B hz x hx)
theorem capI_len (hs:SmG fs) (R:List Int) (hR:∀ y,y ∈ R→∃ z:Nat,y = (z:Int)∧z < fs.length):(capB (R.flatMap (ownI fs))).length≤1050000:=by
 refine zF0 (a8Z _ (allOwn fs) (a4H _).nodup (fun x hx =>?_)) hs.u;rw [a5J,List.mem_flatMap] at hx;obtain ⟨y,hy,hx⟩:=hx;obtain ⟨z,rfl,hz⟩:=hR y hy;exact b1B hz x hx
theorem rdI_take (R:List Int) (j:Nat) (hj:j < R.length):R.take (j + 1) = R.take j ++ [rd R (j:Int)]:=by
 rw [b6C hj,List.take_succ_eq_append_getElem hj]
theorem b7P (R:List Int) (j:Nat) (hj:j < R.length):rd R (j:Int) ∈ R:=by rw [b6C hj];exact zW0 hj
end
attribute [local go_sem] Oper.semAt_some
open Go.Proofs.YthhgfncliffggaaGreat.Tarj
theorem sizePR:(Tryz.prog.info? 24).map (·.size) = some 1:=by kernel_rfl
theorem sizeFT:(Tryz.prog.info? 52).map (·.size) = some 2:=by kernel_rfl
theorem p14_lay (w:World):Calls Tryz.prog 26 #[.string a3D] w fun x w' =>∃ A c,x = .returned (.tuple #[.agg #[.slice A 3 c],.agg #[.int .i64 0,.int .i64 0]])∧3≤c∧Kd.F k34 w' (fun k =>w.heap.size≤k) A 3 a1Z∧Below w.heap.size w w' :=
 (c1O w).mono fun e w' ⟨v,he,hR,hb⟩ =>by
  obtain ⟨A,c,rfl,h1,h2⟩:=hR.tell;exact ⟨A,c,he,h1,h2,hb⟩
theorem c3I:callsF a1Z = [[1],[0],[]]:=by
 simp [callsF,callsOf,a1Z,flat,applies,coll,calledBy,funIx,firstIx,allIx,srt,Lib.compact,List.range_succ]
 <;> (refine ⟨?_,?_,?_⟩ <;> first | rfl | decide)
def b2E:Nat→List ByteArray
 | 0 =>[(⟨#[112]⟩:ByteArray)]
 | 1 =>[(⟨#[113]⟩:ByteArray)]
 | _ =>[]
theorem a6H (z:Nat) (hz:z < 3) (x:ByteArray):x ∈ ownF (fnAt a1Z z) ↔ x ∈ b2E z:=by
 rw [b7T]
 match z,hz with
 | 0,_ =>simp [b2E,fnAt,a0W,a1Z,flat,ownG]
 | 1,_ =>simp [b2E,fnAt,a0W,a1Z,flat,ownG]
 | 2,_ =>simp [b2E,fnAt,a0W,a1Z,flat,ownG]
theorem adj14:adjF (callsF a1Z) 0 = [1]∧adjF (callsF a1Z) 1 = [0]∧adjF (callsF a1Z) 2 = []:=by
 rw [c3I];exact ⟨rfl,rfl,rfl⟩
theorem rch14 {i z:Nat} (r:Rch (adjF (callsF a1Z)) i z) (hi:i < 3):(i = 2→z = 2)∧(i < 2→z < 2):=by
 obtain ⟨a0,a1,a2⟩:=adj14;constructor
 ·rintro rfl;exact r.closed (fun v =>v = 2) (fun v hv y hy =>by rw [hv,a2] at hy;cases hy) rfl
 ·intro h;refine r.closed (fun v =>v < 2) (fun v hv y hy =>?_) h
  match v,hv with
  | 0,_ =>rw [a0] at hy;simp at hy;omega
  | 1,_ =>rw [a1] at hy;simp at hy;omega
def wr14:Nat→List ByteArray
 | 0 =>[(⟨#[112]⟩:ByteArray),(⟨#[113]⟩:ByteArray)]
 | 1 =>[(⟨#[112]⟩:ByteArray),(⟨#[113]⟩:ByteArray)]
 | _ =>[]
theorem wrF14 (i:Nat) (hi:i < 3):wrF a1Z (numN (callsF a1Z) i) = wr14 i:=by
 obtain ⟨a0,a1,a2⟩:=adj14;have r01:Rch (adjF (callsF a1Z)) 0 1:=.one (by rw [a0];simp);have r10:Rch (adjF (callsF a1Z)) 1 0:=.one (by rw [a1];simp);refine RisB.ext (b5X _) ?_ (fun x =>?_)
 ·match i,hi with
  | 0,_ =>unfold RisB;decide
  | 1,_ =>unfold RisB;decide
  | 2,_ =>exact RisB.nil
 ·rw [a8W qF0 (show i < a1Z.length from hi)];constructor
  ·rintro ⟨z,hz,r,hx⟩;rw [a6H z hz] at hx;have h:=rch14 r hi
   match i,hi,z,hz with
   | 0,_,0,_ =>exact zR0.2 (.inl (by simpa [b2E] using hx))
   | 0,_,1,_ =>exact zU0 _ hx
   | 1,_,0,_ =>exact zR0.2 (.inl (by simpa [b2E] using hx))
   | 1,_,1,_ =>exact zU0 _ hx
   | 0,_,2,_ =>cases hx
   | 1,_,2,_ =>cases hx
   | 2,_,2,_ =>cases hx
   | 2,_,0,_ =>exact absurd (h.1 rfl) qF0
   | 2,_,1,_ =>exact absurd (h.1 rfl) qF0
  ·intro hx
   match i,hi with
   | 0,_ =>
    rcases zR0.1 hx with e | e
    ·exact ⟨0,by decide,.refl _,(a6H 0 qF0 x).2 (by rw [e];exact zT0)⟩
    ·exact ⟨1,by decide,r01,(a6H 1 qF0 x).2 e⟩
   | 1,_ =>
    rcases zR0.1 hx with e | e
    ·exact ⟨0,by decide,r10,(a6H 0 qF0 x).2 (by rw [e];exact zT0)⟩
    ·exact ⟨1,by decide,.refl _,(a6H 1 qF0 x).2 e⟩
   | 2,_ =>cases hx
def a8M:List S42:=[⟨(⟨#[102]⟩:ByteArray),1,[(⟨#[112]⟩:ByteArray),(⟨#[113]⟩:ByteArray)]⟩,⟨(⟨#[103]⟩:ByteArray),0,[(⟨#[112]⟩:ByteArray),(⟨#[113]⟩:ByteArray)]⟩,⟨(⟨#[104]⟩:ByteArray),0,[]⟩]
theorem sig14:sigsF a1Z = a8M:=by
 unfold sigsF;rw [show List.range a1Z.length = [0,1,2] from rfl];simp only [zH1,zI1];rw [wrF14 0 qF0,wrF14 1 qF0,wrF14 2 qF0]
 rfl
theorem sm14:SmG a1Z:=by
 refine ⟨by decide,fun f hf =>?_,?_⟩
 ·simp only [a1Z,zR0,List.not_mem_nil,or_false] at hf;rcases hf with rfl | rfl | rfl <;> simp [flat]
 ·simp [allOwn,a1Z,flat,ownG]
theorem sigs14 (A:Option Addr) (c:Nat) (w:World) (hc:3≤c) (hC:Kd.C k34 w A 3 a1Z):Calls Tryz.prog 9 #[.agg #[.slice A 3 c]] w fun e w' =>∃ A c,e = .returned (.slice A 3 c)∧3≤c∧Kd.C k42 w' A 3 a8M∧Below w.heap.size w w':=by
 refine (b7K w a1Z A c hc hC sm14).mono ?_;rintro e w' ⟨v,rfl,hN,hb⟩;rw [sig14] at hN;obtain ⟨A',c',rfl⟩:=Kd.a3L hN;obtain ⟨_,h1,h2⟩:=Kd.a1T hN;exact ⟨A',c',rfl,h1,h2,hb⟩
theorem b4M {w:World} {A:Option Addr} (h:Kd.C k42 w A 3 a8M):∃ ad V d,A = some ad∧w.cell? ((ad.add 0).add 1) = some (.int .i64 1)∧w.cell? ((ad.add 0).add 2) = some (.slice V 2 d)∧2≤d∧Kd.C Kd.string w V 2 [(⟨#[112]⟩:ByteArray),(⟨#[113]⟩:ByteArray)]:=by
 obtain ⟨ad,V,d,e,y0,y1,y2,m,n⟩:=a6Z h 0 qF0 qF0;exact ⟨ad,V,d,e,y1,y2,m,n⟩
theorem c0R {w:World} {A:Option Addr} (h:Kd.C k42 w A 3 a8M):∃ ad V d,A = some ad∧w.cell? ((ad.add 3).add 1) = some (.int .i64 0)∧w.cell? ((ad.add 3).add 2) = some (.slice V 2 d)∧2≤d∧Kd.C Kd.string w V 2 [(⟨#[112]⟩:ByteArray),(⟨#[113]⟩:ByteArray)]:=by
 obtain ⟨ad,V,d,e,y0,y1,y2,m,n⟩:=a6Z h 1 qF0 qF0;exact ⟨ad,V,d,e,y1,y2,m,n⟩
theorem c0Q {w:World} {A:Option Addr} (h:Kd.C k42 w A 3 a8M):∃ ad V d,A = some ad∧w.cell? ((ad.add 6).add 1) = some (.int .i64 0)∧w.cell? ((ad.add 6).add 2) = some (.slice V 0 d)∧0≤d∧Kd.C Kd.string w V 0 []:=by
 obtain ⟨ad,V,d,e,y0,y1,y2,m,n⟩:=a6Z h 2 qF0 qF0;exact ⟨ad,V,d,e,y1,y2,m,n⟩
theorem own14_is:ownF (a0W a1Z 0) = [(⟨#[112]⟩:ByteArray)] :=
 RisB.ext (a9B _) (by unfold RisB;decide) (fun x =>a6H 0 qF0 x)
theorem own14 (A1 A2:Option Addr) (c1 c2:Nat) (w:World) (l2:(a0W a1Z 0).f2.length≤c2) (g2:Kd.C k65 w A2 (a0W a1Z 0).f2.length (a0W a1Z 0).f2) :
  Calls Tryz.prog 11 #[.agg #[.string (a0W a1Z 0).f0,.slice A1 (a0W a1Z 0).f1.length c1,.slice A2 (a0W a1Z 0).f2.length c2]] w fun e w' =>∃ A c,e = .returned (.slice A 1 c)∧1≤c∧Kd.C Kd.string w' A 1 [(⟨#[112]⟩:ByteArray)]∧Below w.heap.size w w':=by
 refine (b6G w (a0W a1Z 0) A1 A2 c1 c2 l2 g2 (sm14.b _ zT0)).mono ?_;rintro e w' ⟨v,rfl,ho,hb⟩;rw [own14_is] at ho;obtain ⟨A,c,rfl,h1,h2⟩:=Kd.a3U ho;exact ⟨A,c,rfl,h1,h2,hb⟩
theorem all14 (A:Option Addr) (c:Nat) (w:World) (hC:Kd.C k42 w A 3 a8M):Calls Tryz.prog 17 #[.slice A 3 c] w fun e w' =>∃ A c,e = .returned (.slice A 2 c)∧2≤c∧Kd.C Kd.string w' A 2 [(⟨#[112]⟩:ByteArray),(⟨#[113]⟩:ByteArray)]∧Below w.heap.size w w':=by
 refine (all_any a8M A c w hC qF0 qF0).mono ?_;rintro e w' ⟨v,rfl,ho,hb⟩
 have e1:allF a8M = [(⟨#[112]⟩:ByteArray),(⟨#[113]⟩:ByteArray)]:=RisB.ext (a3N _ _) (by unfold RisB;decide) (fun x =>by
  unfold allF;rw [a5A];simp [a8M]
  try grind)
 rw [e1] at ho;obtain ⟨A,c,rfl,h1,h2⟩:=Kd.a3U ho;exact ⟨A,c,rfl,h1,h2,hb⟩
theorem addr14 (a:Addr):a.add 0 = a:=by
 unfold Addr.add;simp
theorem b6M {w:World} {g:Nat} {a b:ByteArray} (h:w.heap[g]? = some (.cells #[.string a,.string b] 9 (0,0))):Kd.C Kd.string w (some ⟨g,0,none⟩) 2 [a,b]:=by
 refine Kd.a6M (d:=ByteArray.empty) ⟨rfl,by decide,fun _ =>⟨_,rfl,fun j hj =>?_⟩⟩;rw [a5L,Nat.zero_add,a0M h j]
 match j,hj with
 | 0,_ =>rfl
 | 1,_ =>rfl
theorem lit14_1 {w:World} {g:Nat} {a:ByteArray} (h:w.heap[g]? = some (.cells #[.string a] 9 (0,0))):Kd.C Kd.string w (some ⟨g,0,none⟩) 1 [a]:=by
 refine Kd.a6M (d:=ByteArray.empty) ⟨rfl,by decide,fun _ =>⟨_,rfl,fun j hj =>?_⟩⟩;rw [a5L,Nat.zero_add,a0M h j]
 match j,hj with
 | 0,_ =>rfl
set_option maxRecDepth 100000 in
set_option maxHeartbeats 16000000 in
theorem c2X (w:World):Calls Tryz.prog 8 #[] w fun e w' =>e = .returned (.bool true)∧Below w.heap.size w w':=by
 have HB:=zA0 (zI0 w.heap.size w);go_enter Tryz.func8,Tryz.ntmps8
 go_wp2_with (first
  | (go_at_call 26;(with_reducible refine (a4A (args':=#[.string a3D]) ?hs (p14_lay _)).mono ?_);(case hs =>rfl);rintro x w1 ⟨AP,cP,rfl,hcc,hF,hb⟩;have HB:=hs_ HB hb;obtain ⟨loP,hlo⟩:∃ lo,lo = w1.heap.size:=⟨_,rfl⟩;have FP:=zA0 (Kd.a2V (ok':=fun k =>k < loP) (Kd.a5E hF) (fun k hk =>by rw [hlo];exact hk.2));have HLOP:=zA0 (show loP≤w1.heap.size by rw [hlo];exact zH0 _);have HCP:=zA0 hcc;clear hcc hF hlo;clear hb)
  | ((with_reducible refine a0V (N:=1) rfl ?_);refine bx_ 1 #[.slice none 0 0] 24 (h:=?_);intro g1 hg w1 hx hb;have G1:=gz_ hg HB;have UP_1:=zA0 (show loP≤g1 by rw [hg];exact HLOP.out);have FP:=zA0 (Kd.a1W FP.out hb);have HLOP:=zA0 (zF0 HLOP.out hb.size);have HB:=hs_ HB hb;have B1:=zA0 (One.mk hx);clear hx hb hg;have k1:=B1.out.q)
  | ((with_reducible refine a0V (N:=2) rfl ?_);refine bx_ 2 #[.int .i64 0,.int .i64 0] 52 (h:=?_);intro g2 hg w1 hx hb;clear k1;have iO:=zA0 (a0I B1.out.b hg);have G2:=gz_ hg HB;have UP_2:=zA0 (show loP≤g2 by rw [hg];exact HLOP.out);have FP:=zA0 (Kd.a1W FP.out hb);have HLOP:=zA0 (zF0 HLOP.out hb.size);have B1:=zA0 (B1.out.below hb);have HB:=hs_ HB hb;have B2:=zA0 (Two.mk hx);clear hx hb hg;have k1:=B1.out.q;have k2:=B2.out.q)
  | ((with_reducible refine a0Y (t:=24) (p:=1) rfl ?_);refine sx_ [.slice AP 3 cP] B1.out.b sizePR (h:=?_);intro w1 hx hp;clear k1;clear k2;have B2:=zA0 (B2.out.far' hp (Ne.symm iO.out));have FP:=zA0 (a2P FP.out hp (zL1.2 UP_1.out));have HB:=zA0 (hp.below _ G1.out HB.out);have B1:=zA0 (One.mk hx);clear hx hp;have k1:=B1.out.q;have k2:=B2.out.q)
  | ((with_reducible refine a0Y (t:=52) (p:=2) rfl ?_);refine sx_ [.int .i64 0,.int .i64 0] B2.out.b sizeFT (h:=?_);intro w1 hx hp;clear k1;clear k2;have B1:=zA0 (B1.out.far' hp (iO.out));have FP:=zA0 (a2P FP.out hp (zL1.2 UP_2.out));have HB:=zA0 (hp.below _ G2.out HB.out);have B2:=zA0 (Two.mk hx);clear hx hp;have k1:=B1.out.q;have k2:=B2.out.q)
  | (go_at_call 9;with_reducible refine (sigs14 AP cP _ HCP.out (Kd.a5M FP.out)).mono ?_;rintro x w1 ⟨AS,cS,rfl,hcS,hS,hb⟩;clear k1;clear k2;have FP:=zA0 (Kd.a1W FP.out hb);have B1:=zA0 (B1.out.below hb);have B2:=zA0 (B2.out.below hb);have HB:=hs_ HB hb;have KS:=zA0 hS;have HCS:=zA0 hcS;clear hS hcS;((obtain ⟨ad0,V0,d0,eS0,y10,y20,m0,n0⟩:=b4M KS.out;cases eS0;simp [Addr.add] at y10 y20;have HCL0:=zA0 m0;have KL0:=zA0 n0;clear m0 n0;skip));clear hb;have k1:=B1.out.q;have k2:=B2.out.q)
  | ((with_reducible refine a0V (N:=23) rfl ?_);refine a2S (by first | rfl | kernel_rfl) ?_;refine a4L rfl (N:=23) rfl (n:=2) (cs:=#[.string (⟨#[112]⟩:ByteArray),.string (⟨#[113]⟩:ByteArray)]) (t:=9) ?hr ?_;(case hr =>first | (go_simp;done) | (go_simp;rfl));intro g23 hg w1 hx hb;clear k1;clear k2;have FP:=zA0 (Kd.a1W FP.out hb);have B1:=zA0 (B1.out.below hb);have B2:=zA0 (B2.out.below hb);have KS:=zA0 (Kd.a0H KS.out hb);have KL0:=zA0 (Kd.a0H KL0.out hb);have HB:=hs_ HB hb;have B23:=zA0 (RowB.mk hx);clear hx hb hg;have k1:=B1.out.q;have k2:=B2.out.q)
  | (go_at_call 10;((have hL:=b6M B23.out.b));(refine (a4A ?ha (r14_Texts.calls 40 V0 d0 [(⟨#[112]⟩:ByteArray),(⟨#[113]⟩:ByteArray)] (some ⟨g23,0,none⟩) 2 [(⟨#[112]⟩:ByteArray),(⟨#[113]⟩:ByteArray)] true _ KL0.out HCL0.out hL qF0 qG0)).mono ?_);(case ha =>(simp;done));((rintro x w1 ⟨rfl,hd⟩;have hb:=hd.below;clear hd hL;clear k1;clear k2;have FP:=zA0 (Kd.a1W FP.out hb);have B1:=zA0 (B1.out.below hb);have B2:=zA0 (B2.out.below hb);have KS:=zA0 (Kd.a0H KS.out hb);have KL0:=zA0 (Kd.a0H KL0.out hb);have B23:=zA0 (B23.out.below hb);have HB:=hs_ HB hb;clear hb;(obtain ⟨ad1,V1,d1,eS1,y11,y21,m1,n1⟩:=c0R KS.out;cases eS1;simp [Addr.add] at y11 y21;have HCL1:=zA0 m1;have KL1:=zA0 n1;clear m1 n1;skip);have k1:=B1.out.q;have k2:=B2.out.q)))
  | ((with_reducible refine a0V (N:=31) rfl ?_);refine a2S (by first | rfl | kernel_rfl) ?_;refine a4L rfl (N:=31) rfl (n:=2) (cs:=#[.string (⟨#[112]⟩:ByteArray),.string (⟨#[113]⟩:ByteArray)]) (t:=9) ?hr ?_;(case hr =>first | (go_simp;done) | (go_simp;rfl));intro g31 hg w1 hx hb;clear k1;clear k2;have FP:=zA0 (Kd.a1W FP.out hb);have B1:=zA0 (B1.out.below hb);have B2:=zA0 (B2.out.below hb);have KS:=zA0 (Kd.a0H KS.out hb);have KL0:=zA0 (Kd.a0H KL0.out hb);have B23:=zA0 (B23.out.below hb);have KL1:=zA0 (Kd.a0H KL1.out hb);have HB:=hs_ HB hb;have B31:=zA0 (RowB.mk hx);clear hx hb hg;have k1:=B1.out.q;have k2:=B2.out.q)
  | (go_at_call 10;((have hL:=b6M B31.out.b));(refine (a4A ?ha (r14_Texts.calls 40 V1 d1 [(⟨#[112]⟩:ByteArray),(⟨#[113]⟩:ByteArray)] (some ⟨g31,0,none⟩) 2 [(⟨#[112]⟩:ByteArray),(⟨#[113]⟩:ByteArray)] true _ KL1.out HCL1.out hL qF0 qG0)).mono ?_);(case ha =>(simp;done));((rintro x w1 ⟨rfl,hd⟩;have hb:=hd.below;clear hd hL;clear k1;clear k2;have FP:=zA0 (Kd.a1W FP.out hb);have B1:=zA0 (B1.out.below hb);have B2:=zA0 (B2.out.below hb);have KS:=zA0 (Kd.a0H KS.out hb);have KL0:=zA0 (Kd.a0H KL0.out hb);have B23:=zA0 (B23.out.below hb);have KL1:=zA0 (Kd.a0H KL1.out hb);have B31:=zA0 (B31.out.below hb);have HB:=hs_ HB hb;clear hb;(obtain ⟨ad2,V2,d2,eS2,y12,y22,m2,n2⟩:=c0Q KS.out;cases eS2;simp [Addr.add] at y12 y22;have HCL2:=zA0 m2;have KL2:=zA0 n2;clear m2 n2;obtain ⟨ad3,V3,d3,eS3,y13,y23,m3,n3⟩:=b4M KS.out;cases eS3;simp [Addr.add] at y13 y23;have HCL3:=zA0 m3;have KL3:=zA0 n3;clear m3 n3;obtain ⟨adF,A1,c1,A2,c2,eF,x0,x1,x2,l1,g1,l2,g2⟩:=a5U (Kd.a5M FP.out) 0 qF0 qF0;subst eF;simp only [Int.toNat_zero,Nat.zero_mul,addr14] at x0 x1 x2;have L1:=zA0 l1;have K1:=zA0 g1;have L2:=zA0 l2;have K2:=zA0 g2;clear l1 g1 l2 g2;skip);have k1:=B1.out.q;have k2:=B2.out.q)))
  | (go_at_call 11;with_reducible refine (a4A ?ha (own14 A1 A2 c1 c2 _ L2.out K2.out)).mono ?_;(case ha =>(simp;done));rintro x w1 ⟨Av,cv,rfl,hcv,hC,hb⟩;clear k1;clear k2;have FP:=zA0 (Kd.a1W FP.out hb);have B1:=zA0 (B1.out.below hb);have B2:=zA0 (B2.out.below hb);have KS:=zA0 (Kd.a0H KS.out hb);have KL0:=zA0 (Kd.a0H KL0.out hb);have B23:=zA0 (B23.out.below hb);have KL1:=zA0 (Kd.a0H KL1.out hb);have B31:=zA0 (B31.out.below hb);have HB:=hs_ HB hb;clear x0 x1 x2;have KV:=zA0 hC;have HCV:=zA0 hcv;clear hC hcv;clear hb;have k1:=B1.out.q;have k2:=B2.out.q)
  | ((with_reducible refine a0V (N:=55) rfl ?_);refine a2S (by first | rfl | kernel_rfl) ?_;refine a4L rfl (N:=55) rfl (n:=1) (cs:=#[.string (⟨#[112]⟩:ByteArray)]) (t:=9) ?hr ?_;(case hr =>first | (go_simp;done) | (go_simp;rfl));intro g55 hg w1 hx hb;clear k1;clear k2;have FP:=zA0 (Kd.a1W FP.out hb);have B1:=zA0 (B1.out.below hb);have B2:=zA0 (B2.out.below hb);have KS:=zA0 (Kd.a0H KS.out hb);have KL0:=zA0 (Kd.a0H KL0.out hb);have B23:=zA0 (B23.out.below hb);have KL1:=zA0 (Kd.a0H KL1.out hb);have B31:=zA0 (B31.out.below hb);have KV:=zA0 (Kd.a0H KV.out hb);have HB:=hs_ HB hb;have B55:=zA0 (RowB.mk hx);clear hx hb hg;have k1:=B1.out.q;have k2:=B2.out.q)
  | (go_at_call 10;((have hL:=lit14_1 B55.out.b));(refine (a4A ?ha (r14_Texts.calls 40 Av cv [(⟨#[112]⟩:ByteArray)] (some ⟨g55,0,none⟩) 1 [(⟨#[112]⟩:ByteArray)] true _ KV.out HCV.out hL qF0 qG0)).mono ?_);(case ha =>(simp;done));((rintro x w1 ⟨rfl,hd⟩;have hb:=hd.below;clear hd hL;clear k1;clear k2;have FP:=zA0 (Kd.a1W FP.out hb);have B1:=zA0 (B1.out.below hb);have B2:=zA0 (B2.out.below hb);have KS:=zA0 (Kd.a0H KS.out hb);have KL0:=zA0 (Kd.a0H KL0.out hb);have B23:=zA0 (B23.out.below hb);have KL1:=zA0 (Kd.a0H KL1.out hb);have B31:=zA0 (B31.out.below hb);have KV:=zA0 (Kd.a0H KV.out hb);have B55:=zA0 (B55.out.below hb);have HB:=hs_ HB hb;clear hb;have k1:=B1.out.q;have k2:=B2.out.q)))
  | (go_at_call 17;with_reducible refine (all14 _ cS _ KS.out).mono ?_;rintro x w1 ⟨Aw,cw,rfl,hcw,hC,hb⟩;clear k1;clear k2;have FP:=zA0 (Kd.a1W FP.out hb);have B1:=zA0 (B1.out.below hb);have B2:=zA0 (B2.out.below hb);have KS:=zA0 (Kd.a0H KS.out hb);have KL0:=zA0 (Kd.a0H KL0.out hb);have B23:=zA0 (B23.out.below hb);have KL1:=zA0 (Kd.a0H KL1.out hb);have B31:=zA0 (B31.out.below hb);have KV:=zA0 (Kd.a0H KV.out hb);have B55:=zA0 (B55.out.below hb);have HB:=hs_ HB hb;have KW:=zA0 hC;have HCW:=zA0 hcw;clear hC hcw;clear hb;have k1:=B1.out.q;have k2:=B2.out.q)
  | ((with_reducible refine a0V (N:=61) rfl ?_);refine a2S (by first | rfl | kernel_rfl) ?_;refine a4L rfl (N:=61) rfl (n:=2) (cs:=#[.string (⟨#[112]⟩:ByteArray),.string (⟨#[113]⟩:ByteArray)]) (t:=9) ?hr ?_;(case hr =>first | (go_simp;done) | (go_simp;rfl));intro g61 hg w1 hx hb;clear k1;clear k2;have FP:=zA0 (Kd.a1W FP.out hb);have B1:=zA0 (B1.out.below hb);have B2:=zA0 (B2.out.below hb);have KS:=zA0 (Kd.a0H KS.out hb);have KL0:=zA0 (Kd.a0H KL0.out hb);have B23:=zA0 (B23.out.below hb);have KL1:=zA0 (Kd.a0H KL1.out hb);have B31:=zA0 (B31.out.below hb);have KV:=zA0 (Kd.a0H KV.out hb);have B55:=zA0 (B55.out.below hb);have KW:=zA0 (Kd.a0H KW.out hb);have HB:=hs_ HB hb;have B61:=zA0 (RowB.mk hx);clear hx hb hg;have k1:=B1.out.q;have k2:=B2.out.q)
  | (go_at_call 10;((have hL:=b6M B61.out.b));(refine (a4A ?ha (r14_Texts.calls 40 Aw cw [(⟨#[112]⟩:ByteArray),(⟨#[113]⟩:ByteArray)] (some ⟨g61,0,none⟩) 2 [(⟨#[112]⟩:ByteArray),(⟨#[113]⟩:ByteArray)] true _ KW.out HCW.out hL qF0 qG0)).mono ?_);(case ha =>(simp;done));((rintro x w1 ⟨rfl,hd⟩;have hb:=hd.below;clear hd hL;clear k1;clear k2;have FP:=zA0 (Kd.a1W FP.out hb);have B1:=zA0 (B1.out.below hb);have B2:=zA0 (B2.out.below hb);have KS:=zA0 (Kd.a0H KS.out hb);have KL0:=zA0 (Kd.a0H KL0.out hb);have B23:=zA0 (B23.out.below hb);have KL1:=zA0 (Kd.a0H KL1.out hb);have B31:=zA0 (B31.out.below hb);have KV:=zA0 (Kd.a0H KV.out hb);have B55:=zA0 (B55.out.below hb);have KW:=zA0 (Kd.a0H KW.out hb);have B61:=zA0 (B61.out.below hb);have HB:=hs_ HB hb;clear hb;have k1:=B1.out.q;have k2:=B2.out.q))))
 go_ret;exact ⟨rfl,HB.out⟩
end Go.Proofs.YthhgfncliffggaaGreat.Man
namespace Go.Proofs.YthhgfncliffggaaGreat.Pr
open Go.RowKit Go.Proofs.YthhgfncliffggaaGreatW.PrintWords Go.Proofs.YthhgfncliffggaaGreatW.PrintLast Go.Proofs.YthhgfncliffggaaGreatW.PrintMore
attribute [local go_sem] a3Y a3X a4U a4T a3R a3Q a4K a4J   -- for this text's walks alone
open Classical in
noncomputable def w14_fixed.f :Option (Bool):=some true
theorem w14_fixed.calls  (r:Bool) (w:World) (h:w14_fixed.f  = some r) :
  Calls Tryz.prog 8 #[] w fun e w' =>e = .returned (.bool r)∧Below w.heap.size w w' :=
 by
 cases h;exact Man.c2X w
def w14_within.f (k:Nat) (l0:List ByteArray) (l1:List ByteArray):Option (Bool):=(r14_Union.f k l0 l1).bind fun t398 =>((r14_Union.f k l1 ([]:List ByteArray)).bind fun t401 =>((r14_Texts.f k t398 t401).bind fun t404 =>(some t404)))
set_option maxHeartbeats 8000000 in
set_option maxRecDepth 100000 in
theorem w14_within.calls (k:Nat) (A0:Option Addr) (c0:Nat) (l0:List ByteArray) (A1:Option Addr) (c1:Nat) (l1:List ByteArray) (r:Bool) (w:World) (hr0:Kd.C Kd.string w A0 l0.length l0) (hc0:l0.length≤c0) (hr1:Kd.C Kd.string w A1 l1.length l1) (hc1:l1.length≤c1) (h:w14_within.f k l0 l1 = some r) :
    Calls Tryz.prog 20 #[.slice A0 l0.length c0,.slice A1 l1.length c1] w fun e w' =>e = .returned (.bool r)∧Below w.heap.size w w':=by
 have HR0:=a0B.mk hr0;have HC0:=a0B.mk hc0;clear hr0 hc0;have HR1:=a0B.mk hr1;have HC1:=a0B.mk hc1;clear hr1 hc1;have HB:=a0B.mk (zI0 w.heap.size w);have H:((r14_Union.f k l0 l1).bind fun t398 =>((r14_Union.f k l1 ([]:List ByteArray)).bind fun t401 =>((r14_Texts.f k t398 t401).bind fun t404 =>(some t404)))) = some r:=h;clear h;obtain ⟨t398,A3,H⟩:=ob_ H;obtain ⟨t401,A4,H⟩:=ob_ H;obtain ⟨t404,A5,H⟩:=ob_ H;obtain rfl:=zD0 H;go_enter Tryz.func20,Tryz.ntmps20
 go_wp2_with (first | ((with_reducible refine a0X (f:=16) rfl ?_);refine a1X (some 7) rfl rfl Tryz.func16 qG0 rfl #[.slice A0 l0.length c0,.slice A1 l1.length c1] rfl qC0 ?_;(with_reducible refine (r14_Union.calls k _ _ l0 _ _ l1 t398 _ ?side1 ?side2 ?side3 ?side4 A3.out).mono ?_);(case side1 =>repeat (first | exact HR0.out | (with_reducible refine Kd.a1A ?_ _) | (with_reducible refine Kd.a0Z ?_ _) | (with_reducible refine Kd.a1E ?_)));(case side2 =>exact HC0.out);(case side3 =>repeat (first | exact HR1.out | (with_reducible refine Kd.a1A ?_ _) | (with_reducible refine Kd.a0Z ?_ _) | (with_reducible refine Kd.a1E ?_)));(case side4 =>exact HC1.out);rintro e w6 ⟨v399,rfl,ho0,hb⟩;refine ⟨_,rfl,?_⟩;have HO400:=a0B.mk (Kd.a2R ho0 (a0T qB0));replace HB:=a0B.mk (a0L qB0 hb);(try clear hb);(try clear ho0)) | ((with_reducible refine a0X (f:=16) rfl ?_);refine a1X (some 9) rfl rfl Tryz.func16 qG0 rfl #[.slice A1 l1.length c1,.slice none 0 0] rfl qC0 ?_;(refine (r14_Union.calls k _ _ l1 _ _ ([]:List ByteArray) t401 _ ?side1 ?side2 ?side3 ?side4 A4.out).mono ?_);(case side1 =>repeat (first | exact (Kd.a0H HR1.out HB.out) | (with_reducible refine Kd.a1A ?_ _) | (with_reducible refine Kd.a0Z ?_ _) | (with_reducible refine Kd.a1E ?_)));(case side2 =>exact HC1.out);(case side3 =>exact Kd.b9S _ _);(case side4 =>exact zH0 _);rintro e w7 ⟨v402,rfl,ho0,hb⟩;refine ⟨_,rfl,?_⟩;have bQ:=a0B.mk (Kd.a6V (by (with_reducible repeat (first | apply Kd.a1C | apply Kd.a1B | apply Kd.a1G));exact HO400.out) (Kd.a3I ho0) hb);have bR:=a0B.mk (Kd.a2R (Kd.b2P ho0 (Kd.R_lt (by (with_reducible repeat (first | apply Kd.a1C | apply Kd.a1B | apply Kd.a1G));exact HO400.out))) (a0T qB0));have bS:=a0B.mk (a0L qB0 hb);clear HO400;clear HB;have HO400:=bQ;have HO403:=bR;have HB:=bS;clear bQ bR bS;(try clear hb);(try clear ho0);obtain ⟨Ao8,co8,eo8⟩:=Kd.a2D HO400.out;subst eo8;obtain ⟨Ao9,co9,eo9⟩:=Kd.a2D HO403.out;subst eo9) | ((with_reducible refine a0X (f:=10) rfl ?_);refine a1X (some 10) rfl rfl Tryz.func10 qG0 rfl #[.slice Ao8 t398.length co8,.slice Ao9 t401.length co9] rfl qC0 ?_;(with_reducible refine (r14_Texts.calls k _ _ t398 _ _ t401 t404 _ ?side1 ?side2 ?side3 ?side4 A5.out).mono ?_);(case side1 =>repeat (first | exact (Kd.a1P HO400.out).2.2 | (with_reducible refine Kd.a1A ?_ _) | (with_reducible refine Kd.a0Z ?_ _) | (with_reducible refine Kd.a1E ?_)));(case side2 =>exact (Kd.a1P HO400.out).2.1);(case side3 =>repeat (first | exact (Kd.a1P HO403.out).2.2 | (with_reducible refine Kd.a1A ?_ _) | (with_reducible refine Kd.a0Z ?_ _) | (with_reducible refine Kd.a1E ?_)));(case side4 =>exact (Kd.a1P HO403.out).2.1);rintro e w' ⟨rfl,⟨nd,rfl⟩⟩;refine ⟨_,rfl,?_⟩));go_ret;exact qP2
end Go.Proofs.YthhgfncliffggaaGreat.Pr
namespace Go.Proofs.YthhgfncliffggaaGreat.Man
open Go.RowKit Go.Proofs.YthhgfncliffggaaGreat.Pr Go.Proofs.YthhgfncliffggaaGreatW.PrintWords
theorem c1P (f:S34) (h:(flat f.f2).length≤1050000):effects_Own.f f.f0 f.f1 f.f2 = some (ownF f):=by
 unfold effects_Own.f;rw [if_pos h]
theorem sigs_val {fs:List S34} (h:SmG fs):effects_Sigs.f fs = some (sigsF fs):=by
 unfold effects_Sigs.f;rw [if_pos h]
theorem c2Y:w14_fixed.f = some true:=rfl
section
variable {fs:List S34}
theorem c0O {i:Nat} (hi:i < fs.length):(a1Q (sigsF fs) (i:Int)).f2 = wrF fs (numN (callsF fs) i):=by
 unfold a1Q;rw [zO0,zG0,c0N hi];rfl
theorem c0P (hs:SmG fs) {i:Nat} (hi:i < fs.length):(a1Q (sigsF fs) (i:Int)).f2.length≤1050000:=by
 rw [c0O hi];exact zF0 (wrF_len hs hi) hs.u
end
end Go.Proofs.YthhgfncliffggaaGreat.Man
namespace Go.Proofs.YthhgfncliffggaaGreat.Pr
open Go.RowKit Go.Proofs.YthhgfncliffggaaGreatW.PrintWords Go.Proofs.YthhgfncliffggaaGreatW.PrintLast Go.Proofs.YthhgfncliffggaaGreatW.PrintMore
attribute [local go_sem] a3Y a3X a4U a4T a3R a3Q a4K a4J   -- for this text's walks alone
mutual
noncomputable def w14_EffectsLeast.j0:Nat→Bool→List (S34)→Option (Bool)
 | 0,_,_ =>none
 | k + 1,x17,x455000 =>if x17 = true then ((w14_fixed.f).bind fun t456 =>(some t456)) else ((effects_Sigs.f x455000).bind fun t457 =>((r12_Calls.f k x455000).bind fun t460 =>((w14_fixed.f).bind fun t463 =>(if t463 = true then (w14_EffectsLeast.j1 k t457 t460 ((t457.length:Int) != (x455000.length:Int)) x455000) else (w14_EffectsLeast.j1 k t457 t460 true x455000)))))
noncomputable def w14_EffectsLeast.j1:Nat→List (S42)→List (List Int)→Bool→List (S34)→Option (Bool)
 | 0,_,_,_,_ =>none
 | k + 1,x3,x4,x32,x455000 =>if x32 = true then (some false) else (w14_EffectsLeast.l0 k x3 x4 0 x455000)
noncomputable def w14_EffectsLeast.l0:Nat→List (S42)→List (List Int)→Int→List (S34)→Option (Bool)
 | 0,_,_,_,_ =>none
 | k + 1,x3,x4,x5,x455000 =>if x5 < (x3.length:Int) then (if 0≤x5 then (if x5 < (x455000.length:Int) then ((effects_Own.f ((a0W x455000 x5).f0) ((a0W x455000 x5).f1) ((a0W x455000 x5).f2)).bind fun t465 =>((w14_within.f k t465 ((a1Q x3 x5).f2)).bind fun t469 =>(if t469 = true then (w14_EffectsLeast.l1 k x3 x4 x5 0 x455000) else (some false)))) else (none)) else (none)) else (some true)
noncomputable def w14_EffectsLeast.l1:Nat→List (S42)→List (List Int)→Int→Int→List (S34)→Option (Bool)
 | 0,_,_,_,_,_ =>none
 | k + 1,x3,x4,x5,x6,x455000 =>if 0≤x5 then (if x5 < (x4.length:Int) then (if x6 < ((a0U x4 x5).length:Int) then (if 0≤x6 then (if 0≤(rd (a0U x4 x5) x6) then (if (rd (a0U x4 x5) x6) < (x3.length:Int) then (if x5 < (x3.length:Int) then ((w14_within.f k ((a1Q x3 (rd (a0U x4 x5) x6)).f2) ((a1Q x3 x5).f2)).bind fun t475 =>(if t475 = true then (w14_EffectsLeast.l1 k x3 x4 x5 (wrap64 (x6 + 1)) x455000) else (some false))) else (none)) else (none)) else (none)) else (none)) else ((r12_Reach.f k x4 x5).bind fun t479 =>(w14_EffectsLeast.l2 k x3 x4 x5 (([]:List ByteArray)) t479 0 x455000))) else (none)) else (none)
noncomputable def w14_EffectsLeast.l2:Nat→List (S42)→List (List Int)→Int→List ByteArray→List Int→Int→List (S34)→Option (Bool)
 | 0,_,_,_,_,_,_,_ =>none
 | k + 1,x3,x4,x5,x7,x8,x9,x455000 =>if x9 < (x8.length:Int) then (if 0≤x9 then (if 0≤(rd x8 x9) then (if (rd x8 x9) < (x455000.length:Int) then ((effects_Own.f ((a0W x455000 (rd x8 x9)).f0) ((a0W x455000 (rd x8 x9)).f1) ((a0W x455000 (rd x8 x9)).f2)).bind fun t484 =>((r14_Union.f k x7 t484).bind fun t487 =>(w14_EffectsLeast.l2 k x3 x4 x5 t487 x8 (wrap64 (x9 + 1)) x455000))) else (none)) else (none)) else (none)) else (if 0≤x5 then (if x5 < (x3.length:Int) then ((r14_Texts.f k x7 ((a1Q x3 x5).f2)).bind fun t491 =>(if t491 = true then (w14_EffectsLeast.l0 k x3 x4 (wrap64 (x5 + 1)) x455000) else (some false))) else (none)) else (none))
end
noncomputable def w14_EffectsLeast.f (k:Nat) (aG:List (S34)):Option (Bool):=(r03_Big.f k aG).bind fun t455 =>(if t455 = true then (w14_EffectsLeast.j0 k true aG) else (w14_EffectsLeast.j0 k (decide ((aG.length:Int) > 60)) aG))
def w14_EffectsLeast.T10:Bool × List (List Nat × List Nat):=(true,[([],[]),([0],[0]),([],[]),([1,2],[1,2]),([3],[3]),([4],[4]),([],[]),([],[]),([6,7],[6,7]),([8],[8]),([9],[9]),([5,10,5],[5,10]),([11],[11])])
def w14_EffectsLeast.B10:List Nat:=[0,1,0,7,15,31,0,0,192,448,960,2047,4095]
theorem w14_EffectsLeast.tab10:rtab .any (opsOf Tryz.f4 10) = w14_EffectsLeast.T10:=by kernel_rfl
theorem w14_EffectsLeast.bits10:waitsOk w14_EffectsLeast.T10.2 w14_EffectsLeast.B10 = true:=by kernel_rfl
def w14_EffectsLeast.T15:Bool × List (List Nat × List Nat):=(true,[([],[]),([],[]),([],[]),([1,2],[1,2]),([3],[3]),([],[]),([4,5],[4,5]),([6],[6]),([0,7],[0,7]),([8],[8]),([9],[9]),([],[]),([],[]),([11,12],[11,12]),([13],[13]),([14],[14]),([10,15],[10,15]),([16],[16])])
def w14_EffectsLeast.B15:List Nat:=[0,0,0,6,14,0,62,126,255,511,1023,0,0,6144,14336,30720,65535,131071]
theorem w14_EffectsLeast.tab15:rtab .any (opsOf Tryz.f4 15) = w14_EffectsLeast.T15:=by kernel_rfl
theorem w14_EffectsLeast.bits15:waitsOk w14_EffectsLeast.T15.2 w14_EffectsLeast.B15 = true:=by kernel_rfl
def w14_EffectsLeast.T22:Bool × List (List Nat × List Nat):=(true,[([],[]),([],[]),([1],[1]),([],[]),([],[]),([3,4],[3,4]),([5],[5]),([2,6],[2,6]),([7],[7]),([8],[8]),([0,9,9],[0,9]),([10,10,0,1,2,3,4,5,6,7,8,9,10],[0,10])])
def w14_EffectsLeast.B22:List Nat:=[0,0,2,0,0,24,56,126,254,510,1023,2047]
theorem w14_EffectsLeast.tab22:rtab .any (opsOf Tryz.f4 22) = w14_EffectsLeast.T22:=by kernel_rfl
theorem w14_EffectsLeast.bits22:waitsOk w14_EffectsLeast.T22.2 w14_EffectsLeast.B22 = true:=by kernel_rfl
set_option maxHeartbeats 8000000 in
set_option maxRecDepth 100000 in
theorem w14_EffectsLeast.calls (k:Nat) (bD:Option Addr) (aQ:Nat) (aG:List (S34)) (r:Bool) (w:World) (iK:Kd.C k34 w bD aG.length aG) (iL:aG.length≤aQ) (h:w14_EffectsLeast.f k aG = some r) :
    Calls Tryz.prog 4 #[.agg #[.slice bD aG.length aQ]] w fun e w' =>e = .returned (.bool r)∧Below w.heap.size w w':=by
 have hu24:=Tryz.underlying24;have hu34:=Tryz.underlying34;have eD:=a0B.mk iK;have fV:=a0B.mk iL;clear iK iL;have HB:=a0B.mk (zI0 w.heap.size w);have H:((r03_Big.f k aG).bind fun t455 =>(if t455 = true then (w14_EffectsLeast.j0 k true aG) else (w14_EffectsLeast.j0 k (decide ((aG.length:Int) > 60)) aG))) = some r:=h;clear h;have HC2:=a0B.mk H;clear H;go_enter Tryz.func4,Tryz.ntmps4
 go_upto_region 1 with (first | ((with_reducible refine a0V (N:=1) rfl ?_);(try (refine a2S (by rfl) ?_;dsimp only));refine a2E ?hg (N:=1) ?hd (cs:=#[.slice bD aG.length aQ]) (t:=24) ?hr ?_;(case hd =>rfl);(case hg =>rfl);(case hr =>first | (go_simp;done) | (go_simp;rfl));intro aJ hg w3 hbox hb;have bQ:=a0B.mk (a0L qB0 hb);have bR:=a0B.mk (hbox);have bS:=a0B.mk ((by rw [hg];exact (a0T qB0):w.heap.size≤aJ));have bT:=a0B.mk ((by rw [hg];exact (a0T qB0):w.heap.size≤aJ));clear HB;have HB:=bQ;have aD:=bR;have GW454:=bS;have aK:=bT;clear bQ bR bS bT;clear hb hbox hg))
 (try simp only [Act.put,zK0,zP0,zQ0])
 go_cut [17] (fun v17 wc =>∃ (kq:Nat) (fW:Bool),v17 = .bool fW∧a0B (w14_EffectsLeast.j0 kq fW aG = some r)∧a0B (kq≤k)∧a0B (wc.heap[aJ]? = some (.cells #[(.slice bD aG.length aQ)] 24 (0,0)))∧a0B (Below w.heap.size w wc))
 case first =>
  have H:=HC2.out;clear HC2;obtain ⟨t455,A4,H⟩:=ob_ H;by_cases c5:t455 = true
  ·subst c5;rw [if_pos rfl] at H;have H':=a0B.mk H;clear H;have iX:w3.cell? ⟨aJ,0,none⟩ = some (.slice bD aG.length aQ):=(a0M aD.out 0).trans rfl;have iY:=a0Q aD.out 0;go_wp2_with (first | ((with_reducible refine a0X (f:=7) rfl ?_);refine a1X (some 11) rfl rfl Tryz.func7 qG0 rfl #[.agg #[.slice bD aG.length aQ]] rfl qC0 ?_;(with_reducible refine (r03_Big.calls k _ _ aG true _ ?side1 ?side2 A4.out).mono ?_);(case side1 =>repeat (first | exact (Kd.a0H eD.out HB.out) | (with_reducible refine Kd.a1A ?_ _) | (with_reducible refine Kd.a0Z ?_ _) | (with_reducible refine Kd.a1E ?_)));(case side2 =>exact fV.out);rintro e w7 ⟨rfl,hb⟩;refine ⟨_,rfl,?_⟩;replace aD:=a0B.mk (a0R (g:=aJ) (o:=.cells #[.slice bD aG.length aQ] 24 (0,0)) qK0 hb);replace HB:=a0B.mk (a0L qI0 hb);(try clear hb)));go_meet
   case rel =>exact ⟨_,(true),qE0,H',⟨by first | omega | exact zH0 _⟩,⟨by (with_reducible repeat (first | refine a0N ?_ _ | refine a0S ?_ | refine a0K ?_ _));exact aD.out⟩,⟨by repeat (first | (with_reducible first | exact HB.out | apply a0C | apply a0A | apply a0E | refine a0G ?_ aK.out) | exact HB.out)⟩⟩
  ·replace c5:=Bool.eq_false_iff.mpr c5;subst c5;rw [if_neg (show ¬ (false = true) by decide)] at H;have H':=a0B.mk H;clear H;have iZ:w3.cell? ⟨aJ,0,none⟩ = some (.slice bD aG.length aQ):=(a0M aD.out 0).trans rfl;have jA:=a0Q aD.out 0;go_wp2_with (first | ((with_reducible refine a0X (f:=7) rfl ?_);refine a1X (some 11) rfl rfl Tryz.func7 qG0 rfl #[.agg #[.slice bD aG.length aQ]] rfl qC0 ?_;(with_reducible refine (r03_Big.calls k _ _ aG false _ ?side1 ?side2 A4.out).mono ?_);(case side1 =>repeat (first | exact (Kd.a0H eD.out HB.out) | (with_reducible refine Kd.a1A ?_ _) | (with_reducible refine Kd.a0Z ?_ _) | (with_reducible refine Kd.a1E ?_)));(case side2 =>exact fV.out);rintro e w9 ⟨rfl,hb⟩;refine ⟨_,rfl,?_⟩;replace aD:=a0B.mk (a0R (g:=aJ) (o:=.cells #[.slice bD aG.length aQ] 24 (0,0)) qK0 hb);replace HB:=a0B.mk (a0L qI0 hb);(try clear hb);have iP:w9.cell? ⟨aJ,0,none⟩ = some (.slice bD aG.length aQ):=(a0M aD.out 0).trans rfl;have iQ:=a0Q aD.out 0));go_meet
   case rel =>exact ⟨_,(decide ((aG.length:Int) > 60)),qE0,H',⟨by first | omega | exact zH0 _⟩,⟨by (with_reducible repeat (first | refine a0N ?_ _ | refine a0S ?_ | refine a0K ?_ _));exact aD.out⟩,⟨by repeat (first | (with_reducible first | exact HB.out | apply a0C | apply a0A | apply a0E | refine a0G ?_ aK.out) | exact HB.out)⟩⟩
 case rest =>
  clear HC2;obtain ⟨kq,fW,rfl,HA,HJ1,aD,HB⟩:=hcut;cases kq with
  | zero =>exact absurd HA.out (by simp [w14_EffectsLeast.j0])
  | succ kj1 =>
   have H:=HA.out;clear HA;simp only [w14_EffectsLeast.j0] at H;by_cases c11:fW = true
   ·subst c11;rw [if_pos rfl] at H;obtain ⟨t456,A12,H⟩:=ob_ H;obtain rfl:=zD0 H;go_wp2_with (first | ((with_reducible refine a0X (f:=8) rfl ?_);refine a1X (some 18) rfl rfl Tryz.func8 qG0 rfl #[] rfl qC0 ?_;(with_reducible refine (w14_fixed.calls  t456 _ A12.out).mono ?_);rintro e w13 ⟨rfl,hb⟩;refine ⟨_,rfl,?_⟩;replace aD:=a0B.mk (a0R (g:=aJ) (o:=.cells #[.slice bD aG.length aQ] 24 (0,0)) qK0 hb);replace HB:=a0B.mk (a0L qI0 hb);(try clear hb)));go_ret;exact qR2
   ·replace c11:=Bool.eq_false_iff.mpr c11;subst c11;rw [if_neg (show ¬ (false = true) by decide)] at H;obtain ⟨t457,A14,H⟩:=ob_ H;obtain ⟨t460,A15,H⟩:=ob_ H;have HC16:=a0B.mk H;clear H;have iR:wc.cell? ⟨aJ,0,none⟩ = some (.slice bD aG.length aQ):=(a0M aD.out 0).trans rfl;have iS:=a0Q aD.out 0;go_upto_region 5 with (first | ((with_reducible refine a0X (f:=9) rfl ?_);refine a1X (some 20) rfl rfl Tryz.func9 qG0 rfl #[.agg #[.slice bD aG.length aQ]] rfl qC0 ?_;(with_reducible refine (effects_Sigs.calls _ _ aG t457 _ ?side1 ?side2 A14.out).mono ?_);(case side1 =>repeat (first | exact (Kd.a0H eD.out HB.out) | (with_reducible refine Kd.a1A ?_ _) | (with_reducible refine Kd.a0Z ?_ _) | (with_reducible refine Kd.a1E ?_)));(case side2 =>exact fV.out);rintro e w18 ⟨v458,rfl,ho0,hb⟩;refine ⟨_,rfl,?_⟩;have HO459:=a0B.mk (Kd.a9I (Kd.a2Z (ok':=fun k_ =>k_≠aJ) ho0 (fun k_ hk_ =>(Kd.freshB (g:=aJ) (o:=.cells #[.slice bD aG.length aQ] 24 (0,0)) qK0 k_ hk_))) (a0T qI0));replace aD:=a0B.mk (a0R (g:=aJ) (o:=.cells #[.slice bD aG.length aQ] 24 (0,0)) qK0 hb);replace HB:=a0B.mk (a0L qI0 hb);(try clear hb);(try clear ho0);have iT:w18.cell? ⟨aJ,0,none⟩ = some (.slice bD aG.length aQ):=(a0M aD.out 0).trans rfl;have iU:=a0Q aD.out 0) | ((with_reducible refine a0X (f:=19) rfl ?_);refine a1X (some 22) rfl rfl Tryz.func19 qG0 rfl #[.agg #[.slice bD aG.length aQ]] rfl qC0 ?_;(with_reducible refine (r12_Calls.calls kj1 _ _ aG t460 _ ?side1 ?side2 A15.out).mono ?_);(case side1 =>repeat (first | exact (Kd.a0H eD.out HB.out) | (with_reducible refine Kd.a1A ?_ _) | (with_reducible refine Kd.a0Z ?_ _) | (with_reducible refine Kd.a1E ?_)));(case side2 =>exact fV.out);rintro e w20 ⟨v461,rfl,ho0,hb⟩;refine ⟨_,rfl,?_⟩;have bQ:=a0B.mk (Kd.a3E qG1 (Kd.a3F (Kd.S_N ho0)) hb);have bR:=a0B.mk (Kd.a9I (Kd.a2Z (ok':=fun k_ =>some k_≠(v458:Value).ownBlock∧k_≠aJ) (Kd.S_N (Kd.a9G ho0)) (fun k_ hk_ =>⟨(Kd.fresh' (Kd.N_lt qG1) k_ hk_.2.1),(Kd.freshB (g:=aJ) (o:=.cells #[.slice bD aG.length aQ] 24 (0,0)) qK0 k_ hk_.2.1)⟩)) (a0T qI0));have bS:=a0B.mk (a0R (g:=aJ) (o:=.cells #[.slice bD aG.length aQ] 24 (0,0)) qK0 hb);have bT:=a0B.mk (a0L qI0 hb);clear HO459;clear aD;clear HB;have HO459:=bQ;have HO462:=bR;have aD:=bS;have HB:=bT;clear bQ bR bS bT;(try clear hb);(try clear ho0)))
    (try simp only [Act.put,zK0,zP0,zQ0])
    go_cut [32] (fun v32 wc =>∃ (kq:Nat) (eV:Bool),v32 = .bool eV∧a0B (w14_EffectsLeast.j1 kq t457 t460 eV aG = some r)∧a0B (kq≤kj1)∧a0B (Kd.N k42 42 wc w.heap.size (fun k_ =>some k_≠(v461:Value).ownBlock∧k_≠aJ) v458 t457)∧a0B (Kd.N (Kd.slice 3 (Kd.int .i64)) 43 wc w.heap.size (fun k_ =>some k_≠(v458:Value).ownBlock∧k_≠aJ) v461 t460)∧a0B (wc.heap[aJ]? = some (.cells #[(.slice bD aG.length aQ)] 24 (0,0)))∧a0B (Below w.heap.size w wc))
    case first =>
     have H:=HC16.out;clear HC16;obtain ⟨t463,A21,H⟩:=ob_ H;by_cases c22:t463 = true
     ·subst c22;rw [if_pos rfl] at H;have H':=a0B.mk H;clear H;go_wp2_with (first | ((with_reducible refine a0X (f:=8) rfl ?_);refine a1X (some 23) rfl rfl Tryz.func8 qG0 rfl #[] rfl qC0 ?_;(with_reducible refine (w14_fixed.calls  true _ A21.out).mono ?_);rintro e w23 ⟨rfl,hb⟩;refine ⟨_,rfl,?_⟩;replace HO459:=a0B.mk (Kd.a1Y qG1 hb);replace HO462:=a0B.mk (Kd.a1Y (by (with_reducible repeat (first | apply Kd.a1O | apply Kd.a1N | apply Kd.a1S));exact HO462.out) hb);replace aD:=a0B.mk (a0R (g:=aJ) (o:=.cells #[.slice bD aG.length aQ] 24 (0,0)) qK0 hb);replace HB:=a0B.mk (a0L qI0 hb);(try clear hb);obtain ⟨Ao24,co24,eo24⟩:=Kd.a3L HO459.out;subst eo24;have iV:w23.cell? ⟨aJ,0,none⟩ = some (.slice bD aG.length aQ):=(a0M aD.out 0).trans rfl;have iW:=a0Q aD.out 0));go_meet
      case rel =>exact ⟨_,(((t457.length:Int) != (aG.length:Int))),qE0,H',⟨by have:=HJ1.out;first | omega | exact zH0 _⟩,⟨by (with_reducible repeat (first | apply Kd.a1O | apply Kd.a1N | apply Kd.a1S));exact Kd.a2Z HO459.out (fun _ hk =>⟨hk.2,hk.1⟩)⟩,⟨by (with_reducible repeat (first | apply Kd.a1O | apply Kd.a1N | apply Kd.a1S));exact HO462.out⟩,⟨by (with_reducible repeat (first | refine a0N ?_ _ | refine a0S ?_ | refine a0K ?_ _));exact aD.out⟩,⟨by repeat (first | (with_reducible first | exact HB.out | apply a0C | apply a0A | apply a0E | refine a0G ?_ aK.out) | exact HB.out)⟩⟩
     ·replace c22:=Bool.eq_false_iff.mpr c22;subst c22;rw [if_neg (show ¬ (false = true) by decide)] at H;have H':=a0B.mk H;clear H;go_wp2_with (first | ((with_reducible refine a0X (f:=8) rfl ?_);refine a1X (some 23) rfl rfl Tryz.func8 qG0 rfl #[] rfl qC0 ?_;(with_reducible refine (w14_fixed.calls  false _ A21.out).mono ?_);rintro e w26 ⟨rfl,hb⟩;refine ⟨_,rfl,?_⟩;replace HO459:=a0B.mk (Kd.a1Y qG1 hb);replace HO462:=a0B.mk (Kd.a1Y (by (with_reducible repeat (first | apply Kd.a1O | apply Kd.a1N | apply Kd.a1S));exact HO462.out) hb);replace aD:=a0B.mk (a0R (g:=aJ) (o:=.cells #[.slice bD aG.length aQ] 24 (0,0)) qK0 hb);replace HB:=a0B.mk (a0L qI0 hb);(try clear hb)));go_meet
      case rel =>exact ⟨_,(true),qE0,H',⟨by have:=HJ1.out;first | omega | exact zH0 _⟩,⟨by (with_reducible repeat (first | apply Kd.a1O | apply Kd.a1N | apply Kd.a1S));exact Kd.a2Z HO459.out (fun _ hk =>⟨hk.2,hk.1⟩)⟩,⟨by (with_reducible repeat (first | apply Kd.a1O | apply Kd.a1N | apply Kd.a1S));exact HO462.out⟩,⟨by (with_reducible repeat (first | refine a0N ?_ _ | refine a0S ?_ | refine a0K ?_ _));exact aD.out⟩,⟨by repeat (first | (with_reducible first | exact HB.out | apply a0C | apply a0A | apply a0E | refine a0G ?_ aK.out) | exact HB.out)⟩⟩
    case rest =>
     clear HC16;obtain ⟨kq,eV,rfl,HA,HJ15,aH,aI,aD,HB⟩:=hcut;cases kq with
     | zero =>exact absurd HA.out (by simp [w14_EffectsLeast.j1])
     | succ kj15 =>
      have H:=HA.out;clear HA;simp only [w14_EffectsLeast.j1] at H;by_cases c27:eV = true
      ·subst c27;rw [if_pos rfl] at H;obtain rfl:=zD0 H;go_wp2;go_ret;exact qR2
      ·replace c27:=Bool.eq_false_iff.mpr c27;subst c27;rw [if_neg (show ¬ (false = true) by decide)] at H;have H':=a0B.mk H;clear H;go_wp2;go_loopg [5] kj15 (fun kq v5 w' =>∃ (aA:Int),v5 = .int .i64 aA∧a0B (w14_EffectsLeast.l0 kq t457 t460 aA aG = some r)∧a0B (kq≤kj15)∧a0B (Kd.N k42 42 w' w.heap.size (fun k_ =>some k_≠(v461:Value).ownBlock∧k_≠aJ) v458 t457)∧a0B (Kd.N (Kd.slice 3 (Kd.int .i64)) 43 w' w.heap.size (fun k_ =>some k_≠(v458:Value).ownBlock∧k_≠aJ) v461 t460)∧a0B (w'.heap[aJ]? = some (.cells #[(.slice bD aG.length aQ)] 24 (0,0)))∧a0B (Below w.heap.size w w'))
       case atStart =>exact ⟨(0),qE0,H',⟨zH0 _⟩,⟨by (with_reducible repeat (first | apply Kd.a1O | apply Kd.a1N | apply Kd.a1S));exact aH.out⟩,⟨by (with_reducible repeat (first | apply Kd.a1O | apply Kd.a1N | apply Kd.a1S));exact aI.out⟩,⟨by (with_reducible repeat (first | refine a0N ?_ _ | refine a0S ?_ | refine a0K ?_ _));exact aD.out⟩,⟨by repeat (first | (with_reducible first | exact HB.out | apply a0C | apply a0A | apply a0E | refine a0G ?_ aK.out) | exact HB.out)⟩⟩
       case round =>
        clear H';obtain ⟨aA,rfl,HA,HK3,aH,aI,aD,HB⟩:=hrel;cases gk with
        | zero =>exact absurd HA.out (by simp [w14_EffectsLeast.l0])
        | succ k3 =>
         have H:=HA.out;clear HA;simp only [w14_EffectsLeast.l0] at H;by_cases c28:aA < (t457.length:Int)
         ·rw [if_pos c28] at H;have c28b0:decide (aA < (t457.length:Int)) = true:=zC0 c28;clear c28;by_cases c29:0≤aA
          ·rw [if_pos c29] at H;have c29b0:decide (0≤aA) = true:=zC0 c29;clear c29;by_cases c30:aA < (aG.length:Int)
           ·rw [if_pos c30] at H;have c30b0:decide (aA < (aG.length:Int)) = true:=zC0 c30;clear c30;obtain ⟨t465,A31,H⟩:=ob_ H;obtain ⟨t469,A32,H⟩:=ob_ H;by_cases c33:t469 = true
            ·subst c33;rw [if_pos rfl] at H;have H':=a0B.mk H;clear H;obtain ⟨Ao34,co34,eo34⟩:=Kd.a3L aH.out;subst eo34
             try go_wp2
             have bQ:=a0B.mk (Kd.a1S aH.out);have bR:=a0B.mk (Kd.a1S aI.out);have bS:=a0B.mk (a0S aD.out);have bT:=a0B.mk (a0E HB.out);clear aH;clear aI;clear aD;clear HB;have aH:=bQ;have aI:=bR;have aD:=bS;have HB:=bT;clear bQ bR bS bT;have p464:0≤(aA:Int):=zB0 qA0;have q464:aA < (aG.length:Int):=zB0 qA0;obtain ⟨ad464,eE,eG,eH,eI,e464,bE,bF,bG,dA,dB,dC,dD⟩:=a5U eD.out aA p464 q464;have bX:=bG;have bY:=bF;have bZ:=bE;cases e464;replace bE:=a0D HB.out bE;replace bF:=a0D HB.out bF;replace bG:=a0D HB.out bG;have dE:=a0B.mk dB;have eW:=a0B.mk dA;clear dB dA;have dF:=a0B.mk dD;have eX:=a0B.mk dC;clear dD dC;replace p464:=eq_true p464;replace q464:=eq_true q464;have p468:0≤(aA:Int):=zB0 qA0;have q468:aA < (t457.length:Int):=zB0 qA0;obtain ⟨ad468,cY,eJ,e468,dG,dH,cA,dI,dJ⟩:=a6Z (Kd.a1T aH.out).2.2 aA p468 q468;cases e468;obtain ⟨ce468,fH,fI,eK⟩:=Kd.a9J aH.out z42 aA p468 (by first | exact q468 | exact zB0 qA0 | (have e_:=(Kd.a1T aH.out).1;omega));obtain ⟨gU,gV,rfl,cB,cC⟩:=a5C fI;have bH:=eK 2 _ rfl;rw [a1K _ _ 2 qD0] at bH;replace bH:=zD0 (bH.symm.trans cA);injection bH with hva_ hvn_ hvc_
             rw [hva_] at cC;rw [hvc_] at cB;have aT:=a0B.mk (show Kd.V Kd.string 9 _ w.heap.size _ _ ((a1Q t457 aA).f2) from Kd.V_mk cB cC);clear hva_ hvn_ hvc_ cC cB;clear eK fH;have aC:=a0B.mk dJ;have eY:=a0B.mk dI;clear dJ dI;replace p468:=eq_true p468;replace q468:=eq_true q468;refine a9O (n:=13) (S:=fun w' =>w'.cell? ⟨aJ,0,none⟩ = some (.slice (some ad464) aG.length aQ)∧w'.cell? (ad464.add ((aA).toNat * 3)) = some (.string ((a0W aG aA).f0))∧w'.cell? ⟨(ad464.add ((aA).toNat * 3)).block,(ad464.add ((aA).toNat * 3)).off + 1,none⟩ = some (.slice eE ((a0W aG aA).f1).length eG)∧w'.cell? ⟨(ad464.add ((aA).toNat * 3)).block,(ad464.add ((aA).toNat * 3)).off + 2,none⟩ = some (.slice eH ((a0W aG aA).f2).length eI)∧w'.cell? (ad468.add ((aA).toNat * 3)) = some (.string ((a1Q t457 aA).f0))∧w'.cell? ⟨(ad468.add ((aA).toNat * 3)).block,(ad468.add ((aA).toNat * 3)).off + 1,none⟩ = some (.int .i64 ((a1Q t457 aA).f1))∧w'.cell? ⟨(ad468.add ((aA).toNat * 3)).block,(ad468.add ((aA).toNat * 3)).off + 2,none⟩ = some (.slice cY ((a1Q t457 aA).f2).length eJ)) (ds:=[]) #[false,false,false,false,false,false,false,false,false,false,false,false,false] qG0 rfl rfl ⟨(a0M aD.out 0).trans rfl,(a0D HB.out bZ),(a0D HB.out bY),(a0D HB.out bX),dG,dH,cA⟩ (fun hHeld =>?_);refine a4Z w14_EffectsLeast.tab10 w14_EffectsLeast.bits10 (fun HT_ HW_ =>?_);generalize wr.drew = w35 at aH aI aD HB aT dE dF aC bE bF bG dG dH cA hHeld ⊢;refine pz_ 0 (some 39) HT_.out rfl rfl (fun _ _ _ h =>h) (h:=?_);refine pz_ 2 (some 41) HT_.out rfl rfl (fun _ _ _ h =>h) (h:=?_);refine pz_ 6 (some 45) HT_.out rfl rfl (fun _ _ _ h =>h) (h:=?_);refine pz_ 7 (some 46) HT_.out rfl rfl (fun _ _ _ h =>h) (h:=?_);refine pz_ 8 (some 47) HT_.out rfl rfl (fun _ _ _ h =>h) (h:=?_);refine pz_ 9 (some 48) HT_.out rfl rfl (fun _ _ _ h =>h) (h:=?_);refine a4Q (i:=1) (N:=some 40) (v:=?_) (a':=?_) #[true,true,true,false,false,false,true,true,true,true,false,false,false] rfl rfl (a2G HT_.out HW_.out qG0) (fun _ _ _ h =>h) (Or.inl ⟨by rfl,?_⟩) hHeld ?_ ?_;rotate_left
             ·rintro w' ⟨s0,s1,s2,s3,s4,s5,s6⟩;go_simp
              with_reducible rfl
             rotate_left
             ·simp only [Act.put,zK0,zP0,zQ0,a2Q,a2U]
              rfl
             refine pz_ 3 (some 42) HT_.out rfl rfl (fun _ _ _ h =>h) (h:=?_);refine a4Q (i:=4) (N:=some 43) (v:=?_) (a':=?_) #[true,true,true,true,true,false,true,true,true,true,false,false,false] rfl rfl (a2G HT_.out HW_.out qG0) (fun _ _ _ h =>h) (Or.inl ⟨by rfl,?_⟩) hHeld ?_ ?_;rotate_left
             ·rintro w' ⟨s0,s1,s2,s3,s4,s5,s6⟩;go_simp
              with_reducible rfl
             rotate_left
             ·simp only [Act.put,zK0,zP0,zQ0,a2Q,a2U]
              rfl
             refine a4Q (i:=10) (N:=some 49) (v:=?_) (a':=?_) #[true,true,true,true,true,false,true,true,true,true,true,false,false] rfl rfl (a2G HT_.out HW_.out qG0) (fun _ _ _ h =>h) (Or.inl ⟨by rfl,?_⟩) hHeld ?_ ?_;rotate_left
             ·rintro w' ⟨s0,s1,s2,s3,s4,s5,s6⟩;go_simp
              with_reducible rfl
             rotate_left
             ·simp only [Act.put,zK0,zP0,zQ0,a2Q,a2U]
              rfl
             refine one_ (i:=5) (N:=some 44) #[true,true,true,true,true,true,true,true,true,true,true,false,false] rfl rfl (a6J HT_.out qG0) qF0 (fun K hK =>?_);refine a9D Tryz.func11 qG0 rfl #[.agg #[.string ((a0W aG aA).f0),.slice eE ((a0W aG aA).f1).length eG,.slice eH ((a0W aG aA).f2).length eI]] (by rfl) rfl rfl qC0 ?_
             with_reducible refine (effects_Own.calls ((a0W aG aA).f0) _ _ ((a0W aG aA).f1) _ _ ((a0W aG aA).f2) t465 _ ?side1 ?side2 ?side3 ?side4 A31.out).mono ?_
             (case side1 =>repeat (first | exact (Kd.a0H dE.out HB.out) | (with_reducible refine Kd.a1A ?_ _) | (with_reducible refine Kd.a0Z ?_ _) | (with_reducible refine Kd.a1E ?_)))
             (case side2 =>exact eW.out)
             (case side3 =>repeat (first | exact (Kd.a0H dF.out HB.out) | (with_reducible refine Kd.a1A ?_ _) | (with_reducible refine Kd.a0Z ?_ _) | (with_reducible refine Kd.a1E ?_)))
             (case side4 =>exact eX.out)
             rintro e w36 ⟨v466,rfl,ho0,hb⟩;have HS4_:=(hb.cell (zN0 _ _ (hHeld.2.2.2.2.1))).trans (hHeld.2.2.2.2.1);have HS5_:=(hb.cell (zN0 _ _ (hHeld.2.2.2.2.2.1))).trans (hHeld.2.2.2.2.2.1);have HS6_:=(hb.cell (zN0 _ _ (hHeld.2.2.2.2.2.2))).trans (hHeld.2.2.2.2.2.2);refine ⟨_,rfl,?_⟩;have bQ:=a0B.mk (Kd.a3E qR0 (Kd.a3I ho0) hb);have bR:=a0B.mk (Kd.a3E qS0 (Kd.a3I ho0) hb);have bS:=a0B.mk (Kd.a2B qA1 (Kd.a3I ho0) hb);have bT:=a0B.mk (Kd.a2R ho0 (a0T qI0));have cV:=a0B.mk (a0R (g:=aJ) (o:=.cells #[.slice (some ad464) aG.length aQ] 24 (0,0)) qK0 hb);have cW:=a0B.mk (Kd.a0H qJ0 hb);have cX:=a0B.mk (a0L qI0 hb);clear aH;clear aI;clear aT;clear aD;clear aC;clear HB;have aH:=bQ;have aI:=bR;have aT:=bS;have HO467:=bT;have aD:=cV;have aC:=cW;have HB:=cX;clear bQ bR bS bT cV cW cX
             (try clear hb)
             (try clear hb2)
             (try clear hk)
             (try clear hi)
             (try clear ho0)
             obtain ⟨Ao37,co37,eo37⟩:=Kd.a2D HO467.out
             (first | subst eo37 | (injection eo37 with f1_ f2_ f3_;have f4_:=f1_.symm;have f5_:=f3_.symm;clear f1_ f2_ f3_;subst f4_;subst f5_))
             refine hK.out _ _ ⟨(a0M aD.out 0).trans rfl,(a0D HB.out bZ),(a0D HB.out bY),(a0D HB.out bX),HS4_,HS5_,HS6_⟩ (fun hHeld =>?_);clear hK K;refine a9C (a':=?_) ?_ ?_;rotate_left
             ·show Act.put _ (some 44) _ = _;simp only [Act.put,zK0,zP0,zQ0,a2Q,a2U]
              rfl
             refine one_ (i:=11) (N:=some 50) #[true,true,true,true,true,true,true,true,true,true,true,true,false] rfl rfl (a6J HT_.out qG0) qF0 (fun K hK =>?_);refine a9D Tryz.func20 qG0 rfl #[.slice Ao37 t465.length co37,.slice cY ((a1Q t457 aA).f2).length eJ] (by rfl) rfl rfl qC0 ?_
             with_reducible refine (w14_within.calls k3 _ _ t465 _ _ ((a1Q t457 aA).f2) true _ ?side1 ?side2 ?side3 ?side4 A32.out).mono ?_
             (case side1 =>repeat (first | exact (Kd.a1P HO467.out).2.2 | (with_reducible refine Kd.a1A ?_ _) | (with_reducible refine Kd.a0Z ?_ _) | (with_reducible refine Kd.a1E ?_)))
             (case side2 =>exact (Kd.a1P HO467.out).2.1)
             (case side3 =>repeat (first | exact qJ0 | (with_reducible refine Kd.a1A ?_ _) | (with_reducible refine Kd.a0Z ?_ _) | (with_reducible refine Kd.a1E ?_)))
             (case side4 =>exact eY.out)
             rintro e w38 ⟨rfl,hb⟩;have HS4_:=(hb.cell (zN0 _ _ (hHeld.2.2.2.2.1))).trans (hHeld.2.2.2.2.1);have HS5_:=(hb.cell (zN0 _ _ (hHeld.2.2.2.2.2.1))).trans (hHeld.2.2.2.2.2.1);have HS6_:=(hb.cell (zN0 _ _ (hHeld.2.2.2.2.2.2))).trans (hHeld.2.2.2.2.2.2);refine ⟨_,rfl,?_⟩;have bQ:=a0B.mk (Kd.a1Y qR0 hb);have bR:=a0B.mk (Kd.a1Y qS0 hb);have bS:=a0B.mk (Kd.a6B qA1 hb);have bT:=a0B.mk (Kd.a3V (by (with_reducible repeat (first | apply Kd.a1C | apply Kd.a1B | apply Kd.a1G));exact HO467.out) hb);have cV:=a0B.mk (a0R (g:=aJ) (o:=.cells #[.slice (some ad464) aG.length aQ] 24 (0,0)) qK0 hb);have cW:=a0B.mk (Kd.a0H qJ0 hb);have cX:=a0B.mk (a0L qI0 hb);clear aH;clear aI;clear aT;clear HO467;clear aD;clear aC;clear HB;have aH:=bQ;have aI:=bR;have aT:=bS;have HO467:=bT;have aD:=cV;have aC:=cW;have HB:=cX;clear bQ bR bS bT cV cW cX
             (try clear hb)
             (try clear hb2)
             (try clear hk)
             (try clear hi)
             refine hK.out _ _ ⟨(a0M aD.out 0).trans rfl,(a0D HB.out bZ),(a0D HB.out bY),(a0D HB.out bX),HS4_,HS5_,HS6_⟩ (fun hHeld =>?_);clear hK K;refine a9C (a':=?_) ?_ ?_;rotate_left
             ·show Act.put _ (some 50) _ = _;simp only [Act.put,zK0,zP0,zQ0,a2Q,a2U]
              rfl
             refine pz_ 12 (some 51) HT_.out rfl rfl (fun _ _ _ h =>h) (h:=?_);refine b5L (a7K HT_.out qG0) ?_
             try go_wp2
             go_loopg [6] k3 (fun kq v6 w' =>∃ (aM:Int),v6 = .int .i64 aM∧a0B (w14_EffectsLeast.l1 kq t457 t460 aA aM aG = some r)∧a0B (kq≤k3)∧a0B (Kd.N k42 42 w' w.heap.size (fun k_ =>some k_≠(v461:Value).ownBlock∧k_≠aJ) (.slice (some ad468) t457.length co34) t457)∧a0B (Kd.N (Kd.slice 3 (Kd.int .i64)) 43 w' w.heap.size (fun k_ =>some k_≠((.slice (some ad468) t457.length co34):Value).ownBlock∧k_≠aJ) v461 t460)∧a0B (w'.heap[aJ]? = some (.cells #[(.slice (some ad464) aG.length aQ)] 24 (0,0)))∧a0B (Kd.C Kd.string w' cY ((a1Q t457 aA).f2).length ((a1Q t457 aA).f2))∧a0B (Below w.heap.size w w'))
             case atStart =>exact ⟨(0),qE0,H',⟨zH0 _⟩,⟨by (with_reducible repeat (first | apply Kd.a1O | apply Kd.a1N | apply Kd.a1S));exact Kd.a2Z aH.out (fun _ hk =>⟨hk.1.1,hk.1.2⟩)⟩,⟨by (with_reducible repeat (first | apply Kd.a1O | apply Kd.a1N | apply Kd.a1S));exact Kd.a2Z aI.out (fun _ hk =>⟨hk.1.1,hk.1.2⟩)⟩,⟨by (with_reducible repeat (first | refine a0N ?_ _ | refine a0S ?_ | refine a0K ?_ _));exact aD.out⟩,⟨by repeat (first | (with_reducible exact aC.out) | (with_reducible refine Kd.a1A ?_ _) | (with_reducible refine Kd.a0Z ?_ _) | (with_reducible refine Kd.a1E ?_) | exact aC.out)⟩,⟨by repeat (first | (with_reducible first | exact HB.out | apply a0C | apply a0A | apply a0E | refine a0G ?_ aK.out) | exact HB.out)⟩⟩
             case round =>
              clear H';obtain ⟨aM,rfl,HA,HK4,aH,aI,aD,aC,HB⟩:=hrel;cases gk with
              | zero =>exact absurd HA.out (by simp [w14_EffectsLeast.l1])
              | succ k4 =>
               have H:=HA.out;clear HA;simp only [w14_EffectsLeast.l1] at H;by_cases c39:0≤aA
               ·rw [if_pos c39] at H;have c39b0:decide (0≤aA) = true:=zC0 c39;clear c39;by_cases c40:aA < (t460.length:Int)
                ·rw [if_pos c40] at H;have c40b0:decide (aA < (t460.length:Int)) = true:=zC0 c40;clear c40;by_cases c41:aM < ((a0U t460 aA).length:Int)
                 ·rw [if_pos c41] at H;have c41b0:decide (aM < ((a0U t460 aA).length:Int)) = true:=zC0 c41;clear c41;by_cases c42:0≤aM
                  ·rw [if_pos c42] at H;have c42b0:decide (0≤aM) = true:=zC0 c42;clear c42;by_cases c43:0≤(rd (a0U t460 aA) aM)
                   ·rw [if_pos c43] at H;have c43b0:decide (0≤(rd (a0U t460 aA) aM)) = true:=zC0 c43;clear c43;by_cases c44:(rd (a0U t460 aA) aM) < (t457.length:Int)
                    ·rw [if_pos c44] at H;have c44b0:decide ((rd (a0U t460 aA) aM) < (t457.length:Int)) = true:=zC0 c44;clear c44;by_cases c45:aA < (t457.length:Int)
                     ·rw [if_pos c45] at H;have c45b0:decide (aA < (t457.length:Int)) = true:=zC0 c45;clear c45;obtain ⟨t475,A46,H⟩:=ob_ H;by_cases c47:t475 = true
                      ·subst c47;rw [if_pos rfl] at H;have H':=a0B.mk H;clear H;obtain ⟨Ao48,co48,eo48⟩:=Kd.a3L aI.out;subst eo48;have p470:0≤(aA:Int):=zB0 qA0;have q470:aA < (t460.length:Int):=zB0 qA0;obtain ⟨ad470,fJ,gJ,e470,dK,bU,bV⟩:=a4C (Kd.a1T aI.out).2.2 aA p470 q470;cases e470;obtain ⟨ce470,eL,eM,cU⟩:=Kd.a9J aI.out [] aA p470 qF1;obtain ⟨fX,fY,rfl,bA,bC⟩:=Kd.a4P eM;have aX:=cU 0 _ rfl;rw [Nat.add_zero,show ((Kd.slice 3 (Kd.int .i64))).sz = 1 from rfl,Nat.mul_one] at aX;replace aX:=zD0 (aX.symm.trans dK);injection aX with hva_ hvn_ hvc_
                       rw [hva_] at bC;rw [hvc_] at bA;have aN:=a0B.mk (show Kd.V (Kd.int .i64) 3 _ w.heap.size _ _ (a0U t460 aA) from Kd.V_mk bA bC);clear hva_ hvn_ hvc_ bC bA;clear cU eL;have aE:=a0B.mk bV;have fZ:=a0B.mk bU;clear bV bU;replace p470:=eq_true p470;replace q470:=eq_true q470
                       try go_wp2
                       have bQ:=a0B.mk (Kd.a1S aH.out);have bR:=a0B.mk (Kd.a1S aI.out);have bS:=a0B.mk (Kd.a1R aN.out);have bT:=a0B.mk (a0S aD.out);have cV:=a0B.mk (Kd.a1E aC.out);have cW:=a0B.mk (Kd.a1E aE.out);have cX:=a0B.mk (a0E HB.out);clear aH;clear aI;clear aN;clear aD;clear aC;clear aE;clear HB;have aH:=bQ;have aI:=bR;have aN:=bS;have aD:=bT;have aC:=cV;have aE:=cW;have HB:=cX;clear bQ bR bS bT cV cW cX;have p471:0≤(aA:Int):=zB0 qA0;have q471:aA < (t460.length:Int):=zB0 qA0;obtain ⟨ad471,iN,fK,e471,cD,dL,dM⟩:=a4C (Kd.a1T aI.out).2.2 aA p471 q471;obtain rfl:ad470 = ad471:=(by injection e471);obtain ⟨ce471,fL,fM,eN⟩:=Kd.a9J aI.out [] aA p471 (by first | exact q471 | exact zB0 qA0 | (have e_:=(Kd.a1T aI.out).1;omega));obtain ⟨gW,gX,rfl,cE,cG⟩:=Kd.a4P fM;have bI:=eN 0 _ rfl;rw [Nat.add_zero,show ((Kd.slice 3 (Kd.int .i64))).sz = 1 from rfl,Nat.mul_one] at bI;replace bI:=zD0 (bI.symm.trans cD);injection bI with hva_ hvn_ hvc_
                       rw [hva_] at cG;rw [hvc_] at cE;have bJ:=a0B.mk (show Kd.V (Kd.int .i64) 3 _ w.heap.size _ _ (a0U t460 aA) from Kd.V_mk cE cG);clear hva_ hvn_ hvc_ cG cE;clear eN fL;have aU:=a0B.mk dM;have gY:=a0B.mk dL;clear dM dL;replace p471:=eq_true p471;replace q471:=eq_true q471;have p472:0≤(aM:Int):=zB0 qA0;have q472:aM < ((a0U t460 aA).length:Int):=zB0 qA0;obtain ⟨ad472,e472,dN⟩:=Kd.a2J qV0 aM p472 q472;cases e472;replace p472:=eq_true p472;replace q472:=eq_true q472;have p473:0≤((rd (a0U t460 aA) aM):Int):=zB0 qA0;have q473:(rd (a0U t460 aA) aM) < (t457.length:Int):=zB0 qA0;obtain ⟨ad473,eO,eP,e473,dO,dP,cH,dQ,dR⟩:=a6Z (Kd.a1T aH.out).2.2 (rd (a0U t460 aA) aM) p473 q473;obtain rfl:ad468 = ad473:=(by injection e473);obtain ⟨ce473,fN,fO,eQ⟩:=Kd.a9J aH.out z42 (rd (a0U t460 aA) aM) p473 (by first | exact q473 | exact zB0 qA0 | (have e_:=(Kd.a1T aH.out).1;omega));obtain ⟨gZ,iA,rfl,cI,cJ⟩:=a5C fO;have bK:=eQ 2 _ rfl;rw [a1K _ _ 2 qD0] at bK;replace bK:=zD0 (bK.symm.trans cH);injection bK with hva_ hvn_ hvc_
                       rw [hva_] at cJ;rw [hvc_] at cI;have bM:=a0B.mk (show Kd.V Kd.string 9 _ w.heap.size _ _ ((a1Q t457 (rd (a0U t460 aA) aM)).f2) from Kd.V_mk cI cJ);clear hva_ hvn_ hvc_ cJ cI;clear eQ fN;have aV:=a0B.mk dR;have eZ:=a0B.mk dQ;clear dR dQ;replace p473:=eq_true p473;replace q473:=eq_true q473;have p474:0≤(aA:Int):=zB0 qA0;have q474:aA < (t457.length:Int):=zB0 qA0;obtain ⟨ad474,eR,eS,e474,dS,dT,cM,dU,dV⟩:=a6Z (Kd.a1T aH.out).2.2 aA p474 q474;obtain rfl:ad468 = ad474:=(by injection e474);obtain ⟨ce474,fP,fQ,eT⟩:=Kd.a9J aH.out z42 aA p474 (by first | exact q474 | exact zB0 qA0 | (have e_:=(Kd.a1T aH.out).1;omega));obtain ⟨iB,iC,rfl,cN,cO⟩:=a5C fQ;have bN:=eT 2 _ rfl;rw [a1K _ _ 2 qD0] at bN;replace bN:=zD0 (bN.symm.trans cM);injection bN with hva_ hvn_ hvc_
                       rw [hva_] at cO;rw [hvc_] at cN;have bO:=a0B.mk (show Kd.V Kd.string 9 _ w.heap.size _ _ ((a1Q t457 aA).f2) from Kd.V_mk cN cO);clear hva_ hvn_ hvc_ cO cN;clear eT fP;have aW:=a0B.mk dV;have fA:=a0B.mk dU;clear dV dU;replace p474:=eq_true p474;replace q474:=eq_true q474;refine a9O (n:=18) (S:=fun w' =>w'.cell? (ad470.add (aA).toNat) = some (.slice (some ad472) (a0U t460 aA).length fK)∧w'.cell? (ad472.add (aM).toNat) = some (.int .i64 (rd (a0U t460 aA) aM))∧w'.cell? (ad468.add (((rd (a0U t460 aA) aM)).toNat * 3)) = some (.string ((a1Q t457 (rd (a0U t460 aA) aM)).f0))∧w'.cell? ⟨(ad468.add (((rd (a0U t460 aA) aM)).toNat * 3)).block,(ad468.add (((rd (a0U t460 aA) aM)).toNat * 3)).off + 1,none⟩ = some (.int .i64 ((a1Q t457 (rd (a0U t460 aA) aM)).f1))∧w'.cell? ⟨(ad468.add (((rd (a0U t460 aA) aM)).toNat * 3)).block,(ad468.add (((rd (a0U t460 aA) aM)).toNat * 3)).off + 2,none⟩ = some (.slice eO ((a1Q t457 (rd (a0U t460 aA) aM)).f2).length eP)∧w'.cell? (ad468.add ((aA).toNat * 3)) = some (.string ((a1Q t457 aA).f0))∧w'.cell? ⟨(ad468.add ((aA).toNat * 3)).block,(ad468.add ((aA).toNat * 3)).off + 1,none⟩ = some (.int .i64 ((a1Q t457 aA).f1))∧w'.cell? ⟨(ad468.add ((aA).toNat * 3)).block,(ad468.add ((aA).toNat * 3)).off + 2,none⟩ = some (.slice eR ((a1Q t457 aA).f2).length eS)) (ds:=[]) #[false,false,false,false,false,false,false,false,false,false,false,false,false,false,false,false,false,false] qG0 rfl rfl ⟨cD,dN,dO,dP,cH,dS,dT,cM⟩ (fun hHeld =>?_);refine a4Z w14_EffectsLeast.tab15 w14_EffectsLeast.bits15 (fun HT_ HW_ =>?_);generalize wr.drew = w49 at aH aI aN aD aC aE HB bJ bM bO aU aV aW cD dN dO dP cH dS dT cM hHeld ⊢;refine pz_ 0 (some 61) HT_.out rfl rfl (fun _ _ _ h =>h) (h:=?_);refine pz_ 1 (some 62) HT_.out rfl rfl (fun _ _ _ h =>h) (h:=?_);refine pz_ 2 (some 63) HT_.out rfl rfl (fun _ _ _ h =>h) (h:=?_);refine pz_ 3 (some 64) HT_.out rfl rfl (fun _ _ _ h =>h) (h:=?_);refine pz_ 5 (some 66) HT_.out rfl rfl (fun _ _ _ h =>h) (h:=?_);refine pz_ 11 (some 72) HT_.out rfl rfl (fun _ _ _ h =>h) (h:=?_);refine pz_ 12 (some 73) HT_.out rfl rfl (fun _ _ _ h =>h) (h:=?_);refine pz_ 13 (some 74) HT_.out rfl rfl (fun _ _ _ h =>h) (h:=?_);refine pz_ 14 (some 75) HT_.out rfl rfl (fun _ _ _ h =>h) (h:=?_);refine a4Q (i:=4) (N:=some 65) (v:=?_) (a':=?_) #[true,true,true,true,true,true,false,false,false,false,false,true,true,true,true,false,false,false] rfl rfl (a2G HT_.out HW_.out qG0) (fun _ _ _ h =>h) (Or.inl ⟨by rfl,?_⟩) hHeld ?_ ?_;rotate_left
                       ·rintro w' ⟨s0,s1,s2,s3,s4,s5,s6,s7⟩;go_simp
                        with_reducible rfl
                       rotate_left
                       ·simp only [Act.put,zK0,zP0,zQ0,a2Q,a2U]
                        rfl
                       refine pz_ 6 (some 67) HT_.out rfl rfl (fun _ _ _ h =>h) (h:=?_);refine a4Q (i:=7) (N:=some 68) (v:=?_) (a':=?_) #[true,true,true,true,true,true,true,true,false,false,false,true,true,true,true,false,false,false] rfl rfl (a2G HT_.out HW_.out qG0) (fun _ _ _ h =>h) (Or.inl ⟨by rfl,?_⟩) hHeld ?_ ?_;rotate_left
                       ·rintro w' ⟨s0,s1,s2,s3,s4,s5,s6,s7⟩;go_simp
                        with_reducible rfl
                       rotate_left
                       ·simp only [Act.put,zK0,zP0,zQ0,a2Q,a2U]
                        rfl
                       refine pz_ 8 (some 69) HT_.out rfl rfl (fun _ _ _ h =>h) (h:=?_);refine pz_ 9 (some 70) HT_.out rfl rfl (fun _ _ _ h =>h) (h:=?_);refine a4Q (i:=10) (N:=some 71) (v:=?_) (a':=?_) #[true,true,true,true,true,true,true,true,true,true,true,true,true,true,true,false,false,false] rfl rfl (a2G HT_.out HW_.out qG0) (fun _ _ _ h =>h) (Or.inl ⟨by rfl,?_⟩) hHeld ?_ ?_;rotate_left
                       ·rintro w' ⟨s0,s1,s2,s3,s4,s5,s6,s7⟩;go_simp
                        with_reducible rfl
                       rotate_left
                       ·simp only [Act.put,zK0,zP0,zQ0,a2Q,a2U]
                        rfl
                       refine a4Q (i:=15) (N:=some 76) (v:=?_) (a':=?_) #[true,true,true,true,true,true,true,true,true,true,true,true,true,true,true,true,false,false] rfl rfl (a2G HT_.out HW_.out qG0) (fun _ _ _ h =>h) (Or.inl ⟨by rfl,?_⟩) hHeld ?_ ?_;rotate_left
                       ·rintro w' ⟨s0,s1,s2,s3,s4,s5,s6,s7⟩;go_simp
                        with_reducible rfl
                       rotate_left
                       ·simp only [Act.put,zK0,zP0,zQ0,a2Q,a2U]
                        rfl
                       refine one_ (i:=16) (N:=some 77) #[true,true,true,true,true,true,true,true,true,true,true,true,true,true,true,true,true,false] rfl rfl (a6J HT_.out qG0) qF0 (fun K hK =>?_);refine a9D Tryz.func20 qG0 rfl #[.slice eO ((a1Q t457 (rd (a0U t460 aA) aM)).f2).length eP,.slice eR ((a1Q t457 aA).f2).length eS] (by rfl) rfl rfl qC0 ?_
                       with_reducible refine (w14_within.calls k4 _ _ ((a1Q t457 (rd (a0U t460 aA) aM)).f2) _ _ ((a1Q t457 aA).f2) true _ ?side1 ?side2 ?side3 ?side4 A46.out).mono ?_
                       (case side1 =>repeat (first | exact qW0 | (with_reducible refine Kd.a1A ?_ _) | (with_reducible refine Kd.a0Z ?_ _) | (with_reducible refine Kd.a1E ?_)))
                       (case side2 =>exact eZ.out)
                       (case side3 =>repeat (first | exact qX0 | (with_reducible refine Kd.a1A ?_ _) | (with_reducible refine Kd.a0Z ?_ _) | (with_reducible refine Kd.a1E ?_)))
                       (case side4 =>exact fA.out)
                       rintro e w50 ⟨rfl,hb⟩;have HS0_:=(hb.cell (zN0 _ _ (hHeld.1))).trans (hHeld.1);have HS1_:=(hb.cell (zN0 _ _ (hHeld.2.1))).trans (hHeld.2.1);have HS2_:=(hb.cell (zN0 _ _ (hHeld.2.2.1))).trans (hHeld.2.2.1);have HS3_:=(hb.cell (zN0 _ _ (hHeld.2.2.2.1))).trans (hHeld.2.2.2.1);have HS4_:=(hb.cell (zN0 _ _ (hHeld.2.2.2.2.1))).trans (hHeld.2.2.2.2.1);have HS5_:=(hb.cell (zN0 _ _ (hHeld.2.2.2.2.2.1))).trans (hHeld.2.2.2.2.2.1);have HS6_:=(hb.cell (zN0 _ _ (hHeld.2.2.2.2.2.2.1))).trans (hHeld.2.2.2.2.2.2.1);have HS7_:=(hb.cell (zN0 _ _ (hHeld.2.2.2.2.2.2.2))).trans (hHeld.2.2.2.2.2.2.2);refine ⟨_,rfl,?_⟩;have bQ:=a0B.mk (Kd.a1Y qR0 hb);have bR:=a0B.mk (Kd.a1Y qS0 hb);have bS:=a0B.mk (Kd.a6B qZ0 hb);have bT:=a0B.mk (Kd.a6B (by (with_reducible repeat (first | apply Kd.a1J | apply Kd.a1I | apply Kd.a1R));exact bJ.out) hb);have cV:=a0B.mk (Kd.a6B (by (with_reducible repeat (first | apply Kd.a1J | apply Kd.a1I | apply Kd.a1R));exact bM.out) hb);have cW:=a0B.mk (Kd.a6B (by (with_reducible repeat (first | apply Kd.a1J | apply Kd.a1I | apply Kd.a1R));exact bO.out) hb);have cX:=a0B.mk (a0R (g:=aJ) (o:=.cells #[.slice (some ad464) aG.length aQ] 24 (0,0)) qK0 hb);have gA:=a0B.mk (Kd.a0H qJ0 hb);have gK:=a0B.mk (Kd.a0H qQ0 hb);have iM:=a0B.mk (Kd.a0H qV0 hb);have gL:=a0B.mk (Kd.a0H qW0 hb);have gM:=a0B.mk (Kd.a0H qX0 hb);have gN:=a0B.mk (a0L qI0 hb);clear aH;clear aI;clear aN;clear bJ;clear bM;clear bO;clear aD;clear aC;clear aE;clear aU;clear aV;clear aW;clear HB;have aH:=bQ;have aI:=bR;have aN:=bS;have bJ:=bT;have bM:=cV;have bO:=cW;have aD:=cX;have aC:=gA;have aE:=gK;have aU:=iM;have aV:=gL;have aW:=gM;have HB:=gN;clear bQ bR bS bT cV cW cX gA gK iM gL gM gN
                       (try clear hb)
                       (try clear hb2)
                       (try clear hk)
                       (try clear hi)
                       refine hK.out _ _ ⟨HS0_,HS1_,HS2_,HS3_,HS4_,HS5_,HS6_,HS7_⟩ (fun hHeld =>?_);clear hK K;refine a9C (a':=?_) ?_ ?_;rotate_left
                       ·show Act.put _ (some 77) _ = _;simp only [Act.put,zK0,zP0,zQ0,a2Q,a2U]
                        rfl
                       refine pz_ 17 (some 78) HT_.out rfl rfl (fun _ _ _ h =>h) (h:=?_);refine b5L (a7K HT_.out qG0) ?_
                       try go_wp2
                       go_roundg k4
                       case measure =>have:=HJ1.out;have:=HJ15.out;have:=HK3.out;have:=HK4.out;omega
                       case rel =>exact ⟨(wrap64 (aM + 1)),qE0,H',⟨by have:=HJ1.out;have:=HJ15.out;have:=HK3.out;have:=HK4.out;omega⟩,⟨by (with_reducible repeat (first | apply Kd.a1O | apply Kd.a1N | apply Kd.a1S));exact aH.out⟩,⟨by (with_reducible repeat (first | apply Kd.a1O | apply Kd.a1N | apply Kd.a1S));exact aI.out⟩,⟨by (with_reducible repeat (first | refine a0N ?_ _ | refine a0S ?_ | refine a0K ?_ _));exact aD.out⟩,⟨by repeat (first | (with_reducible exact aC.out) | (with_reducible refine Kd.a1A ?_ _) | (with_reducible refine Kd.a0Z ?_ _) | (with_reducible refine Kd.a1E ?_) | exact aC.out)⟩,⟨by repeat (first | (with_reducible first | exact HB.out | apply a0C | apply a0A | apply a0E | refine a0G ?_ aK.out) | exact HB.out)⟩⟩
                      ·replace c47:=Bool.eq_false_iff.mpr c47;subst c47;rw [if_neg (show ¬ (false = true) by decide)] at H;obtain rfl:=zD0 H;obtain ⟨Ao51,co51,eo51⟩:=Kd.a3L aI.out;subst eo51;have p470:0≤(aA:Int):=zB0 qA0;have q470:aA < (t460.length:Int):=zB0 qA0;obtain ⟨ad470,fJ,gJ,e470,dK,bU,bV⟩:=a4C (Kd.a1T aI.out).2.2 aA p470 q470;cases e470;obtain ⟨ce470,eL,eM,cU⟩:=Kd.a9J aI.out [] aA p470 qF1;obtain ⟨fX,fY,rfl,bA,bC⟩:=Kd.a4P eM;have aX:=cU 0 _ rfl;rw [Nat.add_zero,show ((Kd.slice 3 (Kd.int .i64))).sz = 1 from rfl,Nat.mul_one] at aX;replace aX:=zD0 (aX.symm.trans dK);injection aX with hva_ hvn_ hvc_
                       rw [hva_] at bC;rw [hvc_] at bA;have aN:=a0B.mk (show Kd.V (Kd.int .i64) 3 _ w.heap.size _ _ (a0U t460 aA) from Kd.V_mk bA bC);clear hva_ hvn_ hvc_ bC bA;clear cU eL;have aE:=a0B.mk bV;have fZ:=a0B.mk bU;clear bV bU;replace p470:=eq_true p470;replace q470:=eq_true q470
                       try go_wp2
                       have bQ:=a0B.mk (Kd.a1S aH.out);have bR:=a0B.mk (Kd.a1S aI.out);have bS:=a0B.mk (Kd.a1R aN.out);have bT:=a0B.mk (a0S aD.out);have cV:=a0B.mk (Kd.a1E aC.out);have cW:=a0B.mk (Kd.a1E aE.out);have cX:=a0B.mk (a0E HB.out);clear aH;clear aI;clear aN;clear aD;clear aC;clear aE;clear HB;have aH:=bQ;have aI:=bR;have aN:=bS;have aD:=bT;have aC:=cV;have aE:=cW;have HB:=cX;clear bQ bR bS bT cV cW cX;have p471:0≤(aA:Int):=zB0 qA0;have q471:aA < (t460.length:Int):=zB0 qA0;obtain ⟨ad471,iN,fK,e471,cD,dL,dM⟩:=a4C (Kd.a1T aI.out).2.2 aA p471 q471;obtain rfl:ad470 = ad471:=(by injection e471);obtain ⟨ce471,fL,fM,eN⟩:=Kd.a9J aI.out [] aA p471 (by first | exact q471 | exact zB0 qA0 | (have e_:=(Kd.a1T aI.out).1;omega));obtain ⟨gW,gX,rfl,cE,cG⟩:=Kd.a4P fM;have bI:=eN 0 _ rfl;rw [Nat.add_zero,show ((Kd.slice 3 (Kd.int .i64))).sz = 1 from rfl,Nat.mul_one] at bI;replace bI:=zD0 (bI.symm.trans cD);injection bI with hva_ hvn_ hvc_
                       rw [hva_] at cG;rw [hvc_] at cE;have bJ:=a0B.mk (show Kd.V (Kd.int .i64) 3 _ w.heap.size _ _ (a0U t460 aA) from Kd.V_mk cE cG);clear hva_ hvn_ hvc_ cG cE;clear eN fL;have aU:=a0B.mk dM;have gY:=a0B.mk dL;clear dM dL;replace p471:=eq_true p471;replace q471:=eq_true q471;have p472:0≤(aM:Int):=zB0 qA0;have q472:aM < ((a0U t460 aA).length:Int):=zB0 qA0;obtain ⟨ad472,e472,dN⟩:=Kd.a2J qV0 aM p472 q472;cases e472;replace p472:=eq_true p472;replace q472:=eq_true q472;have p473:0≤((rd (a0U t460 aA) aM):Int):=zB0 qA0;have q473:(rd (a0U t460 aA) aM) < (t457.length:Int):=zB0 qA0;obtain ⟨ad473,eO,eP,e473,dO,dP,cH,dQ,dR⟩:=a6Z (Kd.a1T aH.out).2.2 (rd (a0U t460 aA) aM) p473 q473;obtain rfl:ad468 = ad473:=(by injection e473);obtain ⟨ce473,fN,fO,eQ⟩:=Kd.a9J aH.out z42 (rd (a0U t460 aA) aM) p473 (by first | exact q473 | exact zB0 qA0 | (have e_:=(Kd.a1T aH.out).1;omega));obtain ⟨gZ,iA,rfl,cI,cJ⟩:=a5C fO;have bK:=eQ 2 _ rfl;rw [a1K _ _ 2 qD0] at bK;replace bK:=zD0 (bK.symm.trans cH);injection bK with hva_ hvn_ hvc_
                       rw [hva_] at cJ;rw [hvc_] at cI;have bM:=a0B.mk (show Kd.V Kd.string 9 _ w.heap.size _ _ ((a1Q t457 (rd (a0U t460 aA) aM)).f2) from Kd.V_mk cI cJ);clear hva_ hvn_ hvc_ cJ cI;clear eQ fN;have aV:=a0B.mk dR;have eZ:=a0B.mk dQ;clear dR dQ;replace p473:=eq_true p473;replace q473:=eq_true q473;have p474:0≤(aA:Int):=zB0 qA0;have q474:aA < (t457.length:Int):=zB0 qA0;obtain ⟨ad474,eR,eS,e474,dS,dT,cM,dU,dV⟩:=a6Z (Kd.a1T aH.out).2.2 aA p474 q474;obtain rfl:ad468 = ad474:=(by injection e474);obtain ⟨ce474,fP,fQ,eT⟩:=Kd.a9J aH.out z42 aA p474 (by first | exact q474 | exact zB0 qA0 | (have e_:=(Kd.a1T aH.out).1;omega));obtain ⟨iB,iC,rfl,cN,cO⟩:=a5C fQ;have bN:=eT 2 _ rfl;rw [a1K _ _ 2 qD0] at bN;replace bN:=zD0 (bN.symm.trans cM);injection bN with hva_ hvn_ hvc_
                       rw [hva_] at cO;rw [hvc_] at cN;have bO:=a0B.mk (show Kd.V Kd.string 9 _ w.heap.size _ _ ((a1Q t457 aA).f2) from Kd.V_mk cN cO);clear hva_ hvn_ hvc_ cO cN;clear eT fP;have aW:=a0B.mk dV;have fA:=a0B.mk dU;clear dV dU;replace p474:=eq_true p474;replace q474:=eq_true q474;refine a9O (n:=18) (S:=fun w' =>w'.cell? (ad470.add (aA).toNat) = some (.slice (some ad472) (a0U t460 aA).length fK)∧w'.cell? (ad472.add (aM).toNat) = some (.int .i64 (rd (a0U t460 aA) aM))∧w'.cell? (ad468.add (((rd (a0U t460 aA) aM)).toNat * 3)) = some (.string ((a1Q t457 (rd (a0U t460 aA) aM)).f0))∧w'.cell? ⟨(ad468.add (((rd (a0U t460 aA) aM)).toNat * 3)).block,(ad468.add (((rd (a0U t460 aA) aM)).toNat * 3)).off + 1,none⟩ = some (.int .i64 ((a1Q t457 (rd (a0U t460 aA) aM)).f1))∧w'.cell? ⟨(ad468.add (((rd (a0U t460 aA) aM)).toNat * 3)).block,(ad468.add (((rd (a0U t460 aA) aM)).toNat * 3)).off + 2,none⟩ = some (.slice eO ((a1Q t457 (rd (a0U t460 aA) aM)).f2).length eP)∧w'.cell? (ad468.add ((aA).toNat * 3)) = some (.string ((a1Q t457 aA).f0))∧w'.cell? ⟨(ad468.add ((aA).toNat * 3)).block,(ad468.add ((aA).toNat * 3)).off + 1,none⟩ = some (.int .i64 ((a1Q t457 aA).f1))∧w'.cell? ⟨(ad468.add ((aA).toNat * 3)).block,(ad468.add ((aA).toNat * 3)).off + 2,none⟩ = some (.slice eR ((a1Q t457 aA).f2).length eS)) (ds:=[]) #[false,false,false,false,false,false,false,false,false,false,false,false,false,false,false,false,false,false] qG0 rfl rfl ⟨cD,dN,dO,dP,cH,dS,dT,cM⟩ (fun hHeld =>?_);refine a4Z w14_EffectsLeast.tab15 w14_EffectsLeast.bits15 (fun HT_ HW_ =>?_);generalize wr.drew = w52 at aH aI aN aD aC aE HB bJ bM bO aU aV aW cD dN dO dP cH dS dT cM hHeld ⊢;refine pz_ 0 (some 61) HT_.out rfl rfl (fun _ _ _ h =>h) (h:=?_);refine pz_ 1 (some 62) HT_.out rfl rfl (fun _ _ _ h =>h) (h:=?_);refine pz_ 2 (some 63) HT_.out rfl rfl (fun _ _ _ h =>h) (h:=?_);refine pz_ 3 (some 64) HT_.out rfl rfl (fun _ _ _ h =>h) (h:=?_);refine pz_ 5 (some 66) HT_.out rfl rfl (fun _ _ _ h =>h) (h:=?_);refine pz_ 11 (some 72) HT_.out rfl rfl (fun _ _ _ h =>h) (h:=?_);refine pz_ 12 (some 73) HT_.out rfl rfl (fun _ _ _ h =>h) (h:=?_);refine pz_ 13 (some 74) HT_.out rfl rfl (fun _ _ _ h =>h) (h:=?_);refine pz_ 14 (some 75) HT_.out rfl rfl (fun _ _ _ h =>h) (h:=?_);refine a4Q (i:=4) (N:=some 65) (v:=?_) (a':=?_) #[true,true,true,true,true,true,false,false,false,false,false,true,true,true,true,false,false,false] rfl rfl (a2G HT_.out HW_.out qG0) (fun _ _ _ h =>h) (Or.inl ⟨by rfl,?_⟩) hHeld ?_ ?_;rotate_left
                       ·rintro w' ⟨s0,s1,s2,s3,s4,s5,s6,s7⟩;go_simp
                        with_reducible rfl
                       rotate_left
                       ·simp only [Act.put,zK0,zP0,zQ0,a2Q,a2U]
                        rfl
                       refine pz_ 6 (some 67) HT_.out rfl rfl (fun _ _ _ h =>h) (h:=?_);refine a4Q (i:=7) (N:=some 68) (v:=?_) (a':=?_) #[true,true,true,true,true,true,true,true,false,false,false,true,true,true,true,false,false,false] rfl rfl (a2G HT_.out HW_.out qG0) (fun _ _ _ h =>h) (Or.inl ⟨by rfl,?_⟩) hHeld ?_ ?_;rotate_left
                       ·rintro w' ⟨s0,s1,s2,s3,s4,s5,s6,s7⟩;go_simp
                        with_reducible rfl
                       rotate_left
                       ·simp only [Act.put,zK0,zP0,zQ0,a2Q,a2U]
                        rfl
                       refine pz_ 8 (some 69) HT_.out rfl rfl (fun _ _ _ h =>h) (h:=?_);refine pz_ 9 (some 70) HT_.out rfl rfl (fun _ _ _ h =>h) (h:=?_);refine a4Q (i:=10) (N:=some 71) (v:=?_) (a':=?_) #[true,true,true,true,true,true,true,true,true,true,true,true,true,true,true,false,false,false] rfl rfl (a2G HT_.out HW_.out qG0) (fun _ _ _ h =>h) (Or.inl ⟨by rfl,?_⟩) hHeld ?_ ?_;rotate_left
                       ·rintro w' ⟨s0,s1,s2,s3,s4,s5,s6,s7⟩;go_simp
                        with_reducible rfl
                       rotate_left
                       ·simp only [Act.put,zK0,zP0,zQ0,a2Q,a2U]
                        rfl
                       refine a4Q (i:=15) (N:=some 76) (v:=?_) (a':=?_) #[true,true,true,true,true,true,true,true,true,true,true,true,true,true,true,true,false,false] rfl rfl (a2G HT_.out HW_.out qG0) (fun _ _ _ h =>h) (Or.inl ⟨by rfl,?_⟩) hHeld ?_ ?_;rotate_left
                       ·rintro w' ⟨s0,s1,s2,s3,s4,s5,s6,s7⟩;go_simp
                        with_reducible rfl
                       rotate_left
                       ·simp only [Act.put,zK0,zP0,zQ0,a2Q,a2U]
                        rfl
                       refine one_ (i:=16) (N:=some 77) #[true,true,true,true,true,true,true,true,true,true,true,true,true,true,true,true,true,false] rfl rfl (a6J HT_.out qG0) qF0 (fun K hK =>?_);refine a9D Tryz.func20 qG0 rfl #[.slice eO ((a1Q t457 (rd (a0U t460 aA) aM)).f2).length eP,.slice eR ((a1Q t457 aA).f2).length eS] (by rfl) rfl rfl qC0 ?_
                       with_reducible refine (w14_within.calls k4 _ _ ((a1Q t457 (rd (a0U t460 aA) aM)).f2) _ _ ((a1Q t457 aA).f2) false _ ?side1 ?side2 ?side3 ?side4 A46.out).mono ?_
                       (case side1 =>repeat (first | exact qW0 | (with_reducible refine Kd.a1A ?_ _) | (with_reducible refine Kd.a0Z ?_ _) | (with_reducible refine Kd.a1E ?_)))
                       (case side2 =>exact eZ.out)
                       (case side3 =>repeat (first | exact qX0 | (with_reducible refine Kd.a1A ?_ _) | (with_reducible refine Kd.a0Z ?_ _) | (with_reducible refine Kd.a1E ?_)))
                       (case side4 =>exact fA.out)
                       rintro e w53 ⟨rfl,hb⟩;have HS0_:=(hb.cell (zN0 _ _ (hHeld.1))).trans (hHeld.1);have HS1_:=(hb.cell (zN0 _ _ (hHeld.2.1))).trans (hHeld.2.1);have HS2_:=(hb.cell (zN0 _ _ (hHeld.2.2.1))).trans (hHeld.2.2.1);have HS3_:=(hb.cell (zN0 _ _ (hHeld.2.2.2.1))).trans (hHeld.2.2.2.1);have HS4_:=(hb.cell (zN0 _ _ (hHeld.2.2.2.2.1))).trans (hHeld.2.2.2.2.1);have HS5_:=(hb.cell (zN0 _ _ (hHeld.2.2.2.2.2.1))).trans (hHeld.2.2.2.2.2.1);have HS6_:=(hb.cell (zN0 _ _ (hHeld.2.2.2.2.2.2.1))).trans (hHeld.2.2.2.2.2.2.1);have HS7_:=(hb.cell (zN0 _ _ (hHeld.2.2.2.2.2.2.2))).trans (hHeld.2.2.2.2.2.2.2);refine ⟨_,rfl,?_⟩;have bQ:=a0B.mk (Kd.a1Y qR0 hb);have bR:=a0B.mk (Kd.a1Y qS0 hb);have bS:=a0B.mk (Kd.a6B qZ0 hb);have bT:=a0B.mk (Kd.a6B (by (with_reducible repeat (first | apply Kd.a1J | apply Kd.a1I | apply Kd.a1R));exact bJ.out) hb);have cV:=a0B.mk (Kd.a6B (by (with_reducible repeat (first | apply Kd.a1J | apply Kd.a1I | apply Kd.a1R));exact bM.out) hb);have cW:=a0B.mk (Kd.a6B (by (with_reducible repeat (first | apply Kd.a1J | apply Kd.a1I | apply Kd.a1R));exact bO.out) hb);have cX:=a0B.mk (a0R (g:=aJ) (o:=.cells #[.slice (some ad464) aG.length aQ] 24 (0,0)) qK0 hb);have gA:=a0B.mk (Kd.a0H qJ0 hb);have gK:=a0B.mk (Kd.a0H qQ0 hb);have iM:=a0B.mk (Kd.a0H qV0 hb);have gL:=a0B.mk (Kd.a0H qW0 hb);have gM:=a0B.mk (Kd.a0H qX0 hb);have gN:=a0B.mk (a0L qI0 hb);clear aH;clear aI;clear aN;clear bJ;clear bM;clear bO;clear aD;clear aC;clear aE;clear aU;clear aV;clear aW;clear HB;have aH:=bQ;have aI:=bR;have aN:=bS;have bJ:=bT;have bM:=cV;have bO:=cW;have aD:=cX;have aC:=gA;have aE:=gK;have aU:=iM;have aV:=gL;have aW:=gM;have HB:=gN;clear bQ bR bS bT cV cW cX gA gK iM gL gM gN
                       (try clear hb)
                       (try clear hb2)
                       (try clear hk)
                       (try clear hi)
                       refine hK.out _ _ ⟨HS0_,HS1_,HS2_,HS3_,HS4_,HS5_,HS6_,HS7_⟩ (fun hHeld =>?_);clear hK K;refine a9C (a':=?_) ?_ ?_;rotate_left
                       ·show Act.put _ (some 77) _ = _;simp only [Act.put,zK0,zP0,zQ0,a2Q,a2U]
                        rfl
                       refine pz_ 17 (some 78) HT_.out rfl rfl (fun _ _ _ h =>h) (h:=?_);refine b5L (a7K HT_.out qG0) ?_
                       try go_wp2
                       go_ret;exact qR2
                     ·rw [if_neg c45] at H;exact absurd H qH0
                    ·rw [if_neg c44] at H;exact absurd H qH0
                   ·rw [if_neg c43] at H;exact absurd H qH0
                  ·rw [if_neg c42] at H;exact absurd H qH0
                 ·rw [if_neg c41] at H;have c41b0:decide (aM < ((a0U t460 aA).length:Int)) = false:=zM0 c41;clear c41;obtain ⟨y476,hy476⟩:∃ y_:List ByteArray,y_ = (([]:List ByteArray)):=⟨_,rfl⟩;replace H:((r12_Reach.f k4 t460 aA).bind fun t479 =>(w14_EffectsLeast.l2 k4 t457 t460 aA y476 t479 0 aG)) = some r:=by first | (rw [hy476];with_reducible exact H) | (have H2_:=(zL0 _ _).symm.trans H;rw [hy476];with_reducible exact H2_) | (have H2_:=(zL0 _ _).symm.trans H;with_reducible exact H2_) | with_reducible exact H | (rw [hy476];exact H) | exact H
                  have Ny476:=a0B.mk hy476;clear hy476;obtain ⟨t479,A54,H⟩:=ob_ H;have H':=a0B.mk H;clear H;obtain ⟨Ao55,co55,eo55⟩:=Kd.a3L aI.out;subst eo55;have p470:0≤(aA:Int):=zB0 qA0;have q470:aA < (t460.length:Int):=zB0 qA0;obtain ⟨ad470,fJ,gJ,e470,dK,bU,bV⟩:=a4C (Kd.a1T aI.out).2.2 aA p470 q470;cases e470;obtain ⟨ce470,eL,eM,cU⟩:=Kd.a9J aI.out [] aA p470 qF1;obtain ⟨fX,fY,rfl,bA,bC⟩:=Kd.a4P eM;have aX:=cU 0 _ rfl;rw [Nat.add_zero,show ((Kd.slice 3 (Kd.int .i64))).sz = 1 from rfl,Nat.mul_one] at aX;replace aX:=zD0 (aX.symm.trans dK);injection aX with hva_ hvn_ hvc_
                  rw [hva_] at bC;rw [hvc_] at bA;have aN:=a0B.mk (show Kd.V (Kd.int .i64) 3 _ w.heap.size _ _ (a0U t460 aA) from Kd.V_mk bA bC);clear hva_ hvn_ hvc_ bC bA;clear cU eL;have aE:=a0B.mk bV;have fZ:=a0B.mk bU;clear bV bU;replace p470:=eq_true p470;replace q470:=eq_true q470;go_wp2_with (first | ((with_reducible refine a0V (N:=79) rfl ?_);(try (refine a2S (by rfl) ?_;dsimp only));refine Kd.b1Q Kd.string _ 9 ?hg (N:=79) ?hd (xs:=([]:List ByteArray)) (inner:=[]) (ok:=fun _ =>True) (okp:=fun _ =>True) ?hr ?hp (fun _ hk =>hk) trivial (zI0 _ _) (zH0 _) qH0 ?_;(case hd =>rfl);(case hg =>rfl);(case hr =>first | (go_simp;done) | (go_simp;rfl));(case hp =>exact (Reps.none _ _));intro v477 w56 ho57 hb hg_ hnew_;clear hg_ hnew_;(first | rw [← Ny476.out] at ho57 | (simp only [Int.reduceToNat] at ho57;rw [← Ny476.out] at ho57));replace aH:=a0B.mk (Kd.a3E qR0 (Kd.a3I ho57) hb);replace aI:=a0B.mk (Kd.a3E qS0 (Kd.a3I ho57) hb);replace aN:=a0B.mk (Kd.a2B qZ0 (Kd.a3I ho57) hb);have HO478:=a0B.mk (Kd.a2R ho57 (a0T qI0));replace aD:=a0B.mk (a0R (g:=aJ) (o:=.cells #[.slice (some ad464) aG.length aQ] 24 (0,0)) qK0 hb);replace aC:=a0B.mk (Kd.a0H qJ0 hb);replace aE:=a0B.mk (Kd.a0H qQ0 hb);replace HB:=a0B.mk (a0L qI0 hb);clear hb ho57) | ((with_reducible refine a0X (f:=21) rfl ?_);refine a1X (some 82) rfl rfl Tryz.func21 qG0 rfl #[.slice (some ad470) t460.length co55,.int .i64 aA] rfl qC0 ?_;(with_reducible refine (r12_Reach.calls k4 _ _ t460 aA t479 _ ?side1 ?side2 A54.out).mono ?_);(case side1 =>repeat (first | exact (Kd.a1T aI.out).2.2 | (with_reducible refine Kd.a1A ?_ _) | (with_reducible refine Kd.a0Z ?_ _) | (with_reducible refine Kd.a1E ?_)));(case side2 =>exact (Kd.a1T aI.out).2.1);rintro e w58 ⟨v480,rfl,ho0,hb⟩;refine ⟨_,rfl,?_⟩;replace aH:=a0B.mk (Kd.a3E qR0 (Kd.a3I ho0) hb);replace aI:=a0B.mk (Kd.a3E qS0 (Kd.a3I ho0) hb);replace aN:=a0B.mk (Kd.a2B qZ0 (Kd.a3I ho0) hb);replace HO478:=a0B.mk (Kd.a3V (by (with_reducible repeat (first | apply Kd.a1C | apply Kd.a1B | apply Kd.a1G));exact HO478.out) hb);have HO481:=a0B.mk (Kd.a2R ho0 (a0T qI0));replace aD:=a0B.mk (a0R (g:=aJ) (o:=.cells #[.slice (some ad464) aG.length aQ] 24 (0,0)) qK0 hb);replace aC:=a0B.mk (Kd.a0H qJ0 hb);replace aE:=a0B.mk (Kd.a0H qQ0 hb);replace HB:=a0B.mk (a0L qI0 hb);(try clear hb);(try clear hk);(try clear ho0)));go_loopg [7,9] k4 (fun kq v7 v9 w' =>∃ (fB:List ByteArray) (aY:Int),v9 = .int .i64 aY∧a0B (w14_EffectsLeast.l2 kq t457 t460 aA fB t479 aY aG = some r)∧a0B (kq≤k4)∧a0B (Kd.N k42 42 w' w.heap.size (fun k_ =>some k_≠((.slice (some ad470) t460.length co55):Value).ownBlock∧some k_≠(v7:Value).ownBlock∧some k_≠(v480:Value).ownBlock∧k_≠aJ) (.slice (some ad468) t457.length co34) t457)∧a0B (Kd.N (Kd.slice 3 (Kd.int .i64)) 43 w' w.heap.size (fun k_ =>some k_≠((.slice (some ad468) t457.length co34):Value).ownBlock∧some k_≠(v7:Value).ownBlock∧some k_≠(v480:Value).ownBlock∧k_≠aJ) (.slice (some ad470) t460.length co55) t460)∧a0B (Kd.R Kd.string 9 w' w.heap.size (fun _ =>True) v7 fB)∧a0B (Kd.R (Kd.int .i64) 3 w' w.heap.size (fun _ =>True) v480 t479)∧a0B (w'.heap[aJ]? = some (.cells #[(.slice (some ad464) aG.length aQ)] 24 (0,0)))∧a0B (Kd.C Kd.string w' cY ((a1Q t457 aA).f2).length ((a1Q t457 aA).f2))∧a0B (Kd.C (Kd.int .i64) w' fJ (a0U t460 aA).length (a0U t460 aA))∧a0B (Below w.heap.size w w'))
                  case atStart =>exact ⟨(y476),(0),qE0,H',⟨zH0 _⟩,⟨by (with_reducible repeat (first | apply Kd.a1O | apply Kd.a1N | apply Kd.a1S));exact Kd.a2Z aH.out (fun _ hk =>⟨hk.1.1.1,⟨hk.1.2,⟨hk.2,hk.1.1.2⟩⟩⟩)⟩,⟨by (with_reducible repeat (first | apply Kd.a1O | apply Kd.a1N | apply Kd.a1S));exact Kd.a2Z aI.out (fun _ hk =>⟨hk.1.1.1,⟨hk.1.2,⟨hk.2,hk.1.1.2⟩⟩⟩)⟩,⟨by (with_reducible repeat (first | apply Kd.a1C | apply Kd.a1B | apply Kd.a1G));exact HO478.out⟩,⟨by (with_reducible repeat (first | apply Kd.a1C | apply Kd.a1B | apply Kd.a1G));exact HO481.out⟩,⟨by (with_reducible repeat (first | refine a0N ?_ _ | refine a0S ?_ | refine a0K ?_ _));exact aD.out⟩,⟨by repeat (first | (with_reducible exact aC.out) | (with_reducible refine Kd.a1A ?_ _) | (with_reducible refine Kd.a0Z ?_ _) | (with_reducible refine Kd.a1E ?_) | exact aC.out)⟩,⟨by repeat (first | (with_reducible exact aE.out) | (with_reducible refine Kd.a1A ?_ _) | (with_reducible refine Kd.a0Z ?_ _) | (with_reducible refine Kd.a1E ?_) | exact aE.out)⟩,⟨by repeat (first | (with_reducible first | exact HB.out | apply a0C | apply a0A | apply a0E | refine a0G ?_ aK.out) | exact HB.out)⟩⟩
                  case round =>
                   clear H';obtain ⟨fB,aY,rfl,HA,HK5,aH,aI,bW,cZ,aD,aC,aE,HB⟩:=hrel;cases gk with
                   | zero =>exact absurd HA.out (by simp [w14_EffectsLeast.l2])
                   | succ k5 =>
                    have H:=HA.out;clear HA;simp only [w14_EffectsLeast.l2] at H;by_cases c59:aY < (t479.length:Int)
                    ·rw [if_pos c59] at H;have c59b0:decide (aY < (t479.length:Int)) = true:=zC0 c59;clear c59;by_cases c60:0≤aY
                     ·rw [if_pos c60] at H;have c60b0:decide (0≤aY) = true:=zC0 c60;clear c60;by_cases c61:0≤(rd t479 aY)
                      ·rw [if_pos c61] at H;have c61b0:decide (0≤(rd t479 aY)) = true:=zC0 c61;clear c61;by_cases c62:(rd t479 aY) < (aG.length:Int)
                       ·rw [if_pos c62] at H;have c62b0:decide ((rd t479 aY) < (aG.length:Int)) = true:=zC0 c62;clear c62;obtain ⟨t484,A63,H⟩:=ob_ H;obtain ⟨t487,A64,H⟩:=ob_ H;have H':=a0B.mk H;clear H;obtain ⟨Ao65,co65,eo65⟩:=Kd.a2D cZ.out;subst eo65
                        try go_wp2
                        have bQ:=a0B.mk (Kd.a1S aH.out);have bR:=a0B.mk (Kd.a1S aI.out);have bS:=a0B.mk (Kd.a1G bW.out);have bT:=a0B.mk (Kd.a1G cZ.out);have cV:=a0B.mk (a0S aD.out);have cW:=a0B.mk (Kd.a1E aC.out);have cX:=a0B.mk (Kd.a1E aE.out);have gA:=a0B.mk (a0E HB.out);clear aH;clear aI;clear bW;clear cZ;clear aD;clear aC;clear aE;clear HB;have aH:=bQ;have aI:=bR;have bW:=bS;have cZ:=bT;have aD:=cV;have aC:=cW;have aE:=cX;have HB:=gA;clear bQ bR bS bT cV cW cX gA;have p482:0≤(aY:Int):=zB0 qA0;have q482:aY < (t479.length:Int):=zB0 qA0;obtain ⟨ad482,e482,gB⟩:=Kd.a2J (Kd.a1P cZ.out).2.2 aY p482 q482;cases e482;replace p482:=eq_true p482;replace q482:=eq_true q482;have p483:0≤((rd t479 aY):Int):=zB0 qA0;have q483:(rd t479 aY) < (aG.length:Int):=zB0 qA0;obtain ⟨ad483,gO,gP,gQ,gR,e483,dZ,eB,eC,gC,gD,gE,gG⟩:=a5U eD.out (rd t479 aY) p483 q483;have fC:=eC;have fD:=eB;have fE:=dZ;obtain rfl:ad464 = ad483:=(by injection e483);replace dZ:=a0D HB.out dZ;replace eB:=a0D HB.out eB;replace eC:=a0D HB.out eC;have gH:=a0B.mk gD;have iD:=a0B.mk gC;clear gD gC;have gI:=a0B.mk gG;have iE:=a0B.mk gE;clear gG gE;replace p483:=eq_true p483;replace q483:=eq_true q483;refine a9O (n:=12) (S:=fun w' =>w'.cell? ⟨aJ,0,none⟩ = some (.slice (some ad464) aG.length aQ)∧w'.cell? (ad482.add (aY).toNat) = some (.int .i64 (rd t479 aY))∧w'.cell? (ad464.add (((rd t479 aY)).toNat * 3)) = some (.string ((a0W aG (rd t479 aY)).f0))∧w'.cell? ⟨(ad464.add (((rd t479 aY)).toNat * 3)).block,(ad464.add (((rd t479 aY)).toNat * 3)).off + 1,none⟩ = some (.slice gO ((a0W aG (rd t479 aY)).f1).length gP)∧w'.cell? ⟨(ad464.add (((rd t479 aY)).toNat * 3)).block,(ad464.add (((rd t479 aY)).toNat * 3)).off + 2,none⟩ = some (.slice gQ ((a0W aG (rd t479 aY)).f2).length gR)) (ds:=[]) #[false,false,false,false,false,false,false,false,false,false,false,false] qG0 rfl rfl ⟨(a0M aD.out 0).trans rfl,gB,(a0D HB.out fE),(a0D HB.out fD),(a0D HB.out fC)⟩ (fun hHeld =>?_);refine a4Z w14_EffectsLeast.tab22 w14_EffectsLeast.bits22 (fun HT_ HW_ =>?_);generalize wr.drew = w66 at aH aI bW cZ aD aC aE HB gH gI gB dZ eB eC hHeld ⊢;refine pz_ 0 (some 89) HT_.out rfl rfl (fun _ _ _ h =>h) (h:=?_);refine pz_ 1 (some 90) HT_.out rfl rfl (fun _ _ _ h =>h) (h:=?_);refine pz_ 3 (some 92) HT_.out rfl rfl (fun _ _ _ h =>h) (h:=?_);refine pz_ 4 (some 93) HT_.out rfl rfl (fun _ _ _ h =>h) (h:=?_);refine pz_ 5 (some 94) HT_.out rfl rfl (fun _ _ _ h =>h) (h:=?_);refine a4Q (i:=2) (N:=some 91) (v:=?_) (a':=?_) #[true,true,true,true,true,true,false,false,false,false,false,false] rfl rfl (a2G HT_.out HW_.out qG0) (fun _ _ _ h =>h) (Or.inl ⟨by rfl,?_⟩) hHeld ?_ ?_;rotate_left
                        ·rintro w' ⟨s0,s1,s2,s3,s4⟩;go_simp
                         with_reducible rfl
                        rotate_left
                        ·simp only [Act.put,zK0,zP0,zQ0,a2Q,a2U]
                         rfl
                        refine a4Q (i:=6) (N:=some 95) (v:=?_) (a':=?_) #[true,true,true,true,true,true,true,false,false,false,false,false] rfl rfl (a2G HT_.out HW_.out qG0) (fun _ _ _ h =>h) (Or.inl ⟨by rfl,?_⟩) hHeld ?_ ?_;rotate_left
                        ·rintro w' ⟨s0,s1,s2,s3,s4⟩;go_simp
                         with_reducible rfl
                        rotate_left
                        ·simp only [Act.put,zK0,zP0,zQ0,a2Q,a2U]
                         rfl
                        refine pz_ 7 (some 96) HT_.out rfl rfl (fun _ _ _ h =>h) (h:=?_);refine a4Q (i:=8) (N:=some 97) (v:=?_) (a':=?_) #[true,true,true,true,true,true,true,true,true,false,false,false] rfl rfl (a2G HT_.out HW_.out qG0) (fun _ _ _ h =>h) (Or.inl ⟨by rfl,?_⟩) hHeld ?_ ?_;rotate_left
                        ·rintro w' ⟨s0,s1,s2,s3,s4⟩;go_simp
                         with_reducible rfl
                        rotate_left
                        ·simp only [Act.put,zK0,zP0,zQ0,a2Q,a2U]
                         rfl
                        refine one_ (i:=9) (N:=some 98) #[true,true,true,true,true,true,true,true,true,true,false,false] rfl rfl (a6J HT_.out qG0) qF0 (fun K hK =>?_);refine a9D Tryz.func11 qG0 rfl #[.agg #[.string ((a0W aG (rd t479 aY)).f0),.slice gO ((a0W aG (rd t479 aY)).f1).length gP,.slice gQ ((a0W aG (rd t479 aY)).f2).length gR]] (by rfl) rfl rfl qC0 ?_
                        with_reducible refine (effects_Own.calls ((a0W aG (rd t479 aY)).f0) _ _ ((a0W aG (rd t479 aY)).f1) _ _ ((a0W aG (rd t479 aY)).f2) t484 _ ?side1 ?side2 ?side3 ?side4 A63.out).mono ?_
                        (case side1 =>repeat (first | exact (Kd.a0H gH.out HB.out) | (with_reducible refine Kd.a1A ?_ _) | (with_reducible refine Kd.a0Z ?_ _) | (with_reducible refine Kd.a1E ?_)))
                        (case side2 =>exact iD.out)
                        (case side3 =>repeat (first | exact (Kd.a0H gI.out HB.out) | (with_reducible refine Kd.a1A ?_ _) | (with_reducible refine Kd.a0Z ?_ _) | (with_reducible refine Kd.a1E ?_)))
                        (case side4 =>exact iE.out)
                        rintro e w67 ⟨v485,rfl,ho0,hb⟩;have HS1_:=(hb.cell (zN0 _ _ (hHeld.2.1))).trans (hHeld.2.1);refine ⟨_,rfl,?_⟩;have bQ:=a0B.mk (Kd.a3E qR0 (Kd.a3I ho0) hb);have bR:=a0B.mk (Kd.a3E qS0 (Kd.a3I ho0) hb);have bS:=a0B.mk (Kd.a6V qI1 (Kd.a3I ho0) hb);have bT:=a0B.mk (Kd.a3V (by (with_reducible repeat (first | apply Kd.a1C | apply Kd.a1B | apply Kd.a1G));exact cZ.out) hb);have cV:=a0B.mk (Kd.a2R (Kd.b2P ho0 (Kd.R_lt qI1)) (a0T qI0));have cW:=a0B.mk (a0R (g:=aJ) (o:=.cells #[.slice (some ad464) aG.length aQ] 24 (0,0)) qK0 hb);have cX:=a0B.mk (Kd.a0H qJ0 hb);have gA:=a0B.mk (Kd.a0H qQ0 hb);have gK:=a0B.mk (a0L qI0 hb);clear aH;clear aI;clear bW;clear cZ;clear aD;clear aC;clear aE;clear HB;have aH:=bQ;have aI:=bR;have bW:=bS;have cZ:=bT;have HO486:=cV;have aD:=cW;have aC:=cX;have aE:=gA;have HB:=gK;clear bQ bR bS bT cV cW cX gA gK
                        (try clear hb)
                        (try clear hb2)
                        (try clear hk)
                        (try clear hi)
                        (try clear ho0)
                        obtain ⟨Ao68,co68,eo68⟩:=Kd.a2D bW.out
                        (first | subst eo68 | (injection eo68 with f1_ f2_ f3_;have f4_:=f1_.symm;have f5_:=f3_.symm;clear f1_ f2_ f3_;subst f4_;subst f5_))
                        obtain ⟨Ao69,co69,eo69⟩:=Kd.a2D HO486.out
                        (first | subst eo69 | (injection eo69 with f1_ f2_ f3_;have f4_:=f1_.symm;have f5_:=f3_.symm;clear f1_ f2_ f3_;subst f4_;subst f5_))
                        refine hK.out _ _ ⟨(a0M aD.out 0).trans rfl,HS1_,(a0D HB.out fE),(a0D HB.out fD),(a0D HB.out fC)⟩ (fun hHeld =>?_);clear hK K;refine a9C (a':=?_) ?_ ?_;rotate_left
                        ·show Act.put _ (some 98) _ = _;simp only [Act.put,zK0,zP0,zQ0,a2Q,a2U]
                         rfl
                        refine one_ (i:=10) (N:=some 99) #[true,true,true,true,true,true,true,true,true,true,true,false] rfl rfl (a6J HT_.out qG0) qF0 (fun K hK =>?_);refine a9D Tryz.func16 qG0 rfl #[.slice Ao68 fB.length co68,.slice Ao69 t484.length co69] (by rfl) rfl rfl qC0 ?_
                        with_reducible refine (r14_Union.calls k5 _ _ fB _ _ t484 t487 _ ?side1 ?side2 ?side3 ?side4 A64.out).mono ?_
                        (case side1 =>repeat (first | exact (Kd.a1P bW.out).2.2 | (with_reducible refine Kd.a1A ?_ _) | (with_reducible refine Kd.a0Z ?_ _) | (with_reducible refine Kd.a1E ?_)))
                        (case side2 =>exact (Kd.a1P bW.out).2.1)
                        (case side3 =>repeat (first | exact (Kd.a1P HO486.out).2.2 | (with_reducible refine Kd.a1A ?_ _) | (with_reducible refine Kd.a0Z ?_ _) | (with_reducible refine Kd.a1E ?_)))
                        (case side4 =>exact (Kd.a1P HO486.out).2.1)
                        rintro e w70 ⟨v488,rfl,ho0,hb⟩;have HS1_:=(hb.cell (zN0 _ _ (hHeld.2.1))).trans (hHeld.2.1);refine ⟨_,rfl,?_⟩;have bQ:=a0B.mk (Kd.a3E qR0 (Kd.a3I ho0) hb);have bR:=a0B.mk (Kd.a3E qS0 (Kd.a3I ho0) hb);have bS:=a0B.mk (Kd.a6V qI1 (Kd.a3I ho0) hb);have bT:=a0B.mk (Kd.a3V (by (with_reducible repeat (first | apply Kd.a1C | apply Kd.a1B | apply Kd.a1G));exact cZ.out) hb);have cV:=a0B.mk (Kd.a6V (by (with_reducible repeat (first | apply Kd.a1C | apply Kd.a1B | apply Kd.a1G));exact HO486.out) (Kd.a3I ho0) hb);have cW:=a0B.mk (Kd.a2R (Kd.b2P (Kd.b2P ho0 (Kd.R_lt qI1)) (Kd.R_lt (by (with_reducible repeat (first | apply Kd.a1C | apply Kd.a1B | apply Kd.a1G));exact HO486.out))) (a0T qI0));have cX:=a0B.mk (a0R (g:=aJ) (o:=.cells #[.slice (some ad464) aG.length aQ] 24 (0,0)) qK0 hb);have gA:=a0B.mk (Kd.a0H qJ0 hb);have gK:=a0B.mk (Kd.a0H qQ0 hb);have iM:=a0B.mk (a0L qI0 hb);clear aH;clear aI;clear bW;clear cZ;clear HO486;clear aD;clear aC;clear aE;clear HB;have aH:=bQ;have aI:=bR;have bW:=bS;have cZ:=bT;have HO486:=cV;have HO489:=cW;have aD:=cX;have aC:=gA;have aE:=gK;have HB:=iM;clear bQ bR bS bT cV cW cX gA gK iM
                        (try clear hb)
                        (try clear hb2)
                        (try clear hk)
                        (try clear hi)
                        (try clear ho0)
                        refine hK.out _ _ ⟨(a0M aD.out 0).trans rfl,HS1_,(a0D HB.out fE),(a0D HB.out fD),(a0D HB.out fC)⟩ (fun hHeld =>?_);clear hK K;refine a9C (a':=?_) ?_ ?_;rotate_left
                        ·show Act.put _ (some 99) _ = _;simp only [Act.put,zK0,zP0,zQ0,a2Q,a2U]
                         rfl
                        refine pz_ 11 (some 7) HT_.out rfl rfl (fun _ _ _ h =>h) (h:=?_);refine b5L (a7K HT_.out qG0) ?_
                        try go_wp2
                        go_roundg k5
                        case measure =>have:=HJ1.out;have:=HJ15.out;have:=HK3.out;have:=HK4.out;have:=HK5.out;omega
                        case rel =>exact ⟨(t487),(wrap64 (aY + 1)),qE0,H',⟨by have:=HJ1.out;have:=HJ15.out;have:=HK3.out;have:=HK4.out;have:=HK5.out;omega⟩,⟨by (with_reducible repeat (first | apply Kd.a1O | apply Kd.a1N | apply Kd.a1S));exact Kd.a2Z aH.out (fun _ hk =>⟨hk.1.1.1,⟨hk.2,⟨hk.1.1.2.2.1,hk.1.1.2.2.2⟩⟩⟩)⟩,⟨by (with_reducible repeat (first | apply Kd.a1O | apply Kd.a1N | apply Kd.a1S));exact Kd.a2Z aI.out (fun _ hk =>⟨hk.1.1.1,⟨hk.2,⟨hk.1.1.2.2.1,hk.1.1.2.2.2⟩⟩⟩)⟩,⟨by (with_reducible repeat (first | apply Kd.a1C | apply Kd.a1B | apply Kd.a1G));exact Kd.a2Y HO489.out (fun _ hk =>trivial)⟩,⟨by (with_reducible repeat (first | apply Kd.a1C | apply Kd.a1B | apply Kd.a1G));exact cZ.out⟩,⟨by (with_reducible repeat (first | refine a0N ?_ _ | refine a0S ?_ | refine a0K ?_ _));exact aD.out⟩,⟨by repeat (first | (with_reducible exact aC.out) | (with_reducible refine Kd.a1A ?_ _) | (with_reducible refine Kd.a0Z ?_ _) | (with_reducible refine Kd.a1E ?_) | exact aC.out)⟩,⟨by repeat (first | (with_reducible exact aE.out) | (with_reducible refine Kd.a1A ?_ _) | (with_reducible refine Kd.a0Z ?_ _) | (with_reducible refine Kd.a1E ?_) | exact aE.out)⟩,⟨by repeat (first | (with_reducible first | exact HB.out | apply a0C | apply a0A | apply a0E | refine a0G ?_ aK.out) | exact HB.out)⟩⟩
                       ·rw [if_neg c62] at H;exact absurd H qH0
                      ·rw [if_neg c61] at H;exact absurd H qH0
                     ·rw [if_neg c60] at H;exact absurd H qH0
                    ·rw [if_neg c59] at H;have c59b0:decide (aY < (t479.length:Int)) = false:=zM0 c59;clear c59;by_cases c71:0≤aA
                     ·rw [if_pos c71] at H;have c71b0:decide (0≤aA) = true:=zC0 c71;clear c71;by_cases c72:aA < (t457.length:Int)
                      ·rw [if_pos c72] at H;have c72b0:decide (aA < (t457.length:Int)) = true:=zC0 c72;clear c72;obtain ⟨t491,A73,H⟩:=ob_ H;by_cases c74:t491 = true
                       ·subst c74;rw [if_pos rfl] at H;have H':=a0B.mk H;clear H;obtain ⟨Ao75,co75,eo75⟩:=Kd.a2D cZ.out;subst eo75;have p490:0≤(aA:Int):=zB0 qA0;have q490:aA < (t457.length:Int):=zB0 qA0;obtain ⟨ad490,fR,fS,e490,iF,iG,fF,dW,dX⟩:=a6Z (Kd.a1T aH.out).2.2 aA p490 q490;obtain rfl:ad468 = ad490:=(by injection e490);obtain ⟨ce490,fT,fU,eU⟩:=Kd.a9J aH.out z42 aA p490 (by first | exact q490 | exact zB0 qA0 | (have e_:=(Kd.a1T aH.out).1;omega));obtain ⟨iH,iI,rfl,cQ,cR⟩:=a5C fU;have bP:=eU 2 _ rfl;rw [a1K _ _ 2 qD0] at bP;replace bP:=zD0 (bP.symm.trans fF);injection bP with hva_ hvn_ hvc_
                        rw [hva_] at cR;rw [hvc_] at cQ;have iJ:=a0B.mk (show Kd.V Kd.string 9 _ w.heap.size _ _ ((a1Q t457 aA).f2) from Kd.V_mk cQ cR);clear hva_ hvn_ hvc_ cR cQ;clear eU fT;have dY:=a0B.mk dX;have fG:=a0B.mk dW;clear dX dW;replace p490:=eq_true p490;replace q490:=eq_true q490;obtain ⟨Ao76,co76,eo76⟩:=Kd.a2D bW.out;subst eo76;go_wp2_with (first | ((with_reducible refine a0X (f:=10) rfl ?_);refine a1X (some 106) rfl rfl Tryz.func10 qG0 rfl #[.slice Ao76 fB.length co76,.slice fR ((a1Q t457 aA).f2).length fS] rfl qC0 ?_;(with_reducible refine (r14_Texts.calls k5 _ _ fB _ _ ((a1Q t457 aA).f2) true _ ?side1 ?side2 ?side3 ?side4 A73.out).mono ?_);(case side1 =>repeat (first | exact (Kd.a1P bW.out).2.2 | (with_reducible refine Kd.a1A ?_ _) | (with_reducible refine Kd.a0Z ?_ _) | (with_reducible refine Kd.a1E ?_)));(case side2 =>exact (Kd.a1P bW.out).2.1);(case side3 =>repeat (first | exact (by repeat (first | (with_reducible exact dY.out) | (with_reducible refine Kd.a1A ?_ _) | (with_reducible refine Kd.a0Z ?_ _) | (with_reducible refine Kd.a1E ?_) | exact dY.out)) | (with_reducible refine Kd.a1A ?_ _) | (with_reducible refine Kd.a0Z ?_ _) | (with_reducible refine Kd.a1E ?_)));(case side4 =>exact fG.out);rintro e w' ⟨rfl,⟨nd,rfl⟩⟩;refine ⟨_,rfl,?_⟩));go_roundg k5
                        case measure =>have:=HJ1.out;have:=HJ15.out;have:=HK3.out;have:=HK4.out;have:=HK5.out;omega
                        case rel =>exact ⟨(wrap64 (aA + 1)),qE0,H',⟨by have:=HJ1.out;have:=HJ15.out;have:=HK3.out;have:=HK4.out;have:=HK5.out;omega⟩,⟨by (with_reducible repeat (first | apply Kd.a1O | apply Kd.a1N | apply Kd.a1S));exact Kd.a2Z aH.out (fun _ hk =>⟨hk.1,hk.2.2.2⟩)⟩,⟨by (with_reducible repeat (first | apply Kd.a1O | apply Kd.a1N | apply Kd.a1S));exact Kd.a2Z aI.out (fun _ hk =>⟨hk.1,hk.2.2.2⟩)⟩,⟨by (with_reducible repeat (first | refine a0N ?_ _ | refine a0S ?_ | refine a0K ?_ _));exact aD.out⟩,⟨by repeat (first | (with_reducible first | exact HB.out | apply a0C | apply a0A | apply a0E | refine a0G ?_ aK.out) | exact HB.out)⟩⟩
                       ·replace c74:=Bool.eq_false_iff.mpr c74;subst c74;rw [if_neg (show ¬ (false = true) by decide)] at H;obtain rfl:=zD0 H;obtain ⟨Ao77,co77,eo77⟩:=Kd.a2D cZ.out;subst eo77;have p490:0≤(aA:Int):=zB0 qA0;have q490:aA < (t457.length:Int):=zB0 qA0;obtain ⟨ad490,fR,fS,e490,iF,iG,fF,dW,dX⟩:=a6Z (Kd.a1T aH.out).2.2 aA p490 q490;obtain rfl:ad468 = ad490:=(by injection e490);obtain ⟨ce490,fT,fU,eU⟩:=Kd.a9J aH.out z42 aA p490 (by first | exact q490 | exact zB0 qA0 | (have e_:=(Kd.a1T aH.out).1;omega));obtain ⟨iH,iI,rfl,cQ,cR⟩:=a5C fU;have bP:=eU 2 _ rfl;rw [a1K _ _ 2 qD0] at bP;replace bP:=zD0 (bP.symm.trans fF);injection bP with hva_ hvn_ hvc_
                        rw [hva_] at cR;rw [hvc_] at cQ;have iJ:=a0B.mk (show Kd.V Kd.string 9 _ w.heap.size _ _ ((a1Q t457 aA).f2) from Kd.V_mk cQ cR);clear hva_ hvn_ hvc_ cR cQ;clear eU fT;have dY:=a0B.mk dX;have fG:=a0B.mk dW;clear dX dW;replace p490:=eq_true p490;replace q490:=eq_true q490;obtain ⟨Ao78,co78,eo78⟩:=Kd.a2D bW.out;subst eo78;go_wp2_with (first | ((with_reducible refine a0X (f:=10) rfl ?_);refine a1X (some 106) rfl rfl Tryz.func10 qG0 rfl #[.slice Ao78 fB.length co78,.slice fR ((a1Q t457 aA).f2).length fS] rfl qC0 ?_;(with_reducible refine (r14_Texts.calls k5 _ _ fB _ _ ((a1Q t457 aA).f2) false _ ?side1 ?side2 ?side3 ?side4 A73.out).mono ?_);(case side1 =>repeat (first | exact (Kd.a1P bW.out).2.2 | (with_reducible refine Kd.a1A ?_ _) | (with_reducible refine Kd.a0Z ?_ _) | (with_reducible refine Kd.a1E ?_)));(case side2 =>exact (Kd.a1P bW.out).2.1);(case side3 =>repeat (first | exact (by repeat (first | (with_reducible exact dY.out) | (with_reducible refine Kd.a1A ?_ _) | (with_reducible refine Kd.a0Z ?_ _) | (with_reducible refine Kd.a1E ?_) | exact dY.out)) | (with_reducible refine Kd.a1A ?_ _) | (with_reducible refine Kd.a0Z ?_ _) | (with_reducible refine Kd.a1E ?_)));(case side4 =>exact fG.out);rintro e w' ⟨rfl,⟨nd,rfl⟩⟩;refine ⟨_,rfl,?_⟩));go_ret;exact qR2
                      ·rw [if_neg c72] at H;exact absurd H qH0
                     ·rw [if_neg c71] at H;exact absurd H qH0
                ·rw [if_neg c40] at H;exact absurd H qH0
               ·rw [if_neg c39] at H;exact absurd H qH0
            ·replace c33:=Bool.eq_false_iff.mpr c33;subst c33;rw [if_neg (show ¬ (false = true) by decide)] at H;obtain rfl:=zD0 H;obtain ⟨Ao79,co79,eo79⟩:=Kd.a3L aH.out;subst eo79
             try go_wp2
             have bQ:=a0B.mk (Kd.a1S aH.out);have bR:=a0B.mk (Kd.a1S aI.out);have bS:=a0B.mk (a0S aD.out);have bT:=a0B.mk (a0E HB.out);clear aH;clear aI;clear aD;clear HB;have aH:=bQ;have aI:=bR;have aD:=bS;have HB:=bT;clear bQ bR bS bT;have p464:0≤(aA:Int):=zB0 qA0;have q464:aA < (aG.length:Int):=zB0 qA0;obtain ⟨ad464,eE,eG,eH,eI,e464,bE,bF,bG,dA,dB,dC,dD⟩:=a5U eD.out aA p464 q464;have bX:=bG;have bY:=bF;have bZ:=bE;cases e464;replace bE:=a0D HB.out bE;replace bF:=a0D HB.out bF;replace bG:=a0D HB.out bG;have dE:=a0B.mk dB;have eW:=a0B.mk dA;clear dB dA;have dF:=a0B.mk dD;have eX:=a0B.mk dC;clear dD dC;replace p464:=eq_true p464;replace q464:=eq_true q464;have p468:0≤(aA:Int):=zB0 qA0;have q468:aA < (t457.length:Int):=zB0 qA0;obtain ⟨ad468,cY,eJ,e468,dG,dH,cA,dI,dJ⟩:=a6Z (Kd.a1T aH.out).2.2 aA p468 q468;cases e468;obtain ⟨ce468,fH,fI,eK⟩:=Kd.a9J aH.out z42 aA p468 (by first | exact q468 | exact zB0 qA0 | (have e_:=(Kd.a1T aH.out).1;omega));obtain ⟨gU,gV,rfl,cB,cC⟩:=a5C fI;have bH:=eK 2 _ rfl;rw [a1K _ _ 2 qD0] at bH;replace bH:=zD0 (bH.symm.trans cA);injection bH with hva_ hvn_ hvc_
             rw [hva_] at cC;rw [hvc_] at cB;have aT:=a0B.mk (show Kd.V Kd.string 9 _ w.heap.size _ _ ((a1Q t457 aA).f2) from Kd.V_mk cB cC);clear hva_ hvn_ hvc_ cC cB;clear eK fH;have aC:=a0B.mk dJ;have eY:=a0B.mk dI;clear dJ dI;replace p468:=eq_true p468;replace q468:=eq_true q468;refine a9O (n:=13) (S:=fun w' =>w'.cell? ⟨aJ,0,none⟩ = some (.slice (some ad464) aG.length aQ)∧w'.cell? (ad464.add ((aA).toNat * 3)) = some (.string ((a0W aG aA).f0))∧w'.cell? ⟨(ad464.add ((aA).toNat * 3)).block,(ad464.add ((aA).toNat * 3)).off + 1,none⟩ = some (.slice eE ((a0W aG aA).f1).length eG)∧w'.cell? ⟨(ad464.add ((aA).toNat * 3)).block,(ad464.add ((aA).toNat * 3)).off + 2,none⟩ = some (.slice eH ((a0W aG aA).f2).length eI)∧w'.cell? (ad468.add ((aA).toNat * 3)) = some (.string ((a1Q t457 aA).f0))∧w'.cell? ⟨(ad468.add ((aA).toNat * 3)).block,(ad468.add ((aA).toNat * 3)).off + 1,none⟩ = some (.int .i64 ((a1Q t457 aA).f1))∧w'.cell? ⟨(ad468.add ((aA).toNat * 3)).block,(ad468.add ((aA).toNat * 3)).off + 2,none⟩ = some (.slice cY ((a1Q t457 aA).f2).length eJ)) (ds:=[]) #[false,false,false,false,false,false,false,false,false,false,false,false,false] qG0 rfl rfl ⟨(a0M aD.out 0).trans rfl,(a0D HB.out bZ),(a0D HB.out bY),(a0D HB.out bX),dG,dH,cA⟩ (fun hHeld =>?_);refine a4Z w14_EffectsLeast.tab10 w14_EffectsLeast.bits10 (fun HT_ HW_ =>?_);generalize wr.drew = w80 at aH aI aD HB aT dE dF aC bE bF bG dG dH cA hHeld ⊢;refine pz_ 0 (some 39) HT_.out rfl rfl (fun _ _ _ h =>h) (h:=?_);refine pz_ 2 (some 41) HT_.out rfl rfl (fun _ _ _ h =>h) (h:=?_);refine pz_ 6 (some 45) HT_.out rfl rfl (fun _ _ _ h =>h) (h:=?_);refine pz_ 7 (some 46) HT_.out rfl rfl (fun _ _ _ h =>h) (h:=?_);refine pz_ 8 (some 47) HT_.out rfl rfl (fun _ _ _ h =>h) (h:=?_);refine pz_ 9 (some 48) HT_.out rfl rfl (fun _ _ _ h =>h) (h:=?_);refine a4Q (i:=1) (N:=some 40) (v:=?_) (a':=?_) #[true,true,true,false,false,false,true,true,true,true,false,false,false] rfl rfl (a2G HT_.out HW_.out qG0) (fun _ _ _ h =>h) (Or.inl ⟨by rfl,?_⟩) hHeld ?_ ?_;rotate_left
             ·rintro w' ⟨s0,s1,s2,s3,s4,s5,s6⟩;go_simp
              with_reducible rfl
             rotate_left
             ·simp only [Act.put,zK0,zP0,zQ0,a2Q,a2U]
              rfl
             refine pz_ 3 (some 42) HT_.out rfl rfl (fun _ _ _ h =>h) (h:=?_);refine a4Q (i:=4) (N:=some 43) (v:=?_) (a':=?_) #[true,true,true,true,true,false,true,true,true,true,false,false,false] rfl rfl (a2G HT_.out HW_.out qG0) (fun _ _ _ h =>h) (Or.inl ⟨by rfl,?_⟩) hHeld ?_ ?_;rotate_left
             ·rintro w' ⟨s0,s1,s2,s3,s4,s5,s6⟩;go_simp
              with_reducible rfl
             rotate_left
             ·simp only [Act.put,zK0,zP0,zQ0,a2Q,a2U]
              rfl
             refine a4Q (i:=10) (N:=some 49) (v:=?_) (a':=?_) #[true,true,true,true,true,false,true,true,true,true,true,false,false] rfl rfl (a2G HT_.out HW_.out qG0) (fun _ _ _ h =>h) (Or.inl ⟨by rfl,?_⟩) hHeld ?_ ?_;rotate_left
             ·rintro w' ⟨s0,s1,s2,s3,s4,s5,s6⟩;go_simp
              with_reducible rfl
             rotate_left
             ·simp only [Act.put,zK0,zP0,zQ0,a2Q,a2U]
              rfl
             refine one_ (i:=5) (N:=some 44) #[true,true,true,true,true,true,true,true,true,true,true,false,false] rfl rfl (a6J HT_.out qG0) qF0 (fun K hK =>?_);refine a9D Tryz.func11 qG0 rfl #[.agg #[.string ((a0W aG aA).f0),.slice eE ((a0W aG aA).f1).length eG,.slice eH ((a0W aG aA).f2).length eI]] (by rfl) rfl rfl qC0 ?_
             with_reducible refine (effects_Own.calls ((a0W aG aA).f0) _ _ ((a0W aG aA).f1) _ _ ((a0W aG aA).f2) t465 _ ?side1 ?side2 ?side3 ?side4 A31.out).mono ?_
             (case side1 =>repeat (first | exact (Kd.a0H dE.out HB.out) | (with_reducible refine Kd.a1A ?_ _) | (with_reducible refine Kd.a0Z ?_ _) | (with_reducible refine Kd.a1E ?_)))
             (case side2 =>exact eW.out)
             (case side3 =>repeat (first | exact (Kd.a0H dF.out HB.out) | (with_reducible refine Kd.a1A ?_ _) | (with_reducible refine Kd.a0Z ?_ _) | (with_reducible refine Kd.a1E ?_)))
             (case side4 =>exact eX.out)
             rintro e w81 ⟨v466,rfl,ho0,hb⟩;have HS4_:=(hb.cell (zN0 _ _ (hHeld.2.2.2.2.1))).trans (hHeld.2.2.2.2.1);have HS5_:=(hb.cell (zN0 _ _ (hHeld.2.2.2.2.2.1))).trans (hHeld.2.2.2.2.2.1);have HS6_:=(hb.cell (zN0 _ _ (hHeld.2.2.2.2.2.2))).trans (hHeld.2.2.2.2.2.2);refine ⟨_,rfl,?_⟩;have bQ:=a0B.mk (Kd.a3E qR0 (Kd.a3I ho0) hb);have bR:=a0B.mk (Kd.a3E qS0 (Kd.a3I ho0) hb);have bS:=a0B.mk (Kd.a2B qA1 (Kd.a3I ho0) hb);have bT:=a0B.mk (Kd.a2R ho0 (a0T qI0));have cV:=a0B.mk (a0R (g:=aJ) (o:=.cells #[.slice (some ad464) aG.length aQ] 24 (0,0)) qK0 hb);have cW:=a0B.mk (Kd.a0H qJ0 hb);have cX:=a0B.mk (a0L qI0 hb);clear aH;clear aI;clear aT;clear aD;clear aC;clear HB;have aH:=bQ;have aI:=bR;have aT:=bS;have HO467:=bT;have aD:=cV;have aC:=cW;have HB:=cX;clear bQ bR bS bT cV cW cX
             (try clear hb)
             (try clear hb2)
             (try clear hk)
             (try clear hi)
             (try clear ho0)
             obtain ⟨Ao82,co82,eo82⟩:=Kd.a2D HO467.out
             (first | subst eo82 | (injection eo82 with f1_ f2_ f3_;have f4_:=f1_.symm;have f5_:=f3_.symm;clear f1_ f2_ f3_;subst f4_;subst f5_))
             refine hK.out _ _ ⟨(a0M aD.out 0).trans rfl,(a0D HB.out bZ),(a0D HB.out bY),(a0D HB.out bX),HS4_,HS5_,HS6_⟩ (fun hHeld =>?_);clear hK K;refine a9C (a':=?_) ?_ ?_;rotate_left
             ·show Act.put _ (some 44) _ = _;simp only [Act.put,zK0,zP0,zQ0,a2Q,a2U]
              rfl
             refine one_ (i:=11) (N:=some 50) #[true,true,true,true,true,true,true,true,true,true,true,true,false] rfl rfl (a6J HT_.out qG0) qF0 (fun K hK =>?_);refine a9D Tryz.func20 qG0 rfl #[.slice Ao82 t465.length co82,.slice cY ((a1Q t457 aA).f2).length eJ] (by rfl) rfl rfl qC0 ?_
             with_reducible refine (w14_within.calls k3 _ _ t465 _ _ ((a1Q t457 aA).f2) false _ ?side1 ?side2 ?side3 ?side4 A32.out).mono ?_
             (case side1 =>repeat (first | exact (Kd.a1P HO467.out).2.2 | (with_reducible refine Kd.a1A ?_ _) | (with_reducible refine Kd.a0Z ?_ _) | (with_reducible refine Kd.a1E ?_)))
             (case side2 =>exact (Kd.a1P HO467.out).2.1)
             (case side3 =>repeat (first | exact qJ0 | (with_reducible refine Kd.a1A ?_ _) | (with_reducible refine Kd.a0Z ?_ _) | (with_reducible refine Kd.a1E ?_)))
             (case side4 =>exact eY.out)
             rintro e w83 ⟨rfl,hb⟩;have HS4_:=(hb.cell (zN0 _ _ (hHeld.2.2.2.2.1))).trans (hHeld.2.2.2.2.1);have HS5_:=(hb.cell (zN0 _ _ (hHeld.2.2.2.2.2.1))).trans (hHeld.2.2.2.2.2.1);have HS6_:=(hb.cell (zN0 _ _ (hHeld.2.2.2.2.2.2))).trans (hHeld.2.2.2.2.2.2);refine ⟨_,rfl,?_⟩;have bQ:=a0B.mk (Kd.a1Y qR0 hb);have bR:=a0B.mk (Kd.a1Y qS0 hb);have bS:=a0B.mk (Kd.a6B qA1 hb);have bT:=a0B.mk (Kd.a3V (by (with_reducible repeat (first | apply Kd.a1C | apply Kd.a1B | apply Kd.a1G));exact HO467.out) hb);have cV:=a0B.mk (a0R (g:=aJ) (o:=.cells #[.slice (some ad464) aG.length aQ] 24 (0,0)) qK0 hb);have cW:=a0B.mk (Kd.a0H qJ0 hb);have cX:=a0B.mk (a0L qI0 hb);clear aH;clear aI;clear aT;clear HO467;clear aD;clear aC;clear HB;have aH:=bQ;have aI:=bR;have aT:=bS;have HO467:=bT;have aD:=cV;have aC:=cW;have HB:=cX;clear bQ bR bS bT cV cW cX
             (try clear hb)
             (try clear hb2)
             (try clear hk)
             (try clear hi)
             refine hK.out _ _ ⟨(a0M aD.out 0).trans rfl,(a0D HB.out bZ),(a0D HB.out bY),(a0D HB.out bX),HS4_,HS5_,HS6_⟩ (fun hHeld =>?_);clear hK K;refine a9C (a':=?_) ?_ ?_;rotate_left
             ·show Act.put _ (some 50) _ = _;simp only [Act.put,zK0,zP0,zQ0,a2Q,a2U]
              rfl
             refine pz_ 12 (some 51) HT_.out rfl rfl (fun _ _ _ h =>h) (h:=?_);refine b5L (a7K HT_.out qG0) ?_
             try go_wp2
             go_ret;exact qR2
           ·rw [if_neg c30] at H;exact absurd H qH0
          ·rw [if_neg c29] at H;exact absurd H qH0
         ·rw [if_neg c28] at H;have c28b0:decide (aA < (t457.length:Int)) = false:=zM0 c28;clear c28;obtain rfl:=zD0 H;obtain ⟨Ao84,co84,eo84⟩:=Kd.a3L aH.out;subst eo84;go_wp2;go_ret;exact qR2
end Go.Proofs.YthhgfncliffggaaGreat.Pr
namespace Go.Proofs.YthhgfncliffggaaGreat.Man
open Go.RowKit Go.Proofs.YthhgfncliffggaaGreat.Pr Go.Proofs.YthhgfncliffggaaGreatW.PrintWords Go.Proofs.YthhgfncliffggaaGreat.Tarj
theorem b7F (a b:List ByteArray) (ha:a.length≤1050000) (hb:b.length≤1050000) (h:∀ x,x ∈ a→x ∈ b):Ev (fun k =>w14_within.f k a b) true:=by
 unfold w14_within.f;refine Ev.bind (b1A a b qD0 qD0) ?_;refine Ev.bind (b1A b [] qD0 qH0) ?_
 have e:unionF b [] = unionF a b:=(a3N _ _).ext (a3N _ _) (fun x =>by
  rw [a5A,a5A]
  exact ⟨fun h' =>h'.elim .inr (fun h' =>by cases h'),fun h' =>.inl (h'.elim (h x) id)⟩)
 rw [e];exact Ev.bind (c0F _ (zF0 (c0B a b) qD0)) (Ev.const true)
theorem b9O {fs:List S34} (hn:fs.length≤1000) {i:Nat} (hi:i < fs.length) {y:Int} (h:y ∈ (callsF fs).getD i []):∃ z:Nat,y = (z:Int)∧z < fs.length∧Rch (adjF (callsF fs)) i z:=by
 have hb:=b3L (a8T hn) i (by rw [a4I];exact hi) y h;rw [a4I] at hb;exact ⟨y.toNat,by omega,by omega,.one (List.mem_map.2 ⟨y,h,rfl⟩)⟩
theorem b9H (fs:List S34) (hl:LowP fs):Ev (fun k =>w14_EffectsLeast.f k fs) true:=by
 have fx:Ev (fun k =>w14_EffectsLeast.j0 k true fs) true:=by
  refine Ev.step ?_;simp only [w14_EffectsLeast.j0,if_true,c2Y,zL0];exact Ev.const true
 obtain ⟨t,ht,htot⟩:=big14 fs hl;unfold w14_EffectsLeast.f;refine Ev.bind ht ?_;cases t with
 | true =>simp only [if_true];exact fx
 | false =>
 have htot:=htot rfl;simp only [Bool.false_eq_true,if_false];by_cases hn:(fs.length:Int) > 60
 ·rw [zC0 hn];exact fx
 rw [zM0 hn];have ln:fs.length≤60:=by omega
 have hs:SmG fs:=smG_of hl qD0 qD0;have hn1:=hs.n;have hsl:=c0M fs;have hsm:=c3K fs hn1;have hgl:=a4I fs;have hc:=c1J fs hl;rw [← b1M] at hc;refine Ev.step ?_;simp only [w14_EffectsLeast.j0,Bool.false_eq_true,if_false,sigs_val hs,zL0];refine Ev.bind hc ?_;simp only [c2Y,zL0,if_true,show (((sigsF fs).length:Int) != (fs.length:Int)) = false by rw [hsl];simp];refine Ev.step ?_;simp only [w14_EffectsLeast.j1,Bool.false_eq_true,if_false]
 suffices h:∀ m i:Nat,i + m = fs.length→Ev (fun k =>w14_EffectsLeast.l0 k (sigsF fs) (callsF fs) (i:Int) fs) true from h fs.length 0 qD0
 intro m
 induction m with
 | zero =>
  intro i hi;have hnl:¬ ((i:Int) < ((sigsF fs).length:Int)):=by rw [hsl,show i = fs.length from hi];exact zN1 _
  refine Ev.step ?_;simp only [w14_EffectsLeast.l0,if_neg hnl];exact Ev.const true
 | succ m ih =>
  intro i hi;have hil:i < fs.length:=by omega
  have c1:(0:Int)≤(i:Int):=zJ0 i;have c2:(i:Int) < (fs.length:Int):=zC1.2 hil;have c3:(i:Int) < ((sigsF fs).length:Int):=by rw [hsl];exact c2
  have c4:(i:Int) < ((callsF fs).length:Int):=by rw [hgl];exact c2
  have hw:=pz14 i qD0;have hmem:=b3D hil;have e:=ih (i + 1) qD0;have hli:=c0P hs hil;have hri:=c0O hil;refine Ev.step ?_;simp only [w14_EffectsLeast.l0,if_pos c1,if_pos c2,if_pos c3,c1P _ (hs.b _ hmem),zL0];refine Ev.bind (b7F _ _ (b7S hs hil) hli (fun x hx =>by rw [hri];exact (a8W hn1 hil).2 ⟨i,hil,.refl _,hx⟩)) ?_;simp only [if_true];have hrow:a0U (callsF fs) (i:Int) = (callsF fs).getD i []:=rdLg _ _;have hrl:=hsm.2 i
  suffices h:∀ q j:Nat,j + q = ((callsF fs).getD i []).length→Ev (fun k =>w14_EffectsLeast.l1 k (sigsF fs) (callsF fs) (i:Int) (j:Int) fs) true from h ((callsF fs).getD i []).length 0 (Nat.zero_add _)
  intro q
  induction q with
  | zero =>
   intro j hj;have hnl:¬ ((j:Int) < (((callsF fs).getD i []).length:Int)):=by omega
   refine Ev.step ?_;simp only [w14_EffectsLeast.l1,if_pos c1,if_pos c4,hrow,if_neg hnl];have hev:Ev (fun k =>r12_Reach.f k (callsF fs) (i:Int)) (reachL (callsF fs) i):=by
    rw [← reach_is hn1 hil];exact c0W _ hsm _
   refine Ev.bind hev ?_;have hR:∀ y,y ∈ reachL (callsF fs) i→∃ z:Nat,y = (z:Int)∧z < fs.length:=fun y hy =>by
    obtain ⟨z,h1,h2,_⟩:=b2C hy;rw [hgl] at h2;exact ⟨z,h1,h2⟩
   have hRo:=c1E hn1 hil;have hRl:(reachL (callsF fs) i).length≤1000:=zF0 (b9A _ i) (by rw [hgl];exact hn1);generalize reachL (callsF fs) i = R at hR hRo hRl
   suffices h:∀ q j:Nat,j + q = R.length→Ev (fun k =>w14_EffectsLeast.l2 k (sigsF fs) (callsF fs) (i:Int) (capB ((R.take j).flatMap (ownI fs))) R (j:Int) fs) true by
    have:=h R.length 0 qD0;rw [List.take_zero,List.flatMap_nil,capB_nil] at this;exact this
   intro q
   induction q with
   | zero =>
    intro j hj;have hnl:¬ ((j:Int) < (R.length:Int)):=by omega
    refine Ev.step ?_;simp only [w14_EffectsLeast.l2,if_neg hnl,if_pos c1,if_pos c3,hw];rw [show j = R.length by omega,List.take_length,hRo,← hri];refine Ev.bind (c0F _ qD0) ?_;simp only [if_true];exact e
   | succ q ihq =>
    intro j hj;have hjl:j < R.length:=by omega
    have d1:(0:Int)≤(j:Int):=zJ0 j;have d2:(j:Int) < (R.length:Int):=zC1.2 hjl;obtain ⟨z,hz,hzl⟩:=hR _ (b7P R j hjl);have d3:(0:Int)≤rd R (j:Int):=by omega
    have d4:rd R (j:Int) < (fs.length:Int):=by omega
    have hwj:=pz14 j qD0;have e2:=ihq (j + 1) qD0;rw [rdI_take R j hjl,List.flatMap_append,List.flatMap_cons,List.flatMap_nil,List.append_nil,← c0C] at e2;have hcl:=capI_len hs (R.take j) (fun y hy =>hR y (List.mem_of_mem_take hy));have hol:=b7S hs hzl;have hov:=c1P _ (hs.b _ (b3D hzl));rw [← hz] at hol hov;refine Ev.step ?_;simp only [w14_EffectsLeast.l2,if_pos d1,if_pos d2,if_pos d3,if_pos d4,hwj,hov,zL0];exact Ev.bind (b1A _ _ qD0 (zF0 hol qD0)) e2
  | succ q ihq =>
   intro j hj;have hjl:j < ((callsF fs).getD i []).length:=by omega
   have d1:(0:Int)≤(j:Int):=zJ0 j;have d2:(j:Int) < (((callsF fs).getD i []).length:Int):=zC1.2 hjl;obtain ⟨z,hz,hzl,hzr⟩:=b9O hn1 hil (b7P _ j hjl);have d3:(0:Int)≤rd ((callsF fs).getD i []) (j:Int):=by omega
   have d4:rd ((callsF fs).getD i []) (j:Int) < ((sigsF fs).length:Int):=by rw [hsl];omega
   have hwj:=pz14 j qD0;have e2:=ihq (j + 1) qD0;refine Ev.step ?_;simp only [w14_EffectsLeast.l1,if_pos c1,if_pos c4,hrow,if_pos d1,if_pos d2,if_pos d3,if_pos d4,if_pos c3,hwj];have hlz:=c0P hs hzl;have hrz:∀ x,x ∈ (a1Q (sigsF fs) (z:Int)).f2→x ∈ (a1Q (sigsF fs) (i:Int)).f2:=fun x hx =>by
    rw [c0O hzl] at hx;rw [hri];obtain ⟨u,hu,hr,hx⟩:=(a8W hn1 hzl).1 hx;exact (a8W hn1 hil).2 ⟨u,hu,hzr.trans hr,hx⟩
   rw [← hz] at hlz hrz;refine Ev.bind (b7F _ _ hlz hli hrz) ?_;simp only [if_true];exact e2
end Go.Proofs.YthhgfncliffggaaGreat.Man
namespace Go.Proofs.YthhgfncliffggaaGreat.effectsLeast
open Go.ChangeShapes Go.WideShapes Go.ChangeAt Go.RowKit Go.Proofs.YthhgfncliffggaaGreat.Pr Go.Proofs.YthhgfncliffggaaGreatW.PrintWords
open Go.ChangeMaps (open_string shut_string)
theorem own:ownKnob Tryz.prog.godebug = none:=by kernel_rfl
theorem laidOut:laidOutB Tryz.prog = true:=by kernel_rfl
theorem lowP {l:List S34} {n:Nat} (h:Man.FitP l n) (hn:n≤2000000):Man.LowP l :=
 ⟨by have:=h.1;omega,fun f hf =>by
  obtain ⟨h1,⟨h2,h3⟩,h4⟩:=h.2 f hf
  exact ⟨by omega,by omega,by have:=Man.len_flat f.f2;omega,fun s hs =>by have:=h3 s hs;omega⟩⟩
theorem walk (A0:Option Addr) (c0:Nat) (l0:List S34) (hc0:l0.length≤c0) (w:World) (hC0:Kd.C k34 w A0 l0.length l0) (hP:Man.FitP l0 1048576) :
  Calls Tryz.prog 4 #[.agg #[.slice A0 l0.length c0]] w fun e w' =>e = .returned (.bool true)∧Below w.heap.size w w':=by
 obtain ⟨k,e⟩:=Man.b9H l0 (lowP hP qF0);exact w14_EffectsLeast.calls k A0 c0 l0 true w hC0 hc0 (e k (zH0 _))
set_option maxRecDepth 100000 in
set_option maxHeartbeats 4000000 in
theorem lifted (os:Os) (started:os.Started) (H:Type) (enc:TypeId × Value→H) (F:Stop.Interp) :
  ReturnsInHanded {} Tryz.checked os 4 .any ((Rows.OpenSpec.upto Rows.effectsLeastSpec).pre6 enc Tryz.prog Tryz.f4 Rows.effectsLeastUptoRow.domain false) (((Rows.OpenSpec.upto Rows.effectsLeastSpec).at F).post enc Tryz.prog Tryz.f4 false true false false):=by
 refine returnsInHanded_of_cond (C:=Tryz.checked) (s:=(Rows.OpenSpec.upto Rows.effectsLeastSpec)) (k:=Rows.uptoSmall) rfl own started qG0 Tryz.func4
  (OpenSpec.witness (enc:=enc) (C:=Tryz.checked) (s:=(Rows.OpenSpec.upto Rows.effectsLeastSpec)) (k:=Rows.uptoSmall) rfl false ⟨#[],#[.agg #[.slice none 0 0]],[]⟩ 8 qG0 qG0 qG0
   (x:=([.agg [.nil]],[],[])) qG0 rfl qG0) ?_
 intro W base args ds gs before hval0 hW _ hk _;have hval:∀ (j:Nat) t v,Tryz.f4.params[j]? = some t→args[j]? = some v→Value.okWide Tryz.prog W .any base t v:=hval0;have hW':=hW;obtain ⟨p,q,hA0,hV,rfl,hfz,hnd⟩:=hW;have hA:DataW.TrodAll enc Tryz.prog W 0 (fun _ =>true) true Tryz.f4.params.toList args.toList ds p:=hA0;rw [Tryz.params4] at hA hval;obtain ⟨v0,vs0,d0,ds0,p0,q0,hargs,rfl,rfl,h0,r0⟩:=trodAll_cons hA;obtain ⟨rfl,rfl,rfl⟩:=trodAll_nil r0;obtain rfl:args = #[v0]:=by cases args;simp_all
 obtain ⟨rfl,rfl⟩:=trodVars_none hV;obtain ⟨cs0,rfl,hz0⟩:=okWide_struct Tryz.underlying24 (hval 0 24 v0 rfl rfl);have k0:=h0;have lt0:∀ x ∈ p0,x.block < W.heap.size:=by obtain ⟨m,hm⟩:=k0;exact DataW.trod_lt m _ _ _ hm
 obtain ⟨fuel0,hf0⟩:=h0;have hbulk:Rows.uptoBulkAll ([d0] ++ [])≤1048576:=zB0 hk;simp only [List.append_nil,Rows.uptoBulkAll] at hbulk;obtain ⟨A0,c0,l0,hv0,hc0,hC0,hB0,hT0⟩:=Man.b6T fuel0 cs0 _ _ hf0;subst hv0;have hP0:Man.FitP l0 1048576:=hB0.mono qD0;clear hA0 hval0;refine (walk _ _ l0 hc0 W hC0 hP0).mono fun e W' ⟨he,bel⟩ =>?_
 subst he;exact ⟨_,rfl,_,_,_,[],_,[],hW',trodAll_mk1 (shut_bool Tryz.underlying4 _),(trodAll_cons_mk (Below.trod laidOut qG0 (zB0 qG0) k0 bel lt0) trodAll_mk0),rfl,bel.frame _,fun h =>by cases h⟩
theorem proved:Rows.EffectsLeastUptoSaid :=
 OpenClaim.holds_of_cond 4 Tryz.f4 rfl rfl rfl rfl rfl rfl rfl ⟨rfl,rfl,rfl,rfl,rfl⟩ rfl rfl rfl rfl rfl qG0 Tryz.func4 qG0
  (zB0 qG0) (by unfold Func.isWrapper;first | (rw [if_pos (by decide +kernel)];kernel_rfl) | (rw [if_neg (by decide +kernel)];exact ⟨rfl,rfl⟩))
  (fun os started H enc _ F =>lifted os started H enc F)
end Go.Proofs.YthhgfncliffggaaGreat.effectsLeast
namespace Go.Proofs.YthhgfncliffggaaGreat
theorem effectsLeast_holds:Rows.EffectsLeastUptoSaid:=effectsLeast.proved
end Go.Proofs.YthhgfncliffggaaGreat
