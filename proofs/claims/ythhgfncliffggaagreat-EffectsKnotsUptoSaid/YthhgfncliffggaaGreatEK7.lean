/- A part of the proof that EffectsKnots returns true for every argument. No conditions beyond the given statement's own. -/
import Derived.Test.YthhgfncliffggaaGreatEK6
import Derived.Test.YthhgfncliffggaaGreatEK3
import Derived.StillTailTactics
import Derived.Test.YthhgfncliffggaaGreatEK2
import Derived.Test.YthhgfncliffggaaGreatEK5
set_option linter.unusedVariables false
set_option linter.unusedSimpArgs false
namespace Go.Proofs.YthhgfncliffggaaGreat.Man
open Go.RowKit Go.Shelf Go.Proofs.YthhgfncliffggaaGreat.Pr Go.Proofs.YthhgfncliffggaaGreatW.PrintWords Go.Proofs.YthhgfncliffggaaGreatW.PrintMore Go.Proofs.YthhgfncliffggaaGreat.Tarj
attribute [local go_sem] Oper.semAt_some
theorem asInt (x:Int) (w:World):(Instr.typeAssert (.iface 3 (.int .i64 x)) 20 3 false).run Tryz.prog w = .ok (.int .i64 x) w:=by kernel_rfl
def ixP (R x:Nat) (v:Value) (i:Nat):Value:=match i with | 0 =>.pointer (some ⟨R,0,none⟩) | 1 =>.pointer (some ⟨R,0,none⟩) | 2 =>.pointer (some ⟨R,0,none⟩) | 3 =>.pointer (some ⟨R,0,none⟩) | 4 =>v | 5 =>.iface 3 (.int .i64 (x:Nat)) | 6 =>.int .i64 (x:Nat) | 9 =>.pointer (some ⟨R,0,none⟩) | 10 =>.pointer (some ⟨R,0,none⟩) | _ =>undef
def cstP (i:Nat):Bool:=i != 7 && i != 8 && i != 11
structure SP (B R bl K:Nat) (lw:Nat→Nat) (x:Nat) (l:List Nat) (v:Value) (W:World) (done:Nat→Bool) (val:Nat→Value) (Z:World):Prop where
 rs:RS B R bl K lw v l W
 hx:x < K
 hl:l.length + 1≤1000
 vv:∀ i,done i = true→cstP i = true→val i = ixP R x v i
 n4:done 4 = false→done 8 = false
 n7:done 7 = false→done 8 = false
 n8:done 8 = false→done 11 = false
 p8:done 8 = false→Below W.heap.size W Z
 b7:done 7 = true→done 8 = false→∃ Z0,Z = Z0.alloc (.cells #[.int .i64 (x:Nat)] 3)∧val 7 = .slice (some ⟨Z0.heap.size,0,none⟩) 1 1∧Below W.heap.size W Z0
 s8:done 8 = true→done 11 = false→∃ v1,val 8 = v1∧kI.R 3 Z B (fun _ =>True) v1 (toI (l ++ [x]))∧W.grownBy Z v.ownBlock∧(v1.ownBlock = v.ownBlock∨∃ b,v1.ownBlock = some b∧W.heap.size≤b)∧Below B W Z
 s11:done 11 = true→∃ v1,RS B R bl K lw v1 (l ++ [x]) Z∧Ht B R W v Z v1
section
variable {B R bl K:Nat} {lw:Nat→Nat} {x:Nat} {l:List Nat} {v:Value} {W Z:World} {done:Nat→Bool} {val:Nat→Value}
theorem SP.start (h:RS B R bl K lw v l W) (hx:x < K) (hl:l.length + 1≤1000):SP B R bl K lw x l v W (fun _ =>false) (fun _ =>undef) { W with drawn:=W.drawn + 1 } :=
 ⟨h,hx,hl,by simp,fun _ =>rfl,fun _ =>rfl,fun _ =>rfl,fun _ =>(zJ0 W.heap.size W).drew,by simp,by simp,by simp⟩
theorem SP.v0 (h:SP B R bl K lw x l v W done val Z) (hd:done 0 = true):val 0 = .pointer (some ⟨R,0,none⟩):=h.vv 0 hd qF0
theorem SP.v1 (h:SP B R bl K lw x l v W done val Z) (hd:done 1 = true):val 1 = .pointer (some ⟨R,0,none⟩):=h.vv 1 hd qF0
theorem SP.v2 (h:SP B R bl K lw x l v W done val Z) (hd:done 2 = true):val 2 = .pointer (some ⟨R,0,none⟩):=h.vv 2 hd qF0
theorem SP.v3 (h:SP B R bl K lw x l v W done val Z) (hd:done 3 = true):val 3 = .pointer (some ⟨R,0,none⟩):=h.vv 3 hd qF0
theorem SP.v4 (h:SP B R bl K lw x l v W done val Z) (hd:done 4 = true):val 4 = v:=h.vv 4 hd qF0
theorem SP.v5 (h:SP B R bl K lw x l v W done val Z) (hd:done 5 = true):val 5 = .iface 3 (.int .i64 (x:Nat)):=h.vv 5 hd qF0
theorem SP.v6 (h:SP B R bl K lw x l v W done val Z) (hd:done 6 = true):val 6 = .int .i64 (x:Nat):=h.vv 6 hd qF0
theorem SP.v9 (h:SP B R bl K lw x l v W done val Z) (hd:done 9 = true):val 9 = .pointer (some ⟨R,0,none⟩):=h.vv 9 hd qF0
theorem SP.v10 (h:SP B R bl K lw x l v W done val Z) (hd:done 10 = true):val 10 = .pointer (some ⟨R,0,none⟩):=h.vv 10 hd qF0
theorem SP.do_ (h:SP B R bl K lw x l v W done val Z) (i:Nat) (hc:cstP i = true) {y:Value} (hy:y = ixP R x v i):SP B R bl K lw x l v W (upd done i) (setv val i y) Z:=by
 have e7:i≠7:=by rintro rfl;cases hc
 have e8:i≠8:=by rintro rfl;cases hc
 have e11:i≠11:=by rintro rfl;cases hc
 refine ⟨h.rs,h.hx,h.hl,fun j hj hcj =>?_,?_,?_,?_,?_,?_,?_,?_⟩
 ·simp only [upd,setv] at hj ⊢;by_cases e:j = i
  ·rw [if_pos e,e];exact hy
  ·rw [if_neg e] at hj ⊢;exact h.vv j hj hcj
 all_goals simp only [upd,setv,if_neg (Ne.symm e7),if_neg (Ne.symm e8),if_neg (Ne.symm e11)]
 ·by_cases e:4 = i
  ·rw [if_pos e];exact fun q =>by cases q
  ·rw [if_neg e];exact h.n4
 ·exact h.n7
 ·exact h.n8
 ·exact h.p8
 ·exact h.b7
 ·exact h.s8
 ·exact h.s11
theorem SP.rd (h:SP B R bl K lw x l v W done val Z) (h4:done 4 = false):Z.cell? ⟨R,0,none⟩ = some v:=(h.rs.below (h.p8 (h.n4 h4))).cf.1
theorem SP.do7 (h:SP B R bl K lw x l v W done val Z) (hd:done 7 = false):SP B R bl K lw x l v W (upd done 7) (setv val 7 (.slice (some ⟨Z.heap.size,0,none⟩) 1 1)) (Z.alloc (.cells #[.int .i64 (x:Nat)] 3)):=by
 have h8:=h.n7 hd;have h11:=h.n8 h8;refine ⟨h.rs,h.hx,h.hl,fun j hj hcj =>?_,?_,?_,?_,?_,?_,?_,?_⟩
 ·have e:j≠7:=by rintro rfl;cases hcj
  simp only [upd,setv,if_neg e] at hj ⊢;exact h.vv j hj hcj
 all_goals simp only [upd,setv,if_true,if_neg (show (4:Nat)≠7 by decide),if_neg (show (8:Nat)≠7 by decide),if_neg (show (11:Nat)≠7 by decide)]
 ·exact h.n4
 ·exact fun q =>by cases q
 ·exact h.n8
 ·exact fun q =>a0B (h.p8 q) _
 ·exact fun _ q =>⟨Z,rfl,rfl,h.p8 q⟩
 ·intro q;rw [h8] at q;cases q
 ·intro q;rw [h11] at q;cases q
theorem SP.do8 {Z0 w1:World} {v1:Value} (h:SP B R bl K lw x l v W done val Z) (h4:done 4 = true) (h7:done 7 = true) (hd:done 8 = false) (hb0:Below W.heap.size W Z0)
  (hr:kI.R 3 w1 B (fun _ =>True) v1 (toI l ++ [((x:Nat):Int)])) (hb:Below B W w1) (hg:Z0.grownBy w1 v.ownBlock) (hat:v1.ownBlock = v.ownBlock∨∃ b,v1.ownBlock = some b∧Z0.heap.size≤b) :
  SP B R bl K lw x l v W (upd done 8) (setv val 8 v1) w1:=by
 have h11:=h.n8 hd;have hgW:W.grownBy w1 v.ownBlock:=⟨hb.os,hb.tape,hb.output,hb.size,fun k hk hne =>(hg.block k (zF1 hk hb0.size) hne).trans (hb0.block k hk)⟩;refine ⟨h.rs,h.hx,h.hl,fun j hj hcj =>?_,?_,?_,?_,?_,?_,?_,?_⟩
 ·have e:j≠8:=by rintro rfl;cases hcj
  simp only [upd,setv,if_neg e] at hj ⊢;exact h.vv j hj hcj
 all_goals simp only [upd,setv,if_true,if_neg (show (4:Nat)≠8 by decide),if_neg (show (7:Nat)≠8 by decide),if_neg (show (11:Nat)≠8 by decide)]
 ·intro q;rw [h4] at q;cases q
 ·intro q;rw [h7] at q;cases q
 ·exact fun q =>by cases q
 ·exact fun q =>by cases q
 ·exact fun _ q =>by cases q
 ·exact fun _ _ =>⟨v1,rfl,by simpa [toI] using hr,hgW,hat.imp_right (fun ⟨b,e,hle⟩ =>⟨b,e,zH0 hb0.size hle⟩),hb⟩
 ·intro q;rw [h11] at q;cases q
theorem SP.at8 (h:SP B R bl K lw x l v W done val Z) (h8:done 8 = true) (h11:done 11 = false) :
  ∃ A9 n9 c9,val 8 = .slice A9 n9 c9∧Z.cell? ⟨R,0,none⟩ = some v∧Z.frozen? ⟨R,0,none⟩ = false:=by
 obtain ⟨v1,e,hr,hg,_,_⟩:=h.s8 h8 h11;obtain ⟨A,c,e2,_,_⟩:=Kd.a3T hr;have ho:=a1O h.rs.r hg h.rs.nR;exact ⟨A,_,c,e.trans e2,(a0O ho 0).trans rfl,a0Q ho _⟩
theorem SP.do11 (h:SP B R bl K lw x l v W done val Z) (h8:done 8 = true) (hd:done 11 = false) {y v1:Value} (hv:val 8 = v1) :
  SP B R bl K lw x l v W (upd done 11) (setv val 11 y) (Z.setCell ⟨R,0,none⟩ v1):=by
 obtain ⟨v2,e,hr,hg,hat,hb⟩:=h.s8 h8 hd;obtain rfl:v1 = v2:=hv.symm.trans e
 obtain ⟨t1,t2⟩:=h.rs.turn hr hg hat hb (fun y hy =>by
  rcases zU0.1 hy with hy | hy
  ·exact h.rs.mem y hy
  ·rw [zC1.1 hy];exact h.hx) (by rw [zR0];exact h.hl)
 refine ⟨h.rs,h.hx,h.hl,fun j hj hcj =>?_,?_,?_,?_,?_,?_,?_,?_⟩
 ·have e:j≠11:=by rintro rfl;cases hcj
  simp only [upd,setv,if_neg e] at hj ⊢;exact h.vv j hj hcj
 all_goals simp only [upd,setv,if_true,if_neg (show (4:Nat)≠11 by decide),if_neg (show (7:Nat)≠11 by decide),if_neg (show (8:Nat)≠11 by decide)]
 ·exact h.n4
 ·exact h.n7
 ·intro q;rw [h8] at q;cases q
 ·intro q;rw [h8] at q;cases q
 ·intro _ q;rw [h8] at q;cases q
 ·exact fun _ q =>by cases q
 ·exact fun _ =>⟨v1,t1,t2⟩
end
theorem b6Q {B R bl K:Nat} {lw:Nat→Nat} {v:Value} {l:List Nat} {W:World} (h:RS B R bl K lw v l W) :
  Calls Tryz.prog 53 #[.pointer (some ⟨R,0,none⟩)] W fun e W' =>e = .returned (.int .i64 (l.length:Nat))∧W' = W:=by
 have ck:=h.cf;obtain ⟨A,c,rfl,_,_⟩:=Kd.a3T h.st;rw [a1P] at ck;go_enter Tryz.func53,Tryz.ntmps53
 go_wp2;go_ret;exact ⟨rfl,rfl⟩
theorem a5G {B R bl K:Nat} {lw:Nat→Nat} {v:Value} {l:List Nat} {W:World} (h:RS B R bl K lw v l W) (i j:Nat) (hi:i < l.length) (hj:j < l.length) :
  Calls Tryz.prog 139 #[.pointer (some ⟨R,0,none⟩),.int .i64 (i:Nat),.int .i64 (j:Nat)] W fun e W' =>e = .returned (.bool (decide (lw l[i] < lw l[j])))∧∃ n,W' = W.drewN n:=by
 have ck:=h.cf;obtain ⟨gv,cap,rfl,hcap,hall⟩:=h.form qD0;obtain ⟨a,ha⟩:∃ a,a = l[i]:=⟨_,rfl⟩;obtain ⟨b,hb⟩:∃ b,b = l[j]:=⟨_,rfl⟩;have zi:=(hall i hi).1;have zj:=(hall j hj).1;rw [← ha] at zi ⊢;rw [← hb] at zj ⊢;have hak:a < K:=h.mem a (ha ▸ zD1 hi);have hbk:b < K:=h.mem b (hb ▸ zD1 hj);have ya:=h.lwc hak;have yb:=h.lwc hbk;have ha0:(0:Int)≤(a:Int):=zI0 a;have hb0:(0:Int)≤(b:Int):=zI0 b;have hi0:(0:Int)≤(i:Int):=zI0 i;have hj0:(0:Int)≤(j:Int):=zI0 j;have hres:decide ((lw a:Int) < (lw b:Int)) = decide (lw a < lw b):=by simp
 clear ha hb hall;go_enter Tryz.func139,Tryz.ntmps139
 go_upto_region 1 with (fail)
 go_quiet (fail)
 go_wp2;go_ret;exact ⟨by first | rfl | simp [hres],nq,rfl⟩
theorem push_any {B R bl K:Nat} {lw:Nat→Nat} {v:Value} {l:List Nat} {W:World} (h:RS B R bl K lw v l W) (x:Nat) (hx:x < K) (hl:l.length + 1≤1000) (hB:B≤W.heap.size) :
  Calls Tryz.prog 141 #[.pointer (some ⟨R,0,none⟩),.iface 3 (.int .i64 (x:Nat))] W fun e W' =>e = .returned (.tuple #[])∧∃ v',RS B R bl K lw v' (l ++ [x]) W'∧Ht B R W v W' v':=by
 have ck:=h.cf;have RS0:=zA0 h;have ST:=zA0 h.st;have HB:=zA0 hB;have HX:=zA0 hx;have LST:=zA0 (show ((toI l).length + 1) * 8≤140737488355328 by rw [a1P];omega);obtain ⟨A,c,e,_,_⟩:=Kd.a3T h.st;rw [a1P] at e;have HE:=zA0 e;have HLL:=zA0 hl;rw [e] at ck;clear h hB hx e hl;go_enter Tryz.func141,Tryz.ntmps141
 refine (wpIn_wide (n:=5)).1 ?_;refine wpIn_region_any mixedO ?_;refine a3G _ (fun _ =>undef) (fun done val Z =>SP B R bl K lw x l v W done val Z) rfl qH0 _ ?hz9 ?st9 ?en9
 case hz9 =>exact SP.start RS0.out HX.out HLL.out
 case st9 =>
  intro i o done val a Z ho hdn hdep hag hS K2 hK2;have hm:i < 12:=by
   by_cases h:i < 12
   ·exact h
   ·rw [Array.getElem?_eq_none qA1] at ho;cases ho
  obtain rfl | rfl | rfl | rfl | rfl | rfl | rfl | rfl | rfl | rfl | rfl | rfl:i = 0∨i = 1∨i = 2∨i = 3∨i = 4∨i = 5∨i = 6∨i = 7∨i = 8∨i = 9∨i = 10∨i = 11:=by omega
  ·cases ho;have e0:a.eval (.tmp 0) = .pointer (some ⟨R,0,none⟩):=hag.keep 0 rfl;refine a1F (i:=0) (r:=.pointer (some ⟨R,0,none⟩)) (w':=Z) rfl rfl (fun c h =>by cases h) rfl ?_ (hK2 _ _ (hS.do_ 0 rfl rfl));have ec:∀ v,a.eval (.const v) = v:=fun _ =>rfl
   generalize a.eval = ev at *;simp [execOp,go_sem,ec,e0]
  ·cases ho;have e0:a.eval (.tmp 0) = .pointer (some ⟨R,0,none⟩):=hag.keep 0 rfl;refine a1F (i:=1) (r:=.pointer (some ⟨R,0,none⟩)) (w':=Z) rfl rfl (fun c h =>by cases h) rfl ?_ (hK2 _ _ (hS.do_ 1 rfl rfl));have ec:∀ v,a.eval (.const v) = v:=fun _ =>rfl
   generalize a.eval = ev at *;simp [execOp,go_sem,ec,e0]
  ·cases ho;have e5:=(hag.val_ (j:=1) (t:=5) rfl (hdep ⟨1,.data⟩ qG0 rfl)).trans (hS.v1 (hdep ⟨1,.data⟩ qG0 rfl));refine a1F (i:=2) (r:=.pointer (some ⟨R,0,none⟩)) (w':=Z) rfl rfl (fun c h =>by cases h) rfl ?_ (hK2 _ _ (hS.do_ 2 rfl rfl));have ec:∀ v,a.eval (.const v) = v:=fun _ =>rfl
   generalize a.eval = ev at *;simp [execOp,go_sem,ec,e5]
  ·cases ho;have e6:=(hag.val_ (j:=2) (t:=6) rfl (hdep ⟨2,.data⟩ qG0 rfl)).trans (hS.v2 (hdep ⟨2,.data⟩ qG0 rfl));refine a1F (i:=3) (r:=.pointer (some ⟨R,0,none⟩)) (w':=Z) rfl rfl (fun c h =>by cases h) rfl ?_ (hK2 _ _ (hS.do_ 3 rfl rfl));have ec:∀ v,a.eval (.const v) = v:=fun _ =>rfl
   generalize a.eval = ev at *;simp [execOp,go_sem,ec,e6]
  ·cases ho;have e7:=(hag.val_ (j:=3) (t:=7) rfl (hdep ⟨3,.data⟩ qG0 rfl)).trans (hS.v3 (hdep ⟨3,.data⟩ qG0 rfl));have hz:=hS.rd hdn;refine a1F (i:=4) (r:=v) (w':=Z) rfl rfl (fun c h =>by cases h) rfl ?_ (hK2 _ _ (hS.do_ 4 rfl rfl));have ec:∀ v,a.eval (.const v) = v:=fun _ =>rfl
   generalize a.eval = ev at *;simp [execOp,go_sem,ec,e7,hz]
  ·cases ho;have e1:a.eval (.tmp 1) = .iface 3 (.int .i64 (x:Nat)):=hag.keep 1 rfl;refine a1F (i:=5) (r:=.iface 3 (.int .i64 (x:Nat))) (w':=Z) rfl rfl (fun c h =>by cases h) rfl ?_ (hK2 _ _ (hS.do_ 5 rfl rfl));have ec:∀ v,a.eval (.const v) = v:=fun _ =>rfl
   generalize a.eval = ev at *;simp [execOp,go_sem,ec,e1]
  ·cases ho;have e9:=(hag.val_ (j:=5) (t:=9) rfl (hdep ⟨5,.data⟩ qG0 rfl)).trans (hS.v5 (hdep ⟨5,.data⟩ qG0 rfl));refine a1F (i:=6) (r:=.int .i64 (x:Nat)) (w':=Z) rfl rfl (fun c h =>by cases h) rfl ?_ (hK2 _ _ (hS.do_ 6 rfl rfl));have ec:∀ v,a.eval (.const v) = v:=fun _ =>rfl
   generalize a.eval = ev at *;simp [execOp,go_sem,ec,e9,asInt]
  ·cases ho;have e10:=(hag.val_ (j:=6) (t:=10) rfl (hdep ⟨6,.data⟩ qG0 rfl)).trans (hS.v6 (hdep ⟨6,.data⟩ qG0 rfl));refine a1F (i:=7) (r:=.slice (some ⟨Z.heap.size,0,none⟩) 1 1) (w':=Z.alloc (.cells #[.int .i64 (x:Nat)] 3)) rfl rfl (fun c h =>by cases h) rfl ?_ (hK2 _ _ (hS.do7 hdn));generalize a.eval = ev at *;simp [execOp,go_sem,e10]
  ·cases ho;have e8:=(hag.val_ (j:=4) (t:=8) rfl (hdep ⟨4,.data⟩ qG0 rfl)).trans (hS.v4 (hdep ⟨4,.data⟩ qG0 rfl));have e11:=hag.val_ (j:=7) (t:=11) rfl (hdep ⟨7,.data⟩ qG0 rfl);have h7:=hdep ⟨7,.data⟩ qG0 rfl;have h4:=hdep ⟨4,.data⟩ qG0 rfl;obtain ⟨Z0,rfl,e7,hb0⟩:=hS.b7 h7 hdn;rw [e7] at e11;refine a7G (i:=8) (s:=.tmp 8) (x:=.tmp 11) (t:=43) (t':=43) rfl rfl rfl ?_;refine Kd.a6V kI B (w0:=W) rfl (.tmp 8) (.tmp 11) 43 3 (.int .i64 0) 8 rfl Tryz.underlying43 a9S rfl qF0 qF0 v (toI l) ((x:Nat):Int) [.int .i64 ((x:Nat):Int)] (fun _ =>True) (fun _ =>False) e8 e11 rfl (fun _ hk =>hk.elim) (fun _ _ =>trivial) (Kd.a3L ST.out hb0) (hb0.mono HB.out) (zH0 HB.out hb0.size) LST.out ?_;exact fun v1 w1 hr hb hg hat =>hK2 v1 w1 (hS.do8 h4 h7 hdn hb0 hr hb hg hat)
  ·cases ho;have e4:=(hag.val_ (j:=0) (t:=4) rfl (hdep ⟨0,.data⟩ qG0 rfl)).trans (hS.v0 (hdep ⟨0,.data⟩ qG0 rfl));refine a1F (i:=9) (r:=.pointer (some ⟨R,0,none⟩)) (w':=Z) rfl rfl (fun c h =>by cases h) rfl ?_ (hK2 _ _ (hS.do_ 9 rfl rfl));have ec:∀ v,a.eval (.const v) = v:=fun _ =>rfl
   generalize a.eval = ev at *;simp [execOp,go_sem,ec,e4]
  ·cases ho;have e13:=(hag.val_ (j:=9) (t:=13) rfl (hdep ⟨9,.data⟩ qG0 rfl)).trans (hS.v9 (hdep ⟨9,.data⟩ qG0 rfl));refine a1F (i:=10) (r:=.pointer (some ⟨R,0,none⟩)) (w':=Z) rfl rfl (fun c h =>by cases h) rfl ?_ (hK2 _ _ (hS.do_ 10 rfl rfl));have ec:∀ v,a.eval (.const v) = v:=fun _ =>rfl
   generalize a.eval = ev at *;simp [execOp,go_sem,ec,e13]
  ·cases ho;have e14:=(hag.val_ (j:=10) (t:=14) rfl (hdep ⟨10,.data⟩ qG0 rfl)).trans (hS.v10 (hdep ⟨10,.data⟩ qG0 rfl));have e12:=hag.val_ (j:=8) (t:=12) rfl (hdep ⟨8,.data⟩ qG0 rfl);have h8:=hdep ⟨8,.data⟩ qG0 rfl;obtain ⟨A9,n9,c9,e9,hz,hzf⟩:=hS.at8 h8 hdn;rw [e9] at e12;refine a3C (i:=11) rfl rfl (fun c h =>by cases h) rfl (w':=Z.setCell ⟨R,0,none⟩ (.slice A9 n9 c9)) ?_ (hK2 _ _ (hS.do11 h8 hdn e9));have ec:∀ v,a.eval (.const v) = v:=fun _ =>rfl
   generalize a.eval = ev at *;simp [execOp,go_sem,ec,e14,e12,hz,hzf]
 case en9 =>
  intro Z done val hdn hS;simp only [putTmps,dstOf,zV1,zT0,zN1,Nat.reduceAdd,zB2,zK1,zT1,zK0,zN0,zX0,zY0];obtain ⟨v9,hfd9,hbe9⟩:=hS.s11 (hdn 11 qF0);go_wp2;refine bodyPost_end (results_none rfl _ _ _) rfl ?_;exact ⟨rfl,v9,hfd9,hbe9⟩
set_option maxRecDepth 100000 in
theorem pop_any {B R bl K:Nat} {lw:Nat→Nat} {v:Value} {l:List Nat} {W:World} (h:RS B R bl K lw v l W) (hp:0 < l.length) (hB:B≤W.heap.size) :
  Calls Tryz.prog 140 #[.pointer (some ⟨R,0,none⟩)] W fun e W' =>e = .returned (.iface 3 (.int .i64 (l[l.length - 1]:Nat)))∧∃ v',RS B R bl K lw v' (l.take (l.length - 1)) W'∧Ht B R W v W' v':=by
 have ck:=h.cf;obtain ⟨gv,cap,rfl,hcap,hall⟩:=h.form hp;obtain ⟨k,hk⟩:∃ k,l.length = k + 1:=⟨l.length - 1,by omega⟩;obtain ⟨i3,hi3,hi3s⟩:=zE1.1 a9S;obtain ⟨htk,_,_⟩:=a7S (P:=Tryz.prog) (k:=.i64) 43 3 Tryz.underlying43 hi3 qT2 (some ⟨gv,0,none⟩) cap (toI l) (k:Int) (zI0 k) qQ2 (by rw [a1P];exact hcap);rw [a1P,zM0,zG1,a1P,Nat.min_eq_left qD0] at htk;have ht:kI.R 3 W B (fun _ =>True) (.slice (some ⟨gv,0,none⟩) k cap) (toI (l.take k)):=by
  have ho0:=Kd.a2Y h.st;rw [a1P] at ho0;have ho:=a9Z ho0 (show k≤l.length by omega);refine Kd.a3M ?_ (fun _ _ =>trivial);have hl:(toI (l.take k)).length = k:=by rw [a1P,zG1];omega
  rw [hl];have he:encs (Value.int .i64) (toI (l.take k)) = (encs (Value.int .i64) (toI l)).take (k * 1):=by simp [encs,toI,List.map_take]
  rw [he];exact ho
 obtain ⟨b,hb⟩:∃ b,b = l[k]:=⟨_,rfl⟩;have zj:=(hall k qD0).1;rw [← hb] at zj;have hlast:l[l.length - 1] = b:=by simp only [hk,Nat.add_sub_cancel,hb]
 rw [hlast];have hle:l.length - 1 = k:=by omega
 rw [hle];rw [hk] at ck htk hcap;have hw:wrap64 (((k + 1:Nat):Int) - 1) = (k:Int):=by have:=h.len;simp only [wrap64];omega
 have hw4:wrap64 (k:Int) = (k:Int):=by have:=h.len;simp only [wrap64];omega
 have hw3:IntKind.i64.wrap (k:Int) = (k:Int):=by rw [Go.Proofs.YthhgfncliffggaaGreatW.PrintLast.a4H];exact hw4
 have hnk:¬ ((k:Int) + 1≤(k:Int)):=by omega
 have hk0:(0:Int)≤(k:Int):=zI0 k;have hk1:k < k + 1:=zS0 k;have RS0:=zA0 h;have HT:=zA0 ht;have HK:=zA0 hk;have HB:=zA0 hB;clear h ht hk hb hlast hle hall hp hB hi3 hi3s;go_enter Tryz.func140,Tryz.ntmps140
 go_upto_region 1 with (fail)
 refine (wpIn_wide (n:=5)).1 ?_;refine wpIn_region_any mixedO ?_;refine a6Y _ (fun ix_ =>match ix_ with | 0 =>.pointer (some ⟨R,0,none⟩) | 1 =>.pointer (some ⟨R,0,none⟩) | 2 =>.pointer (some ⟨R,0,none⟩) | 3 =>.slice (some ⟨gv,0,none⟩) (k + 1) cap | 4 =>.pointer (some ⟨R,0,none⟩) | 5 =>.pointer (some ⟨R,0,none⟩) | 6 =>.pointer (some ⟨R,0,none⟩) | 7 =>.slice (some ⟨gv,0,none⟩) (k + 1) cap | 8 =>.int .i64 ((k + 1:Nat):Int) | 9 =>.int .i64 (k:Nat) | 10 =>.pointer (some ⟨gv,k,none⟩) | 11 =>.int .i64 (b:Nat) | 12 =>.int .i64 (b:Nat) | _ =>undef) (fun done Z =>Below W.heap.size W Z) rfl qH0 _ ?hzq1 ?stq1 ?enq1
 case hzq1 =>exact (zJ0 W.heap.size W).drew
 case stq1 =>
  intro m op done a Z ho hdn hdep hag hS K2 hK2;have hm:m < 13:=by
   by_cases h:m < 13
   ·exact h
   ·rw [Array.getElem?_eq_none qA1] at ho;cases ho
  have zz:=(RS0.out.below hS).cf.1;rw [HK.out] at zz;have zk:=a0E hS zj;have hw2:=hw;obtain rfl | rfl | rfl | rfl | rfl | rfl | rfl | rfl | rfl | rfl | rfl | rfl | rfl:m = 0∨m = 1∨m = 2∨m = 3∨m = 4∨m = 5∨m = 6∨m = 7∨m = 8∨m = 9∨m = 10∨m = 11∨m = 12:=by omega
  ·cases ho;have e0:a.eval (.tmp 0) = .pointer (some ⟨R,0,none⟩):=hag.keep 0 rfl;refine a0F (i:=0) rfl rfl (fun c h =>by cases h) rfl ?_ (hK2 Z hS);have ec:∀ v,a.eval (.const v) = v:=fun _ =>rfl
   generalize a.eval = ev at *;simp [execOp,go_sem,ec,e0]
  ·cases ho;have e4:=hag.val_ (j:=0) (t:=4) rfl (hdep ⟨0,.data⟩ qG0 rfl);refine a0F (i:=1) rfl rfl (fun c h =>by cases h) rfl ?_ (hK2 Z hS);have ec:∀ v,a.eval (.const v) = v:=fun _ =>rfl
   generalize a.eval = ev at *;simp [execOp,go_sem,ec,e4]
  ·cases ho;have e5:=hag.val_ (j:=1) (t:=5) rfl (hdep ⟨1,.data⟩ qG0 rfl);refine a0F (i:=2) rfl rfl (fun c h =>by cases h) rfl ?_ (hK2 Z hS);have ec:∀ v,a.eval (.const v) = v:=fun _ =>rfl
   generalize a.eval = ev at *;simp [execOp,go_sem,ec,e5]
  ·cases ho;have e6:=hag.val_ (j:=2) (t:=6) rfl (hdep ⟨2,.data⟩ qG0 rfl);refine a0F (i:=3) rfl rfl (fun c h =>by cases h) rfl ?_ (hK2 Z hS);have ec:∀ v,a.eval (.const v) = v:=fun _ =>rfl
   generalize a.eval = ev at *;simp [execOp,go_sem,ec,e6,zz]
  ·cases ho;have e0:a.eval (.tmp 0) = .pointer (some ⟨R,0,none⟩):=hag.keep 0 rfl;refine a0F (i:=4) rfl rfl (fun c h =>by cases h) rfl ?_ (hK2 Z hS);have ec:∀ v,a.eval (.const v) = v:=fun _ =>rfl
   generalize a.eval = ev at *;simp [execOp,go_sem,ec,e0]
  ·cases ho;have e8:=hag.val_ (j:=4) (t:=8) rfl (hdep ⟨4,.data⟩ qG0 rfl);refine a0F (i:=5) rfl rfl (fun c h =>by cases h) rfl ?_ (hK2 Z hS);have ec:∀ v,a.eval (.const v) = v:=fun _ =>rfl
   generalize a.eval = ev at *;simp [execOp,go_sem,ec,e8]
  ·cases ho;have e9:=hag.val_ (j:=5) (t:=9) rfl (hdep ⟨5,.data⟩ qG0 rfl);refine a0F (i:=6) rfl rfl (fun c h =>by cases h) rfl ?_ (hK2 Z hS);have ec:∀ v,a.eval (.const v) = v:=fun _ =>rfl
   generalize a.eval = ev at *;simp [execOp,go_sem,ec,e9]
  ·cases ho;have e10:=hag.val_ (j:=6) (t:=10) rfl (hdep ⟨6,.data⟩ qG0 rfl);refine a0F (i:=7) rfl rfl (fun c h =>by cases h) rfl ?_ (hK2 Z hS);have ec:∀ v,a.eval (.const v) = v:=fun _ =>rfl
   generalize a.eval = ev at *;simp [execOp,go_sem,ec,e10,zz]
  ·cases ho;have e11:=hag.val_ (j:=7) (t:=11) rfl (hdep ⟨7,.data⟩ qG0 rfl);refine a0F (i:=8) rfl rfl (fun c h =>by cases h) ?_ ?_ (hK2 Z hS)
   ·generalize a.eval = ev at *;simp [Oper.about,resolve,Target.leads,Sem.run_pure,go_sem,e11]
   ·have ec:∀ v,a.eval (.const v) = v:=fun _ =>rfl
    generalize a.eval = ev at *;simp [execOp,go_sem,ec,e11]
  ·cases ho;have e12:=hag.val_ (j:=8) (t:=12) rfl (hdep ⟨8,.data⟩ qG0 rfl);refine a0F (i:=9) rfl rfl (fun c h =>by cases h) rfl ?_ (hK2 Z hS);have ec:∀ v,a.eval (.const v) = v:=fun _ =>rfl
   generalize a.eval = ev at *;simp [execOp,go_sem,ec,e12,hw,hw3]
  ·cases ho;have e7:=hag.val_ (j:=3) (t:=7) rfl (hdep ⟨3,.data⟩ qG0 rfl);have e13:=hag.val_ (j:=9) (t:=13) rfl (hdep ⟨9,.data⟩ qG0 rfl);refine a0F (i:=10) rfl rfl (fun c h =>by cases h) ?_ ?_ (hK2 Z hS)
   ·generalize a.eval = ev at *;simp [Oper.about,resolve,Target.leads,Sem.run_pure,go_sem,e7,e13,hk1,hk0,hnk]
   ·have ec:∀ v,a.eval (.const v) = v:=fun _ =>rfl
    generalize a.eval = ev at *;simp [execOp,go_sem,ec,e7,e13,hk1,hk0,hnk]
  ·cases ho;have e14:=hag.val_ (j:=10) (t:=14) rfl (hdep ⟨10,.data⟩ qG0 rfl);refine a0F (i:=11) rfl rfl (fun c h =>by cases h) rfl ?_ (hK2 Z hS);have ec:∀ v,a.eval (.const v) = v:=fun _ =>rfl
   generalize a.eval = ev at *;simp [execOp,go_sem,ec,e14,zk]
  ·cases ho;have e15:=hag.val_ (j:=11) (t:=15) rfl (hdep ⟨11,.data⟩ qG0 rfl);refine a0F (i:=12) rfl rfl (fun c h =>by cases h) rfl ?_ (hK2 Z hS);have ec:∀ v,a.eval (.const v) = v:=fun _ =>rfl
   generalize a.eval = ev at *;simp [execOp,go_sem,ec,e15]
 case enq1 =>
  intro Z1 done hdn hS;simp only [putTmps,dstOf,zV1,zT0,zN1,Nat.reduceAdd,zB2,zK1,zT1,zK0,zN0,zX0,zY0];have RS1:=zA0 (RS0.out.below hS);have HB1:=zA0 hS;have ck:=RS1.out.cf;rw [HK.out] at ck;clear hS hdn;go_upto_region 2 with (fail)
  go_still_tail 14,mixedO
  change wpList _ _ _ _ _ (World.drew Z1);have hb2:=HB1.out.trans (a1X (zJ0 W.heap.size Z1));have rs2:=RS0.out.below hb2;have ht2:=Kd.a3L HT.out hb2;clear ck htk;generalize World.drew Z1 = Z2 at hb2 rs2 ht2 ⊢;have ck:=rs2.cf;rw [HK.out] at ck;have HB2:=zA0 hb2;have RS2:=zA0 rs2;have HT2:=zA0 ht2;clear hb2 rs2 ht2;have c3:Tryz.prog.concrete 3 = true:=by kernel_rfl
  go_wp2;go_ret;obtain ⟨t1,t2⟩:=RS2.out.turn HT2.out ⟨rfl,rfl,rfl,zG0 _,fun _ _ _ =>rfl⟩ (.inl qS2) (zJ0 B Z2) (fun x hx =>RS0.out.mem x (zT3 hx)) (by rw [zG1];have:=RS0.out.len;omega);refine ⟨rfl,_,t1,Ht.trans ⟨HB2.out.mono HB.out,fun q hq _ _ =>HB2.out.block q hq,.inl rfl⟩ t2⟩
def swapL (l:List Nat) (i j:Nat):List Nat:=(l.set i (l.getD j 0)).set j (l.getD i 0)
theorem b0O (l:List Nat) (i j:Nat):(swapL l i j).length = l.length:=by simp [swapL]
theorem RS.put {B R bl K:Nat} {lw:Nat→Nat} {l:List Nat} {W:World} {gv cap:Nat} (h:RS B R bl K lw (.slice (some ⟨gv,0,none⟩) l.length cap) l W) (i x:Nat) (hx:x < K) :
  RS B R bl K lw (.slice (some ⟨gv,0,none⟩) l.length cap) (l.set i x) (W.setCell ⟨gv,i,none⟩ (.int .i64 (x:Nat)))∧Ht B R W (.slice (some ⟨gv,0,none⟩) l.length cap) (W.setCell ⟨gv,i,none⟩ (.int .i64 (x:Nat))) (.slice (some ⟨gv,0,none⟩) l.length cap):=by
 have nR:R≠gv:=fun e =>h.nR (by rw [e];rfl)
 have nl:bl≠gv:=fun e =>h.nl (by rw [e];rfl)
 have ho:=Kd.a2Y h.st;have hge:B≤gv:=a2G ho gv rfl;rw [a1P] at ho;have h2:(W.setCell ⟨gv,i,none⟩ (.int .i64 (x:Nat))).ownsRow B 3 1 (.slice (some ⟨gv,0,none⟩) l.length cap) (toI (l.set i x)).length (encs (Value.int .i64) (toI (l.set i x))):=by
  have h3:=a1P l;have h4:=b9F (enc:=Value.int .i64) (xs:=toI l) (g:=gv) (cap:=cap) (e:=3) (base:=B) (W:=W) (by rw [h3];exact ho) (i:Int) ((x:Nat):Int);rw [zM0,h3] at h4;have h5:(toI l).set i ((x:Nat):Int) = toI (l.set i x):=by simp [toI,List.map_set]
  rw [h5] at h4;exact h4
 refine ⟨⟨a2F h.r nR _,a2F h.lo nl _,Kd.a3M h2 (fun _ _ =>trivial),fun y hy =>?_,h.b,h.bl,by rw [zU1];exact h.len⟩,(zJ0 B W).setCell (p:=⟨gv,i,none⟩) hge _,fun k hk _ hv =>Below.heap_setCell _ _ _ _ (fun e =>hv (by rw [show k = gv from e];rfl)),.inl rfl⟩;rcases List.mem_or_eq_of_mem_set hy with hy | rfl
 ·exact h.mem y hy
 ·exact hx
structure SW (B R bl K:Nat) (lw:Nat→Nat) (gv cap:Nat) (l:List Nat) (i j a b:Nat) (W:World) (d16 d23 d25 d27:Bool) (Z:World):Prop where
 rs:RS B R bl K lw (.slice (some ⟨gv,0,none⟩) l.length cap) (if d27 = true then (l.set i b).set j a else if d25 = true then l.set i b else l) Z
 ht:Ht B R W (.slice (some ⟨gv,0,none⟩) l.length cap) Z (.slice (some ⟨gv,0,none⟩) l.length cap)
 ha:l[i]? = some a
 hb:l[j]? = some b
 n16:d16 = false→d25 = false
 n23:d23 = false→d25 = false
 n25:d25 = false→d27 = false
section
variable {B R bl K:Nat} {lw:Nat→Nat} {gv cap:Nat} {l:List Nat} {i j a b:Nat} {W Z:World} {d16 d23 d25 d27:Bool}
theorem SW.start (h:RS B R bl K lw (.slice (some ⟨gv,0,none⟩) l.length cap) l W) (ha:l[i]? = some a) (hb:l[j]? = some b):SW B R bl K lw gv cap l i j a b W false false false false W.drew :=
 ⟨by simpa using h.below (a1X (zJ0 W.heap.size W)),⟨a1X (zJ0 B W),fun _ _ _ _ =>rfl,.inl rfl⟩,ha,hb,fun _ =>rfl,fun _ =>rfl,fun _ =>rfl⟩
theorem SW.cl (h:SW B R bl K lw gv cap l i j a b W d16 d23 d25 d27 Z):(if d27 = true then (l.set i b).set j a else if d25 = true then l.set i b else l).length = l.length:=by
 split
 ·simp
 ·split <;> simp
theorem SW.cell (h:SW B R bl K lw gv cap l i j a b W d16 d23 d25 d27 Z) {x:Nat} (hx:x < l.length):(∃ u,Z.cell? ⟨gv,x,none⟩ = some u)∧Z.frozen? ⟨gv,x,none⟩ = false:=by
 have hl:=h.cl;obtain ⟨g,c,e,_,hall⟩:=h.rs.form qD0;injection e with e1 _ _
 injection e1 with e1
 injection e1 with e1 _ _
 subst e1;have:=hall x qD0;exact ⟨⟨_,this.1⟩,this.2⟩
theorem SW.k16 (h:SW B R bl K lw gv cap l i j a b W d16 d23 d25 d27 Z):SW B R bl K lw gv cap l i j a b W true d23 d25 d27 Z:=⟨h.rs,h.ht,h.ha,h.hb,(fun e =>by cases e),h.n23,h.n25⟩
theorem SW.k23 (h:SW B R bl K lw gv cap l i j a b W d16 d23 d25 d27 Z):SW B R bl K lw gv cap l i j a b W d16 true d25 d27 Z:=⟨h.rs,h.ht,h.ha,h.hb,h.n16,(fun e =>by cases e),h.n25⟩
theorem SW.rd (h:SW B R bl K lw gv cap l i j a b W d16 d23 d25 d27 Z) (h5:d25 = false) {x y:Nat} (hx:l[x]? = some y):Z.cell? ⟨gv,x,none⟩ = some (.int .i64 (y:Nat)):=by
 have hr:=h.rs;rw [h.n25 h5,h5] at hr;simp only [Bool.false_eq_true,if_false] at hr;obtain ⟨h1,h2⟩:=List.getElem?_eq_some_iff.1 hx;obtain ⟨g,c,e,_,hall⟩:=hr.form qD0;injection e with e1 _ _
 injection e1 with e1
 injection e1 with e1 _ _
 subst e1;have:=(hall x h1).1;rwa [h2] at this
theorem SW.rdj (h:SW B R bl K lw gv cap l i j a b W d16 d23 d25 d27 Z) (h5:d16 = false) (hj:j < l.length):Z.cell? ⟨gv,j,none⟩ = some (.int .i64 (b:Nat)):=h.rd (h.n16 h5) h.hb
theorem SW.rdi (h:SW B R bl K lw gv cap l i j a b W d16 d23 d25 d27 Z) (h5:d23 = false) (hi:i < l.length):Z.cell? ⟨gv,i,none⟩ = some (.int .i64 (a:Nat)):=h.rd (h.n23 h5) h.ha
theorem SW.do25 (h:SW B R bl K lw gv cap l i j a b W d16 d23 d25 d27 Z) (h16:d16 = true) (h23:d23 = true) (h5:d25 = false) (hb:b < K):SW B R bl K lw gv cap l i j a b W d16 d23 true d27 (Z.setCell ⟨gv,i,none⟩ (.int .i64 (b:Nat))):=by
 have hr:=h.rs;have h7:=h.n25 h5;rw [h7,h5] at hr;simp only [Bool.false_eq_true,if_false] at hr;obtain ⟨t1,t2⟩:=hr.put i b hb;exact ⟨by rw [h7];simpa using t1,h.ht.trans t2,h.ha,h.hb,fun e =>(by rw [h16] at e;cases e),fun e =>(by rw [h23] at e;cases e),fun e =>by cases e⟩
theorem SW.do27 (h:SW B R bl K lw gv cap l i j a b W d16 d23 d25 d27 Z) (h25:d25 = true) (h7:d27 = false) (ha:a < K) (hi:i < l.length) (hj:j < l.length):SW B R bl K lw gv cap l i j a b W d16 d23 d25 true (Z.setCell ⟨gv,j,none⟩ (.int .i64 (a:Nat))):=by
 have hr:=h.rs;rw [h7,h25] at hr;simp only [Bool.false_eq_true,if_false,if_true] at hr;have hl:(l.set i b).length = l.length:=zU1;obtain ⟨t1,t2⟩:=RS.put (l:=l.set i b) (by rw [hl];exact hr) j a ha;rw [hl] at t1 t2;exact ⟨by simpa using t1,h.ht.trans t2,h.ha,h.hb,h.n16,h.n23,fun e =>by rw [h25] at e;cases e⟩
end
theorem a8F {B R bl K:Nat} {lw:Nat→Nat} {v:Value} {l:List Nat} {W:World} (h:RS B R bl K lw v l W) (i j:Nat) (hi:i < l.length) (hj:j < l.length) :
  Calls Tryz.prog 142 #[.pointer (some ⟨R,0,none⟩),.int .i64 (i:Nat),.int .i64 (j:Nat)] W fun e W' =>e = .returned (.tuple #[])∧RS B R bl K lw v (swapL l i j) W'∧Ht B R W v W' v:=by
 obtain ⟨gv,cap,rfl,hcap,_⟩:=h.form qD0;obtain ⟨pa,ha⟩:∃ a,l[i]? = some a:=⟨_,zE0 hi⟩;obtain ⟨pb,hb⟩:∃ b,l[j]? = some b:=⟨_,zE0 hj⟩;have hi0:(0:Int)≤(i:Int):=zI0 i;have hj0:(0:Int)≤(j:Int):=zI0 j;have HAK:=zA0 (h.mem pa (List.mem_of_getElem? ha));have HBK:=zA0 (h.mem pb (List.mem_of_getElem? hb));have HA:=zA0 ha;have HBB:=zA0 hb;have RS0:=zA0 h;clear ha hb h;go_enter Tryz.func142,Tryz.ntmps142
 refine (wpIn_wide (n:=5)).1 ?_;refine wpIn_region_any mixedO ?_;refine a6Y _ (fun ix_ =>match ix_ with | 0 =>.pointer (some ⟨R,0,none⟩) | 1 =>.pointer (some ⟨R,0,none⟩) | 2 =>.pointer (some ⟨R,0,none⟩) | 3 =>.slice (some ⟨gv,0,none⟩) l.length cap | 4 =>.int .i64 (i:Nat) | 5 =>.pointer (some ⟨R,0,none⟩) | 6 =>.pointer (some ⟨R,0,none⟩) | 7 =>.pointer (some ⟨R,0,none⟩) | 8 =>.slice (some ⟨gv,0,none⟩) l.length cap | 9 =>.int .i64 (j:Nat) | 10 =>.pointer (some ⟨R,0,none⟩) | 11 =>.pointer (some ⟨R,0,none⟩) | 12 =>.pointer (some ⟨R,0,none⟩) | 13 =>.slice (some ⟨gv,0,none⟩) l.length cap | 14 =>.int .i64 (j:Nat) | 15 =>.pointer (some ⟨gv,j,none⟩) | 16 =>.int .i64 (pb:Nat) | 17 =>.pointer (some ⟨R,0,none⟩) | 18 =>.pointer (some ⟨R,0,none⟩) | 19 =>.pointer (some ⟨R,0,none⟩) | 20 =>.slice (some ⟨gv,0,none⟩) l.length cap | 21 =>.int .i64 (i:Nat) | 22 =>.pointer (some ⟨gv,i,none⟩) | 23 =>.int .i64 (pa:Nat) | 24 =>.pointer (some ⟨gv,i,none⟩) | 25 =>undef | 26 =>.pointer (some ⟨gv,j,none⟩) | 27 =>undef | _ =>undef) (fun done Z =>SW B R bl K lw gv cap l i j pa pb W (done 16) (done 23) (done 25) (done 27) Z) rfl qH0 _ ?hzsw ?stsw ?ensw
 case hzsw =>exact SW.start RS0.out HA.out HBB.out
 case stsw =>
  intro m op done a Z ho hdn hdep hag hS K2 hK2;have hm:m < 28:=by
   by_cases h:m < 28
   ·exact h
   ·rw [Array.getElem?_eq_none qA1] at ho;cases ho
  have zz:=hS.rs.cf;obtain ⟨⟨ui,zci⟩,zfi⟩:=hS.cell hi;obtain ⟨⟨uj,zcj⟩,zfj⟩:=hS.cell hj;obtain rfl | rfl | rfl | rfl | rfl | rfl | rfl | rfl | rfl | rfl | rfl | rfl | rfl | rfl | rfl | rfl | rfl | rfl | rfl | rfl | rfl | rfl | rfl | rfl | rfl | rfl | rfl | rfl:m = 0∨m = 1∨m = 2∨m = 3∨m = 4∨m = 5∨m = 6∨m = 7∨m = 8∨m = 9∨m = 10∨m = 11∨m = 12∨m = 13∨m = 14∨m = 15∨m = 16∨m = 17∨m = 18∨m = 19∨m = 20∨m = 21∨m = 22∨m = 23∨m = 24∨m = 25∨m = 26∨m = 27:=by omega
  ·cases ho;have e0:a.eval (.tmp 0) = .pointer (some ⟨R,0,none⟩):=hag.keep 0 rfl;refine a0F (i:=0) rfl rfl (fun c h =>by cases h) rfl ?_ (hK2 Z hS);have ec:∀ v,a.eval (.const v) = v:=fun _ =>rfl
   generalize a.eval = ev at *;simp [execOp,go_sem,ec,e0]
  ·cases ho;have e6:=hag.val_ (j:=0) (t:=6) rfl (hdep ⟨0,.data⟩ qG0 rfl);refine a0F (i:=1) rfl rfl (fun c h =>by cases h) rfl ?_ (hK2 Z hS);have ec:∀ v,a.eval (.const v) = v:=fun _ =>rfl
   generalize a.eval = ev at *;simp [execOp,go_sem,ec,e6]
  ·cases ho;have e7:=hag.val_ (j:=1) (t:=7) rfl (hdep ⟨1,.data⟩ qG0 rfl);refine a0F (i:=2) rfl rfl (fun c h =>by cases h) rfl ?_ (hK2 Z hS);have ec:∀ v,a.eval (.const v) = v:=fun _ =>rfl
   generalize a.eval = ev at *;simp [execOp,go_sem,ec,e7]
  ·cases ho;have e8:=hag.val_ (j:=2) (t:=8) rfl (hdep ⟨2,.data⟩ qG0 rfl);refine a0F (i:=3) rfl rfl (fun c h =>by cases h) rfl ?_ (hK2 Z hS);have ec:∀ v,a.eval (.const v) = v:=fun _ =>rfl
   generalize a.eval = ev at *;simp [execOp,go_sem,ec,e8,zz.1]
  ·cases ho;have e1:a.eval (.tmp 1) = .int .i64 (i:Nat):=hag.keep 1 rfl;refine a0F (i:=4) rfl rfl (fun c h =>by cases h) rfl ?_ (hK2 Z hS);have ec:∀ v,a.eval (.const v) = v:=fun _ =>rfl
   generalize a.eval = ev at *;simp [execOp,go_sem,ec,e1]
  ·cases ho;have e0:a.eval (.tmp 0) = .pointer (some ⟨R,0,none⟩):=hag.keep 0 rfl;refine a0F (i:=5) rfl rfl (fun c h =>by cases h) rfl ?_ (hK2 Z hS);have ec:∀ v,a.eval (.const v) = v:=fun _ =>rfl
   generalize a.eval = ev at *;simp [execOp,go_sem,ec,e0]
  ·cases ho;have e11:=hag.val_ (j:=5) (t:=11) rfl (hdep ⟨5,.data⟩ qG0 rfl);refine a0F (i:=6) rfl rfl (fun c h =>by cases h) rfl ?_ (hK2 Z hS);have ec:∀ v,a.eval (.const v) = v:=fun _ =>rfl
   generalize a.eval = ev at *;simp [execOp,go_sem,ec,e11]
  ·cases ho;have e12:=hag.val_ (j:=6) (t:=12) rfl (hdep ⟨6,.data⟩ qG0 rfl);refine a0F (i:=7) rfl rfl (fun c h =>by cases h) rfl ?_ (hK2 Z hS);have ec:∀ v,a.eval (.const v) = v:=fun _ =>rfl
   generalize a.eval = ev at *;simp [execOp,go_sem,ec,e12]
  ·cases ho;have e13:=hag.val_ (j:=7) (t:=13) rfl (hdep ⟨7,.data⟩ qG0 rfl);refine a0F (i:=8) rfl rfl (fun c h =>by cases h) rfl ?_ (hK2 Z hS);have ec:∀ v,a.eval (.const v) = v:=fun _ =>rfl
   generalize a.eval = ev at *;simp [execOp,go_sem,ec,e13,zz.1]
  ·cases ho;have e2:a.eval (.tmp 2) = .int .i64 (j:Nat):=hag.keep 2 rfl;refine a0F (i:=9) rfl rfl (fun c h =>by cases h) rfl ?_ (hK2 Z hS);have ec:∀ v,a.eval (.const v) = v:=fun _ =>rfl
   generalize a.eval = ev at *;simp [execOp,go_sem,ec,e2]
  ·cases ho;have e0:a.eval (.tmp 0) = .pointer (some ⟨R,0,none⟩):=hag.keep 0 rfl;refine a0F (i:=10) rfl rfl (fun c h =>by cases h) rfl ?_ (hK2 Z hS);have ec:∀ v,a.eval (.const v) = v:=fun _ =>rfl
   generalize a.eval = ev at *;simp [execOp,go_sem,ec,e0]
  ·cases ho;have e16:=hag.val_ (j:=10) (t:=16) rfl (hdep ⟨10,.data⟩ qG0 rfl);refine a0F (i:=11) rfl rfl (fun c h =>by cases h) rfl ?_ (hK2 Z hS);have ec:∀ v,a.eval (.const v) = v:=fun _ =>rfl
   generalize a.eval = ev at *;simp [execOp,go_sem,ec,e16]
  ·cases ho;have e17:=hag.val_ (j:=11) (t:=17) rfl (hdep ⟨11,.data⟩ qG0 rfl);refine a0F (i:=12) rfl rfl (fun c h =>by cases h) rfl ?_ (hK2 Z hS);have ec:∀ v,a.eval (.const v) = v:=fun _ =>rfl
   generalize a.eval = ev at *;simp [execOp,go_sem,ec,e17]
  ·cases ho;have e18:=hag.val_ (j:=12) (t:=18) rfl (hdep ⟨12,.data⟩ qG0 rfl);refine a0F (i:=13) rfl rfl (fun c h =>by cases h) rfl ?_ (hK2 Z hS);have ec:∀ v,a.eval (.const v) = v:=fun _ =>rfl
   generalize a.eval = ev at *;simp [execOp,go_sem,ec,e18,zz.1]
  ·cases ho;have e2:a.eval (.tmp 2) = .int .i64 (j:Nat):=hag.keep 2 rfl;refine a0F (i:=14) rfl rfl (fun c h =>by cases h) rfl ?_ (hK2 Z hS);have ec:∀ v,a.eval (.const v) = v:=fun _ =>rfl
   generalize a.eval = ev at *;simp [execOp,go_sem,ec,e2]
  ·cases ho;have e19:=hag.val_ (j:=13) (t:=19) rfl (hdep ⟨13,.data⟩ qG0 rfl);have e20:=hag.val_ (j:=14) (t:=20) rfl (hdep ⟨14,.data⟩ qG0 rfl);refine a0F (i:=15) rfl rfl (fun c h =>by cases h) ?_ ?_ (hK2 Z hS)
   ·generalize a.eval = ev at *;simp [Oper.about,resolve,Target.leads,Sem.run_pure,go_sem,e19,e20,hj,hj0]
   ·have ec:∀ v,a.eval (.const v) = v:=fun _ =>rfl
    generalize a.eval = ev at *;simp [execOp,go_sem,ec,e19,e20,hj,hj0]
  ·cases ho;have e21:=hag.val_ (j:=15) (t:=21) rfl (hdep ⟨15,.data⟩ qG0 rfl);refine a0F (i:=16) rfl rfl (fun c h =>by cases h) rfl ?_ (hK2 Z hS.k16);have ec:∀ v,a.eval (.const v) = v:=fun _ =>rfl
   generalize a.eval = ev at *;simp [execOp,go_sem,ec,e21,(hS.rdj hdn hj)]
  ·cases ho;have e0:a.eval (.tmp 0) = .pointer (some ⟨R,0,none⟩):=hag.keep 0 rfl;refine a0F (i:=17) rfl rfl (fun c h =>by cases h) rfl ?_ (hK2 Z hS);have ec:∀ v,a.eval (.const v) = v:=fun _ =>rfl
   generalize a.eval = ev at *;simp [execOp,go_sem,ec,e0]
  ·cases ho;have e23:=hag.val_ (j:=17) (t:=23) rfl (hdep ⟨17,.data⟩ qG0 rfl);refine a0F (i:=18) rfl rfl (fun c h =>by cases h) rfl ?_ (hK2 Z hS);have ec:∀ v,a.eval (.const v) = v:=fun _ =>rfl
   generalize a.eval = ev at *;simp [execOp,go_sem,ec,e23]
  ·cases ho;have e24:=hag.val_ (j:=18) (t:=24) rfl (hdep ⟨18,.data⟩ qG0 rfl);refine a0F (i:=19) rfl rfl (fun c h =>by cases h) rfl ?_ (hK2 Z hS);have ec:∀ v,a.eval (.const v) = v:=fun _ =>rfl
   generalize a.eval = ev at *;simp [execOp,go_sem,ec,e24]
  ·cases ho;have e25:=hag.val_ (j:=19) (t:=25) rfl (hdep ⟨19,.data⟩ qG0 rfl);refine a0F (i:=20) rfl rfl (fun c h =>by cases h) rfl ?_ (hK2 Z hS);have ec:∀ v,a.eval (.const v) = v:=fun _ =>rfl
   generalize a.eval = ev at *;simp [execOp,go_sem,ec,e25,zz.1]
  ·cases ho;have e1:a.eval (.tmp 1) = .int .i64 (i:Nat):=hag.keep 1 rfl;refine a0F (i:=21) rfl rfl (fun c h =>by cases h) rfl ?_ (hK2 Z hS);have ec:∀ v,a.eval (.const v) = v:=fun _ =>rfl
   generalize a.eval = ev at *;simp [execOp,go_sem,ec,e1]
  ·cases ho;have e26:=hag.val_ (j:=20) (t:=26) rfl (hdep ⟨20,.data⟩ qG0 rfl);have e27:=hag.val_ (j:=21) (t:=27) rfl (hdep ⟨21,.data⟩ qG0 rfl);refine a0F (i:=22) rfl rfl (fun c h =>by cases h) ?_ ?_ (hK2 Z hS)
   ·generalize a.eval = ev at *;simp [Oper.about,resolve,Target.leads,Sem.run_pure,go_sem,e26,e27,hi,hi0]
   ·have ec:∀ v,a.eval (.const v) = v:=fun _ =>rfl
    generalize a.eval = ev at *;simp [execOp,go_sem,ec,e26,e27,hi,hi0]
  ·cases ho;have e28:=hag.val_ (j:=22) (t:=28) rfl (hdep ⟨22,.data⟩ qG0 rfl);refine a0F (i:=23) rfl rfl (fun c h =>by cases h) rfl ?_ (hK2 Z hS.k23);have ec:∀ v,a.eval (.const v) = v:=fun _ =>rfl
   generalize a.eval = ev at *;simp [execOp,go_sem,ec,e28,(hS.rdi hdn hi)]
  ·cases ho;have e9:=hag.val_ (j:=3) (t:=9) rfl (hdep ⟨3,.data⟩ qG0 rfl);have e10:=hag.val_ (j:=4) (t:=10) rfl (hdep ⟨4,.data⟩ qG0 rfl);refine a0F (i:=24) rfl rfl (fun c h =>by cases h) ?_ ?_ (hK2 Z hS)
   ·generalize a.eval = ev at *;simp [Oper.about,resolve,Target.leads,Sem.run_pure,go_sem,e9,e10,hi,hi0]
   ·have ec:∀ v,a.eval (.const v) = v:=fun _ =>rfl
    generalize a.eval = ev at *;simp [execOp,go_sem,ec,e9,e10,hi,hi0]
  ·cases ho;have e30:=hag.val_ (j:=24) (t:=30) rfl (hdep ⟨24,.data⟩ qG0 rfl);have e22:=hag.val_ (j:=16) (t:=22) rfl (hdep ⟨16,.data⟩ qG0 rfl);refine a3C (i:=25) rfl rfl (fun c h =>by cases h) rfl (w':=Z.setCell ⟨gv,i,none⟩ (.int .i64 (pb:Nat))) ?_ (hK2 _ (hS.do25 (hdep ⟨16,.data⟩ qG0 rfl) (hdep ⟨23,.phase⟩ qG0 rfl) hdn HBK.out));have ec:∀ v,a.eval (.const v) = v:=fun _ =>rfl
   generalize a.eval = ev at *;simp [execOp,go_sem,ec,e30,e22,zci,zfi]
  ·cases ho;have e14:=hag.val_ (j:=8) (t:=14) rfl (hdep ⟨8,.data⟩ qG0 rfl);have e15:=hag.val_ (j:=9) (t:=15) rfl (hdep ⟨9,.data⟩ qG0 rfl);refine a0F (i:=26) rfl rfl (fun c h =>by cases h) ?_ ?_ (hK2 Z hS)
   ·generalize a.eval = ev at *;simp [Oper.about,resolve,Target.leads,Sem.run_pure,go_sem,e14,e15,hj,hj0]
   ·have ec:∀ v,a.eval (.const v) = v:=fun _ =>rfl
    generalize a.eval = ev at *;simp [execOp,go_sem,ec,e14,e15,hj,hj0]
  ·cases ho;have e31:=hag.val_ (j:=26) (t:=31) rfl (hdep ⟨26,.data⟩ qG0 rfl);have e29:=hag.val_ (j:=23) (t:=29) rfl (hdep ⟨23,.data⟩ qG0 rfl);refine a3C (i:=27) rfl rfl (fun c h =>by cases h) rfl (w':=Z.setCell ⟨gv,j,none⟩ (.int .i64 (pa:Nat))) ?_ (hK2 _ (hS.do27 (hdep ⟨25,.chain⟩ qG0 rfl) hdn HAK.out hi hj));have ec:∀ v,a.eval (.const v) = v:=fun _ =>rfl
   generalize a.eval = ev at *;simp [execOp,go_sem,ec,e31,e29,zcj,zfj]
 case ensw =>
  intro Z1 done hdn hS;simp only [putTmps,dstOf,zV1,zT0,zN1,Nat.reduceAdd,zB2,zK1,zT1,zK0,zN0,zX0,zY0];have hr:=hS.rs;have ht:=hS.ht;rw [hdn 27 qF0] at hr;simp only [if_true] at hr;have HR9:=zA0 hr;have HT9:=zA0 ht;clear hr ht hS hdn;go_wp2;refine bodyPost_end (results_none rfl _ _ _) rfl ?_;refine ⟨rfl,?_,HT9.out⟩;have e:swapL l i j = (l.set i pb).set j pa:=by
   unfold swapL;rw [zF0,zF0,HA.out,HBB.out];rfl
  rw [e];exact HR9.out
def par (i:Nat):Nat:=(i - 1) / 2
def Hp (k:Nat→Nat) (n:Nat):Prop:=∀ i,0 < i→i < n→k (par i)≤k i
def UpI (k:Nat→Nat) (n j:Nat):Prop:=(∀ i,0 < i→i < n→i≠j→k (par i)≤k i)∧∀ i,0 < i→i < n→0 < j→par i = j→k (par j)≤k i
def DnI (k:Nat→Nat) (n i:Nat):Prop:=(∀ m,0 < m→m < n→par m≠i→k (par m)≤k m)∧∀ m,0 < m→m < n→0 < i→par m = i→k (par i)≤k m
def swk (k:Nat→Nat) (a b:Nat):Nat→Nat:=fun i =>if i = a then k b else if i = b then k a else k i
theorem a4Z {i:Nat} (h:0 < i):par i < i:=by unfold par;omega
theorem UpI.zero {k:Nat→Nat} {n:Nat} (h:UpI k n 0):Hp k n:=fun i h0 hi =>h.1 i h0 hi qD0
theorem UpI.stop {k:Nat→Nat} {n j:Nat} (h:UpI k n j) (hk:¬ k j < k (par j)):Hp k n:=fun i h0 hi =>by
 by_cases e:i = j
 ·subst e;omega
 ·exact h.1 i h0 hi e
theorem UpI.step {k:Nat→Nat} {n j:Nat} (h:UpI k n j) (hj:0 < j) (hn:j < n) (hk:k j < k (par j)):UpI (swk k (par j) j) n (par j):=by
 have hp:=a4Z hj;refine ⟨fun i h0 hi hne =>?_,fun i h0 hi hp0 he =>?_⟩
 ·have hpi:=a4Z h0;by_cases e:i = j
  ·subst e;unfold swk;rw [if_pos rfl,if_neg qD0,if_pos rfl];omega
  ·have h1:=h.1 i h0 hi e;unfold swk;rw [if_neg hne,if_neg e];by_cases e2:par i = par j
   ·rw [if_pos e2];rw [e2] at h1;omega
   ·rw [if_neg e2];by_cases e3:par i = j
    ·rw [if_pos e3];exact h.2 i h0 hi hj e3
    ·rw [if_neg e3];exact h1
 ·have hpp:=a4Z hp0;have hpi:=a4Z h0;have h2:=h.1 (par j) hp0 qD0 qD0;unfold swk;rw [if_neg qD0,if_neg qD0];rw [if_neg qD0];by_cases e:i = j
  ·rw [if_pos e];exact h2
  ·rw [if_neg e];have h1:=h.1 i h0 hi e;rw [he] at h1;omega
theorem DnI.stop {k:Nat→Nat} {n i j:Nat} (h:DnI k n i) (hj:∀ m,0 < m→m < n→par m = i→k j≤k m) (hk:¬ k j < k i):Hp k n:=fun m h0 hm =>by
 by_cases e:par m = i
 ·have:=hj m h0 hm e;rw [e];omega
 ·exact h.1 m h0 hm e
theorem DnI.none {k:Nat→Nat} {n i:Nat} (h:DnI k n i) (hn:n≤2 * i + 1):Hp k n:=fun m h0 hm =>by
 by_cases e:par m = i
 ·unfold par at e;omega
 ·exact h.1 m h0 hm e
theorem DnI.step {k:Nat→Nat} {n i j:Nat} (h:DnI k n i) (hj:∀ m,0 < m→m < n→par m = i→k j≤k m) (hk:k j < k i) (hj0:0 < j) (hjn:j < n) (hpj:par j = i):DnI (swk k i j) n j:=by
 have hij:i < j:=by have:=a4Z hj0;omega
 refine ⟨fun m h0 hm hne =>?_,fun m h0 hm _ he =>?_⟩
 ·have hpm:=a4Z h0;by_cases e:m = j
  ·subst e;unfold swk;rw [if_pos hpj,if_neg qD0,if_pos rfl];omega
  ·by_cases e2:par m = i
   ·unfold swk;rw [if_pos e2,if_neg qD0,if_neg e];exact hj m h0 hm e2
   ·by_cases e3:m = i
    ·subst e3;unfold swk;rw [if_neg qD0,if_neg qD0,if_pos rfl];exact h.2 j hj0 hjn h0 hpj
    ·unfold swk;rw [if_neg e2,if_neg hne,if_neg e3,if_neg e];exact h.1 m h0 hm e2
 ·have hpm:=a4Z h0;have h1:=h.1 m h0 hm qD0;rw [he] at h1;unfold swk;rw [if_pos hpj,if_neg qD0,if_neg qD0];exact h1
theorem Hp.congr {k k':Nat→Nat} {n:Nat} (h:Hp k n) (e:∀ m,m < n→k' m = k m):Hp k' n:=fun i h0 hi =>by
 have:=a4Z h0;rw [e i hi,e (par i) qD0];exact h i h0 hi
theorem UpI.congr {k k':Nat→Nat} {n j:Nat} (h:UpI k n j) (e:∀ m,m < n→k' m = k m):UpI k' n j:=by
 refine ⟨fun i h0 hi hne =>?_,fun i h0 hi hj he =>?_⟩
 ·have:=a4Z h0;rw [e i hi,e (par i) qD0];exact h.1 i h0 hi hne
 ·have:=a4Z h0;have h3:=a4Z hj;rw [e i hi,e (par j) qD0];exact h.2 i h0 hi hj he
theorem DnI.congr {k k':Nat→Nat} {n j:Nat} (h:DnI k n j) (e:∀ m,m < n→k' m = k m):DnI k' n j:=by
 refine ⟨fun i h0 hi hne =>?_,fun i h0 hi hj he =>?_⟩
 ·have:=a4Z h0;rw [e i hi,e (par i) qD0];exact h.1 i h0 hi hne
 ·have:=a4Z h0;have h3:=a4Z hj;rw [e i hi,e (par j) qD0];exact h.2 i h0 hi hj he
theorem Hp.top {k:Nat→Nat} {n:Nat} (h:Hp k n):∀ i,i < n→k 0≤k i:=by
 intro i
 induction i using Nat.strongRecOn with
 | _ i ih =>
  intro hi;rcases zP1 i with h0 | h0
  ·rw [h0];exact zG0 _
  ·have:=a4Z h0;exact zH0 (ih (par i) this qD0) (h i h0 hi)
def kys (lw:Nat→Nat) (l:List Nat):Nat→Nat:=fun i =>lw (l.getD i 0)
theorem a3K (lw:Nat→Nat) (l:List Nat) (i:Nat) (h:i < l.length):lw l[i] = kys lw l i:=by
 unfold kys;rw [zF0,zE0 h];rfl
theorem b0B (lw:Nat→Nat) (l:List Nat) (i j:Nat) (hi:i < l.length) (hj:j < l.length) (m:Nat) (hm:m < l.length):kys lw (swapL l i j) m = swk (kys lw l) i j m:=by
 unfold kys swapL swk;simp only [zF0];rw [List.getElem?_set];by_cases e:j = m
 ·subst e;rw [if_pos rfl,zU1,if_pos hm];by_cases e2:j = i
  ·subst e2;simp
  ·simp [e2]
 ·rw [if_neg e,List.getElem?_set];by_cases e2:i = m
  ·subst e2;simp [hi]
  ·rw [if_neg e2,if_neg (Ne.symm e2),if_neg (Ne.symm e)]
theorem a8S (l:List Nat) (i j:Nat) (hi:i < l.length) (hj:j < l.length):(swapL l i j).Perm l:=by
 rw [List.perm_iff_count];intro a;unfold swapL;rw [List.count_set (by rw [zU1];exact hj),List.count_set hi];have h1:l.getD j 0 = l[j]:=by simp [zF0,hj]
 have h2:l.getD i 0 = l[i]:=by simp [zF0,hi]
 rw [h1,h2,List.getElem_set];have p1:l[i] = a→0 < l.count a:=fun e =>List.count_pos_iff.2 (e ▸ zD1 hi)
 have p2:l[j] = a→0 < l.count a:=fun e =>List.count_pos_iff.2 (e ▸ zD1 hj)
 by_cases e:i = j
 ·subst e;simp only [if_true];by_cases e1:l[i] = a
  ·have:=p1 e1;simp [e1];omega
  ·simp [e1]
 ·rw [if_neg e];by_cases e1:l[i] = a <;> by_cases e2:l[j] = a <;> simp [e1,e2] <;> (first | omega | (have:=p1 e1;omega) | (have:=p2 e2;omega) | skip)
theorem mLen (R:Nat) (w:World):(method 283 86 (.pointer (some ⟨R,0,none⟩)) "Len").run Tryz.prog w = .ok (53,.pointer (some ⟨R,0,none⟩)) w:=by kernel_rfl
theorem mLess (R:Nat) (w:World):(method 283 86 (.pointer (some ⟨R,0,none⟩)) "Less").run Tryz.prog w = .ok (139,.pointer (some ⟨R,0,none⟩)) w:=by kernel_rfl
theorem mSwap (R:Nat) (w:World):(method 283 86 (.pointer (some ⟨R,0,none⟩)) "Swap").run Tryz.prog w = .ok (142,.pointer (some ⟨R,0,none⟩)) w:=by kernel_rfl
theorem mPush (R:Nat) (w:World):(method 283 86 (.pointer (some ⟨R,0,none⟩)) "Push").run Tryz.prog w = .ok (141,.pointer (some ⟨R,0,none⟩)) w:=by kernel_rfl
theorem mPop (R:Nat) (w:World):(method 283 86 (.pointer (some ⟨R,0,none⟩)) "Pop").run Tryz.prog w = .ok (140,.pointer (some ⟨R,0,none⟩)) w:=by kernel_rfl
structure UP (B R bl K:Nat) (lw:Nat→Nat) (v:Value) (l0:List Nat) (W0:World) (j:Nat) (l:List Nat) (W:World):Prop where
 rs:RS B R bl K lw v l W
 pm:l.Perm l0
 up:UpI (kys lw l) l.length j
 ht:Ht B R W0 v W v
theorem up_any {B R bl K:Nat} {lw:Nat→Nat} {v:Value} {l:List Nat} {W:World} (h:RS B R bl K lw v l W) (j:Nat) (hj:j < l.length) (hu:UpI (kys lw l) l.length j) :
  Calls Tryz.prog 76 #[.iface 86 (.pointer (some ⟨R,0,none⟩)),.int .i64 (j:Nat)] W fun e W' =>e = .returned (.tuple #[])∧∃ l',RS B R bl K lw v l' W'∧l'.Perm l∧Hp (kys lw l') l'.length∧Ht B R W v W' v:=by
 have hm1:=mLess R;have hm2:=mSwap R;have H0:=zA0 (show UP B R bl K lw v l W j l W from ⟨h,List.Perm.refl _,hu,Ht.refl _ _ _ _⟩);have HLN:=zA0 h.len;clear h hu;go_enter Tryz.func76,Tryz.ntmps76
 go_wp2;go_loopg [1] j (fun kq v1 w' =>v1 = .int .i64 (kq:Nat)∧kq < l.length∧∃ l',Hid (UP B R bl K lw v l W kq l' w'))
 case atStart =>exact ⟨rfl,hj,l,H0⟩
 case round =>
  obtain ⟨rfl,hjl,l1,HU⟩:=hrel;rcases zP1 gk with h0 | h0
  ·subst h0;go_wp2;refine bodyPost_end (results_none rfl _ _ _) rfl ?_;exact ⟨rfl,l1,HU.out.rs,HU.out.pm,HU.out.up.zero,HU.out.ht⟩
  ·obtain ⟨q,rfl⟩:∃ q,gk = q + 1:=⟨gk - 1,by omega⟩;obtain ⟨p,hp⟩:∃ p,p = par (q + 1):=⟨_,rfl⟩;have hpq:p = q / 2:=by rw [hp];unfold par;rw [Nat.add_sub_cancel]
   have hlen1:l1.length = l.length:=HU.out.pm.length_eq;have hl1:q + 1 < l1.length:=by omega
   have hpl:p < l1.length:=by omega
   have hln:=HLN.out;have hw1:wrap64 (q:Int) = (q:Int):=by simp only [wrap64];omega
   have hw2:wrap64 ((q:Int).tdiv 2) = (p:Int):=by
    have e:(q:Int).tdiv 2 = ((q / 2:Nat):Int):=by rw [Int.tdiv_eq_ediv_of_nonneg (zI0 q)];rfl
    rw [e,← hpq];simp only [wrap64];omega
   have hw3:wrap64 ((q:Int) / 2) = (p:Int):=by simp only [wrap64];omega
   have hne:((p:Int) == (q:Int) + 1) = false:=by simp;omega
   have hless:=a5G HU.out.rs (q + 1) p hl1 hpl;rw [a3K lw l1 (q + 1) hl1,a3K lw l1 p hpl] at hless;have HP:=zA0 hp;have HPQ:=zA0 hpq;have HL1:=zA0 hl1;have HPL:=zA0 hpl;clear hp hpq hl1 hpl hlen1 hln;by_cases hlt:kys lw l1 (q + 1) < kys lw l1 p
   ·rw [show decide (kys lw l1 (q + 1) < kys lw l1 p) = true from zC0 hlt] at hless;have HLESS:=zA0 (show Calls Tryz.prog 139 #[.pointer (some ⟨R,0,none⟩),.int .i64 ((q:Int) + 1),.int .i64 (p:Nat)] wr fun e W' =>e = .returned (.bool true)∧∃ n,W' = wr.drewN n from hless);have HLT:=zA0 hlt;clear hless hlt
    go_upto_region 2 with (first
     | (go_at_call 139;(with_reducible refine HLESS.out.mono ?_;rintro x w1 ⟨rfl,nd,rfl⟩)))
    have hswap:=a8F (HU.out.rs.drew nd) p (q + 1) HPL.out HL1.out;have HSWAP:=zA0 (show Calls Tryz.prog 142 #[.pointer (some ⟨R,0,none⟩),.int .i64 (p:Nat),.int .i64 ((q:Int) + 1)] (wr.drewN nd) fun e W' =>e = .returned (.tuple #[])∧RS B R bl K lw v (swapL l1 p (q + 1)) W'∧Ht B R (wr.drewN nd) v W' v from hswap);clear hswap
    go_wp2_with (first
     | (go_at_call 142;(with_reducible refine HSWAP.out.mono ?_;rintro x w2 ⟨rfl,hrs2,hht2⟩;have HRS2:=zA0 hrs2;have HHT2:=zA0 hht2;clear hrs2 hht2)))
    go_roundg p
    case measure =>have:=HPQ.out;omega
    case rel =>
     refine ⟨rfl,by have:=HPL.out;have:=HU.out.pm.length_eq;omega,swapL l1 p (q + 1),zA0 ⟨HRS2.out,(a8S l1 p (q + 1) HPL.out HL1.out).trans HU.out.pm,?_,(HU.out.ht.drew nd).trans HHT2.out⟩⟩;rw [b0O];refine UpI.congr ?_ (fun m hm =>b0B lw l1 p (q + 1) HPL.out HL1.out m hm);have hk:kys lw l1 (q + 1) < kys lw l1 (par (q + 1)):=by
      rw [← HP.out];exact HLT.out
     have:=HU.out.up.step (Nat.succ_pos q) HL1.out hk;rw [← HP.out] at this;exact this
   ·rw [show decide (kys lw l1 (q + 1) < kys lw l1 p) = false from zL0 hlt] at hless;have HLESS:=zA0 (show Calls Tryz.prog 139 #[.pointer (some ⟨R,0,none⟩),.int .i64 ((q:Int) + 1),.int .i64 (p:Nat)] wr fun e W' =>e = .returned (.bool false)∧∃ n,W' = wr.drewN n from hless);have HLT:=zA0 hlt;clear hless hlt
    go_wp2_with (first
     | (go_at_call 139;(with_reducible refine HLESS.out.mono ?_;rintro x w1 ⟨rfl,nd,rfl⟩)))
    refine bodyPost_end (results_none rfl _ _ _) rfl ?_;refine ⟨rfl,l1,HU.out.rs.drew nd,HU.out.pm,HU.out.up.stop ?_,HU.out.ht.drew nd⟩;rw [← HP.out];exact HLT.out
structure DN (B R bl K:Nat) (lw:Nat→Nat) (v:Value) (l0:List Nat) (W0:World) (n i:Nat) (l:List Nat) (W:World):Prop where
 rs:RS B R bl K lw v l W
 pm:l.Perm l0
 dn:DnI (kys lw l) n i
 hi:∀ m,n≤m→l[m]? = l0[m]?
 ht:Ht B R W0 v W v
theorem c0K (l:List Nat) (i j m:Nat) (hi:i≠m) (hj:j≠m):(swapL l i j)[m]? = l[m]?:=by
 unfold swapL;rw [List.getElem?_set,if_neg hj,List.getElem?_set,if_neg hi]
theorem DN.next {B R bl K:Nat} {lw:Nat→Nat} {v:Value} {l0 l:List Nat} {W0 W W1:World} {n i j:Nat} (h:DN B R bl K lw v l0 W0 n i l W) (hn:n≤l0.length) (hj0:0 < j) (hjn:j < n) (hin:i < n) (hp:par j = i)
  (hm:∀ m,0 < m→m < n→par m = i→kys lw l j≤kys lw l m) (hk:kys lw l j < kys lw l i) (hr:RS B R bl K lw v (swapL l i j) W1) (ht:Ht B R W0 v W1 v):DN B R bl K lw v l0 W0 n j (swapL l i j) W1:=by
 have hl:=h.pm.length_eq;refine ⟨hr,(a8S l i j qD0 qD0).trans h.pm,?_,fun m hm =>(c0K l i j m qD0 qD0).trans (h.hi m hm),ht⟩;exact (h.dn.step hm hk hj0 hjn hp).congr (fun m hm =>b0B lw l i j qD0 qD0 m qD0)
set_option maxHeartbeats 4000000 in
theorem down_any {B R bl K:Nat} {lw:Nat→Nat} {v:Value} {l:List Nat} {W:World} (h:RS B R bl K lw v l W) (n:Nat) (hn:n≤l.length) (hd:DnI (kys lw l) n 0) :
  Calls Tryz.prog 77 #[.iface 86 (.pointer (some ⟨R,0,none⟩)),.int .i64 0,.int .i64 (n:Nat)] W fun e W' =>(∃ b,e = .returned (.bool b))∧∃ l',RS B R bl K lw v l' W'∧l'.Perm l∧Hp (kys lw l') n∧(∀ m,n≤m→l'[m]? = l[m]?)∧Ht B R W v W' v:=by
 have hm1:=mLess R;have hm2:=mSwap R;have H0:=zA0 (show DN B R bl K lw v l W n 0 l W from ⟨h,List.Perm.refl _,hd,fun _ _ =>rfl,Ht.refl _ _ _ _⟩);have hln:=h.len;have HL0:=zA0 hn;have hn1:n≤1000:=by omega
 clear h hd hn hln;go_enter Tryz.func77,Tryz.ntmps77
 go_wp2;go_loopg [7] n (fun kq v7 w' =>∃ (i:Nat) (l':List Nat),v7 = .int .i64 (i:Nat)∧i + kq = n∧(i < n∨i = 0)∧Hid (DN B R bl K lw v l W n i l' w'))
 case atStart =>exact ⟨0,l,rfl,by omega,.inr rfl,H0⟩
 case round =>
  obtain ⟨i,l1,rfl,hik,hin,HU⟩:=hrel;obtain ⟨c,hc⟩:∃ c,c = 2 * i + 1:=⟨_,rfl⟩;have hw1:wrap64 (2 * (i:Int)) = 2 * (i:Int):=by simp only [wrap64];omega
  have hw2:wrap64 (2 * (i:Int) + 1) = (c:Int):=by simp only [wrap64];omega
  have hw4:wrap64 ((c:Int) + 1) = (c:Int) + 1:=by simp only [wrap64];omega
  have hc0:¬ ((c:Int) < 0):=by omega
  have HLN:=zA0 (show n≤l1.length∧n≤1000 from ⟨by rw [HU.out.pm.length_eq];exact HL0.out,hn1⟩);by_cases hlt:c < n
  ·have hle:¬ (n≤c):=by omega
   have HC:=zA0 (show c = 2 * i + 1∧i < n∧c < n∧i + gk = n from ⟨hc,by omega,hlt,hik⟩);clear hc hik hin;by_cases hj2:c + 1 < n
   ·by_cases hkk:kys lw l1 (c + 1) < kys lw l1 c
    ·have HK2:=zA0 hkk
     have HL2:=zA0 (show Calls Tryz.prog 139 #[.pointer (some ⟨R,0,none⟩),.int .i64 ((c:Int) + 1),.int .i64 (c:Nat)] (wr) fun e W' =>e = .returned (.bool true)∧∃ n,W' = World.drewN (wr) n from by
      have q:=a5G (HU.out.rs) (c + 1) c qJ0 qJ0;rw [a3K lw l1 (c + 1) qJ0,a3K lw l1 c qJ0] at q;rw [show decide (kys lw l1 (c + 1) < kys lw l1 c) = true from zC0 hkk] at q
      exact q)
     clear hkk
     go_upto_region 8 with (first
      | (go_at_call 139;(with_reducible refine HL2.out.mono ?_;rintro x w1 ⟨rfl,n1,rfl⟩)))
     have hmin:∀ m,0 < m→m < n→par m = i→kys lw l1 (c + 1)≤kys lw l1 m:=by
      intro m h0 hm hp;have hc:=HC.out;have:m = c∨m = c + 1:=by unfold par at hp;omega
      rcases this with rfl | rfl
      ·have:=HK2.out;omega
      ·exact zG0 _
     have HMIN:=zA0 hmin;clear hmin;by_cases hkk:kys lw l1 (c + 1) < kys lw l1 i
     ·have HKK:=zA0 hkk
      have HL3:=zA0 (show Calls Tryz.prog 139 #[.pointer (some ⟨R,0,none⟩),.int .i64 ((c:Int) + 1),.int .i64 (i:Nat)] (World.drewN wr n1) fun e W' =>e = .returned (.bool true)∧∃ n,W' = World.drewN (World.drewN wr n1) n from by
       have q:=a5G (HU.out.rs.drew n1) (c + 1) i qJ0 qJ0;rw [a3K lw l1 (c + 1) qJ0,a3K lw l1 i qJ0] at q;rw [show decide (kys lw l1 (c + 1) < kys lw l1 i) = true from zC0 hkk] at q
       exact q)
      clear hkk
      go_upto_region 9 with (first
       | (go_at_call 139;(with_reducible refine HL3.out.mono ?_;rintro x w2 ⟨rfl,n2,rfl⟩)))
      have HSW:=zA0 (show Calls Tryz.prog 142 #[.pointer (some ⟨R,0,none⟩),.int .i64 (i:Nat),.int .i64 ((c:Int) + 1)] (World.drewN wr (n1 + n2)) fun e W' =>e = .returned (.tuple #[])∧RS B R bl K lw v (swapL l1 i (c + 1)) W'∧Ht B R (World.drewN wr (n1 + n2)) v W' v from a8F ((HU.out.rs).drew (n1 + n2)) i (c + 1) qJ0 qJ0)
      go_wp2_with (first
       | (go_at_call 142;(with_reducible refine HSW.out.mono ?_;rintro x w3 ⟨rfl,hrs3,hht3⟩;have HRS3:=zA0 hrs3;have HHT3:=zA0 hht3;clear hrs3 hht3)))
      go_roundg (n - (c + 1))
      case measure =>have:=HC.out;omega
      case rel =>
       exact ⟨(c + 1),swapL l1 i (c + 1),rfl,by have:=HC.out;omega,by have:=HC.out;omega,zA0 (HU.out.next HL0.out qZ1 qZ1 qZ1 (by unfold par;have:=HC.out;omega) HMIN.out HKK.out HRS3.out (((HU.out.ht).drew (n1 + n2)).trans HHT3.out))⟩
     ·have HKK:=zA0 hkk
      have HL3:=zA0 (show Calls Tryz.prog 139 #[.pointer (some ⟨R,0,none⟩),.int .i64 ((c:Int) + 1),.int .i64 (i:Nat)] (World.drewN wr n1) fun e W' =>e = .returned (.bool false)∧∃ n,W' = World.drewN (World.drewN wr n1) n from by
       have q:=a5G (HU.out.rs.drew n1) (c + 1) i qJ0 qJ0;rw [a3K lw l1 (c + 1) qJ0,a3K lw l1 i qJ0] at q;rw [show decide (kys lw l1 (c + 1) < kys lw l1 i) = false from zL0 hkk] at q
       exact q)
      clear hkk
      go_wp2_with (first
       | (go_at_call 139;(with_reducible refine HL3.out.mono ?_;rintro x w2 ⟨rfl,n2,rfl⟩)))
      go_ret;exact qX3
    ·have HK2:=zA0 hkk
     have HL2:=zA0 (show Calls Tryz.prog 139 #[.pointer (some ⟨R,0,none⟩),.int .i64 ((c:Int) + 1),.int .i64 (c:Nat)] (wr) fun e W' =>e = .returned (.bool false)∧∃ n,W' = World.drewN (wr) n from by
      have q:=a5G (HU.out.rs) (c + 1) c qJ0 qJ0;rw [a3K lw l1 (c + 1) qJ0,a3K lw l1 c qJ0] at q;rw [show decide (kys lw l1 (c + 1) < kys lw l1 c) = false from zL0 hkk] at q
      exact q)
     clear hkk
     go_upto_region 8 with (first
      | (go_at_call 139;(with_reducible refine HL2.out.mono ?_;rintro x w1 ⟨rfl,n1,rfl⟩)))
     have hmin:∀ m,0 < m→m < n→par m = i→kys lw l1 c≤kys lw l1 m:=by
      intro m h0 hm hp;have hc:=HC.out;have:m = c∨m = c + 1:=by unfold par at hp;omega
      rcases this with rfl | rfl
      ·exact zG0 _
      ·have:=HK2.out;omega
     have HMIN:=zA0 hmin;clear hmin;by_cases hkk:kys lw l1 c < kys lw l1 i
     ·have HKK:=zA0 hkk
      have HL3:=zA0 (show Calls Tryz.prog 139 #[.pointer (some ⟨R,0,none⟩),.int .i64 (c:Nat),.int .i64 (i:Nat)] (World.drewN wr n1) fun e W' =>e = .returned (.bool true)∧∃ n,W' = World.drewN (World.drewN wr n1) n from by
       have q:=a5G (HU.out.rs.drew n1) c i qJ0 qJ0;rw [a3K lw l1 c qJ0,a3K lw l1 i qJ0] at q;rw [show decide (kys lw l1 c < kys lw l1 i) = true from zC0 hkk] at q
       exact q)
      clear hkk
      go_upto_region 9 with (first
       | (go_at_call 139;(with_reducible refine HL3.out.mono ?_;rintro x w2 ⟨rfl,n2,rfl⟩)))
      have HSW:=zA0 (show Calls Tryz.prog 142 #[.pointer (some ⟨R,0,none⟩),.int .i64 (i:Nat),.int .i64 (c:Nat)] (World.drewN wr (n1 + n2)) fun e W' =>e = .returned (.tuple #[])∧RS B R bl K lw v (swapL l1 i c) W'∧Ht B R (World.drewN wr (n1 + n2)) v W' v from a8F ((HU.out.rs).drew (n1 + n2)) i c qJ0 qJ0)
      go_wp2_with (first
       | (go_at_call 142;(with_reducible refine HSW.out.mono ?_;rintro x w3 ⟨rfl,hrs3,hht3⟩;have HRS3:=zA0 hrs3;have HHT3:=zA0 hht3;clear hrs3 hht3)))
      go_roundg (n - c)
      case measure =>have:=HC.out;omega
      case rel =>
       exact ⟨c,swapL l1 i c,rfl,by have:=HC.out;omega,by have:=HC.out;omega,zA0 (HU.out.next HL0.out qZ1 qZ1 qZ1 (by unfold par;have:=HC.out;omega) HMIN.out HKK.out HRS3.out (((HU.out.ht).drew (n1 + n2)).trans HHT3.out))⟩
     ·have HKK:=zA0 hkk
      have HL3:=zA0 (show Calls Tryz.prog 139 #[.pointer (some ⟨R,0,none⟩),.int .i64 (c:Nat),.int .i64 (i:Nat)] (World.drewN wr n1) fun e W' =>e = .returned (.bool false)∧∃ n,W' = World.drewN (World.drewN wr n1) n from by
       have q:=a5G (HU.out.rs.drew n1) c i qJ0 qJ0;rw [a3K lw l1 c qJ0,a3K lw l1 i qJ0] at q;rw [show decide (kys lw l1 c < kys lw l1 i) = false from zL0 hkk] at q
       exact q)
      clear hkk
      go_wp2_with (first
       | (go_at_call 139;(with_reducible refine HL3.out.mono ?_;rintro x w2 ⟨rfl,n2,rfl⟩)))
      go_ret;exact qX3
   ·go_upto_region 8 with (fail)
    have hmin:∀ m,0 < m→m < n→par m = i→kys lw l1 c≤kys lw l1 m:=by
     intro m h0 hm hp;have hc:=HC.out;have:m = c∨m = c + 1:=by unfold par at hp;omega
     rcases this with rfl | rfl
     ·exact zG0 _
     ·omega
    have HMIN:=zA0 hmin;clear hmin;by_cases hkk:kys lw l1 c < kys lw l1 i
    ·have HKK:=zA0 hkk
     have HL3:=zA0 (show Calls Tryz.prog 139 #[.pointer (some ⟨R,0,none⟩),.int .i64 (c:Nat),.int .i64 (i:Nat)] (wr) fun e W' =>e = .returned (.bool true)∧∃ n,W' = World.drewN (wr) n from by
      have q:=a5G (HU.out.rs) c i qJ0 qJ0;rw [a3K lw l1 c qJ0,a3K lw l1 i qJ0] at q;rw [show decide (kys lw l1 c < kys lw l1 i) = true from zC0 hkk] at q
      exact q)
     clear hkk
     go_upto_region 9 with (first
      | (go_at_call 139;(with_reducible refine HL3.out.mono ?_;rintro x w2 ⟨rfl,n2,rfl⟩)))
     have HSW:=zA0 (show Calls Tryz.prog 142 #[.pointer (some ⟨R,0,none⟩),.int .i64 (i:Nat),.int .i64 (c:Nat)] (World.drewN wr n2) fun e W' =>e = .returned (.tuple #[])∧RS B R bl K lw v (swapL l1 i c) W'∧Ht B R (World.drewN wr n2) v W' v from a8F ((HU.out.rs).drew n2) i c qJ0 qJ0)
     go_wp2_with (first
      | (go_at_call 142;(with_reducible refine HSW.out.mono ?_;rintro x w3 ⟨rfl,hrs3,hht3⟩;have HRS3:=zA0 hrs3;have HHT3:=zA0 hht3;clear hrs3 hht3)))
     go_roundg (n - c)
     case measure =>have:=HC.out;omega
     case rel =>
      exact ⟨c,swapL l1 i c,rfl,by have:=HC.out;omega,by have:=HC.out;omega,zA0 (HU.out.next HL0.out qZ1 qZ1 qZ1 (by unfold par;have:=HC.out;omega) HMIN.out HKK.out HRS3.out (((HU.out.ht).drew n2).trans HHT3.out))⟩
    ·have HKK:=zA0 hkk
     have HL3:=zA0 (show Calls Tryz.prog 139 #[.pointer (some ⟨R,0,none⟩),.int .i64 (c:Nat),.int .i64 (i:Nat)] (wr) fun e W' =>e = .returned (.bool false)∧∃ n,W' = World.drewN (wr) n from by
      have q:=a5G (HU.out.rs) c i qJ0 qJ0;rw [a3K lw l1 c qJ0,a3K lw l1 i qJ0] at q;rw [show decide (kys lw l1 c < kys lw l1 i) = false from zL0 hkk] at q
      exact q)
     clear hkk
     go_wp2_with (first
      | (go_at_call 139;(with_reducible refine HL3.out.mono ?_;rintro x w2 ⟨rfl,n2,rfl⟩)))
     go_ret;exact ⟨⟨_,rfl⟩,l1,(HU.out.rs).drew n2,HU.out.pm,HU.out.dn.stop HMIN.out HKK.out,HU.out.hi,(HU.out.ht).drew n2⟩
  ·have hle:n≤c:=by omega
   have HC:=zA0 (show c = 2 * i + 1 from hc);clear hc hik hin;go_wp2;go_ret;refine ⟨?_,l1,HU.out.rs,HU.out.pm,HU.out.dn.none (by rw [← HC.out];exact hle),HU.out.hi,HU.out.ht⟩;by_cases e:0 < i
   ·right;simp [e]
   ·left;simp [e]
theorem b5N {B R bl K:Nat} {lw:Nat→Nat} {v:Value} {l:List Nat} {W:World} (h:RS B R bl K lw v l W) (hh:Hp (kys lw l) l.length) (x:Nat) (hx:x < K) (hl:l.length + 1≤1000) (hB:B≤W.heap.size) :
  Calls Tryz.prog 52 #[.iface 86 (.pointer (some ⟨R,0,none⟩)),.iface 3 (.int .i64 (x:Nat))] W fun e W' =>e = .returned (.tuple #[])∧∃ v' l',RS B R bl K lw v' l' W'∧l'.Perm (l ++ [x])∧Hp (kys lw l') l'.length∧Ht B R W v W' v':=by
 have hm1:=mPush R;have hm2:=mLen R;have hpush:=push_any h x hx hl hB;have HPUSH:=zA0 hpush;have hup:UpI (kys lw (l ++ [x])) (l ++ [x]).length l.length:=by
  rw [zR0];refine ⟨fun i h0 hi hne =>?_,fun i h0 hi hj he =>?_⟩
  ·have hi':i < l.length:=by simp at hi;omega
   have hp:=a4Z h0;have e:∀ m,m < l.length→kys lw (l ++ [x]) m = kys lw l m:=fun m hm =>by
    unfold kys;rw [zF0,zF0,List.getElem?_append_left hm]
   rw [e i hi',e (par i) qD0];exact hh i h0 hi'
  ·exfalso;simp at hi;unfold par at he;omega
 have HUP:=zA0 hup;have hw1:wrap64 ((l.length:Int)) = (l.length:Int):=by simp only [wrap64];omega
 have HB:=zA0 hB;clear hpush hup hh h hB;go_enter Tryz.func52,Tryz.ntmps52
 go_upto_region 1 with (first
  | (go_at_call 141;(with_reducible refine HPUSH.out.mono ?_;rintro z w1 ⟨rfl,v1,hrs1,hht1⟩;have HRS1:=zA0 hrs1;have HHT1:=zA0 hht1;clear hrs1 hht1)))
 have hlen:=b6Q HRS1.out;have HLEN:=zA0 hlen;have HUPA:=zA0 (up_any HRS1.out l.length (by rw [zR0];exact zS0 _) HUP.out);clear hlen;have hla:((l ++ [x]).length:Int) = (l.length:Int) + 1:=by simp
 go_wp2_with (first
  | (go_at_call 53;(with_reducible refine HLEN.out.mono ?_;rintro z w2 ⟨rfl,hw2⟩;obtain rfl:w1 = w2:=hw2.symm))
  | (go_at_call 76;(with_reducible refine HUPA.out.mono ?_;rintro z w3 ⟨rfl,l3,hrs3,hpm3,hhp3,hht3⟩;have HRS3:=zA0 hrs3;have HPM3:=zA0 hpm3;have HHP3:=zA0 hhp3;have HHT3:=zA0 hht3;clear hrs3 hpm3 hhp3 hht3)))
 refine bodyPost_end (results_none rfl _ _ _) rfl ?_;exact ⟨rfl,v1,l3,HRS3.out,HPM3.out,HHP3.out,HHT1.out.trans HHT3.out⟩
theorem pop_dn {lw:Nat→Nat} {l:List Nat} {k:Nat} (hk:l.length = k + 1) (hh:Hp (kys lw l) l.length):DnI (kys lw (swapL l 0 k)) k 0:=by
 refine ⟨fun m h0 hm hne =>?_,fun m h0 hm h _ =>absurd h (zX1 0)⟩;have hp:=a4Z h0;rw [b0B lw l 0 k qD0 qD0 m qD0,b0B lw l 0 k qD0 qD0 (par m) qD0];unfold swk;rw [if_neg hne,if_neg qD0,if_neg qD0,if_neg qD0];exact hh m h0 qD0
theorem take_hp {lw:Nat→Nat} {l:List Nat} {k:Nat} (hk:k≤l.length) (h:Hp (kys lw l) k):Hp (kys lw (l.take k)) (l.take k).length:=by
 have hl:(l.take k).length = k:=by rw [zG1];omega
 rw [hl];refine h.congr (fun m hm =>?_);unfold kys;rw [zF0,zF0,List.getElem?_take,if_pos hm]
theorem pop_perm {l l2:List Nat} {k x:Nat} (hk:l2.length = k + 1) (hx:l2[k]? = some x) (hp:l2.Perm l):(x :: l2.take k).Perm l:=by
 obtain ⟨h1,h2⟩:=List.getElem?_eq_some_iff.1 hx;have e:l2 = l2.take k ++ [x]:=by
  have:=zV0 h1;rw [h2] at this;rw [← this,← hk,zH1]
 refine List.Perm.trans ?_ hp
 conv =>rhs;rw [e]
 exact (List.perm_append_singleton x _).symm
theorem hpop_any {B R bl K:Nat} {lw:Nat→Nat} {v:Value} {l:List Nat} {W:World} (h:RS B R bl K lw v l W) (hh:Hp (kys lw l) l.length) (hp:0 < l.length) (hB:B≤W.heap.size) :
  Calls Tryz.prog 54 #[.iface 86 (.pointer (some ⟨R,0,none⟩))] W fun e W' =>∃ x v' l',e = .returned (.iface 3 (.int .i64 (x:Nat)))∧RS B R bl K lw v' l' W'∧(x :: l').Perm l∧Hp (kys lw l') l'.length∧Ht B R W v W' v'∧∀ y,y ∈ l→lw x≤lw y:=by
 have hm1:=mLen R;have hm2:=mSwap R;have hm3:=mPop R;obtain ⟨k,hk⟩:∃ k,l.length = k + 1:=⟨l.length - 1,by omega⟩;have hkl:=h.len;have hw1:wrap64 (k:Int) = (k:Int):=by simp only [wrap64];omega
 obtain ⟨x,hx⟩:∃ x,l[0]? = some x:=⟨_,zE0 hp⟩;have hmin:∀ y,y ∈ l→lw x≤lw y:=by
  intro y hy;obtain ⟨i,hi,rfl⟩:=List.getElem_of_mem hy;have:=hh.top i hi;unfold kys at this;rw [zF0,zF0,hx,zE0 hi] at this;exact this
 have hdn:=pop_dn hk hh;have hlen:=b6Q h;rw [hk] at hlen;have hswap:=a8F h 0 k qD0 qD0;have HLEN:=zA0 (show Calls Tryz.prog 53 #[.pointer (some ⟨R,0,none⟩)] W fun e W' =>e = .returned (.int .i64 ((k:Int) + 1))∧W' = W from hlen);have HSW:=zA0 (show Calls Tryz.prog 142 #[.pointer (some ⟨R,0,none⟩),.int .i64 0,.int .i64 (k:Nat)] W fun e W' =>e = .returned (.tuple #[])∧RS B R bl K lw v (swapL l 0 k) W'∧Ht B R W v W' v from hswap);have HDNI:=zA0 hdn;have HK:=zA0 hk;have HX:=zA0 hx;have HMIN:=zA0 hmin;have HB:=zA0 hB;clear hlen hswap hdn hk hx hmin hB h hh hp hkl;go_enter Tryz.func54,Tryz.ntmps54
 go_upto_region 3 with (first
  | (go_at_call 53;(with_reducible refine HLEN.out.mono ?_;rintro z w2 ⟨rfl,hw2⟩;obtain rfl:W = w2:=hw2.symm))
  | (go_at_call 142;(with_reducible refine HSW.out.mono ?_;rintro z w2 ⟨rfl,hrs2,hht2⟩;have HRS2:=zA0 hrs2;have HHT2:=zA0 hht2;clear hrs2 hht2)))
 have HDOWN:=zA0 (down_any HRS2.out k (by rw [b0O,HK.out];exact Nat.le_succ k) HDNI.out)
 go_upto_region 4 with (first
  | (go_at_call 77;(with_reducible refine HDOWN.out.mono ?_;rintro z w3 ⟨⟨b3,rfl⟩,l3,hrs3,hpm3,hhp3,hfar3,hht3⟩;have HRS3:=zA0 hrs3;have HPM3:=zA0 hpm3;have HHP3:=zA0 hhp3;have HHT3:=zA0 hht3;have HFAR3:=zA0 hfar3;clear hrs3 hpm3 hhp3 hht3 hfar3)))
 have hl3:l3.length = k + 1:=by rw [HPM3.out.length_eq,b0O];exact HK.out
 have hx3:l3[k]? = some x:=by
  rw [HFAR3.out k (zG0 k)];unfold swapL;rw [List.getElem?_set,if_pos rfl,zU1,if_pos (by have:=HK.out;omega),zF0,HX.out];rfl
 have hpop:=pop_any HRS3.out qD0 (zH0 HB.out (HHT2.out.trans HHT3.out).be.size);have hlx:l3[l3.length - 1]'qD0 = x:=by
  obtain ⟨h1,h2⟩:=List.getElem?_eq_some_iff.1 hx3;have:l3.length - 1 = k:=by omega
  simp only [this];exact h2
 rw [hlx,show l3.length - 1 = k by omega] at hpop;have HPOP:=zA0 hpop;have HL3:=zA0 hl3;have HX3:=zA0 hx3;clear hpop hlx hl3 hx3
 go_wp2_with (first
  | (go_at_call 140;(with_reducible refine HPOP.out.mono ?_;rintro z w4 ⟨rfl,v4,hrs4,hht4⟩;have HRS4:=zA0 hrs4;have HHT4:=zA0 hht4;clear hrs4 hht4)))
 go_ret;exact ⟨x,v4,l3.take k,rfl,HRS4.out,pop_perm HL3.out HX3.out (HPM3.out.trans (a8S l 0 k (by have:=HK.out;omega) (by have:=HK.out;omega))),take_hp (by have:=HL3.out;omega) HHP3.out,(HHT2.out.trans HHT3.out).trans HHT4.out,HMIN.out⟩
def ix9 (bo bof M n mm:Nat) (g:List (List Int)) (cls:Nat→Nat) (v:Nat→Value) (i:Nat):Value:=match i with | 0 =>.slice (some ⟨bo,0,none⟩) M M | 1 =>.slice (some ⟨bof,0,none⟩) g.length g.length | 2 =>.int .i64 (n:Nat) | 3 =>.pointer (some ⟨bof,n,none⟩) | 4 =>.int .i64 (cls n:Nat) | 5 =>.slice (some ⟨bo,0,none⟩) M M | 6 =>.slice (some ⟨bof,0,none⟩) g.length g.length | 7 =>.int .i64 (n:Nat) | 8 =>.pointer (some ⟨bof,n,none⟩) | 9 =>.int .i64 (cls n:Nat) | 10 =>.pointer (some ⟨bo,cls n,none⟩) | 11 =>v (cls n) | 12 =>.slice (some ⟨bof,0,none⟩) g.length g.length | 13 =>.int .i64 (mm:Nat) | 14 =>.pointer (some ⟨bof,mm,none⟩) | 15 =>.int .i64 (cls mm:Nat) | 18 =>.pointer (some ⟨bo,cls n,none⟩) | _ =>undef
def cst9 (i:Nat):Bool:=i != 16 && i != 17 && i != 19
structure S9 (B bo bof M n mm:Nat) (g:List (List Int)) (cls:Nat→Nat) (v:Nat→Value) (r:Nat→List Nat) (W:World) (done:Nat→Bool) (val:Nat→Value) (Z:World):Prop where
 of:W.heap[bof]? = some (.cells (ints g.length cls) 3 (0,0))
 lo:bof < B
 fd:FD B bo M v r W
 vv:∀ i,done i = true→cst9 i = true→val i = ix9 bo bof M n mm g cls v i
 n11:done 11 = false→done 17 = false
 n16:done 16 = false→done 17 = false
 n17:done 17 = false→done 19 = false
 pz:done 17 = false→Below W.heap.size W Z
 b16:done 16 = true→done 17 = false→∃ Z0,Z = Z0.alloc (.cells #[.int .i64 (cls mm:Nat)] 3)∧val 16 = .slice (some ⟨Z0.heap.size,0,none⟩) 1 1∧Below W.heap.size W Z0
 s17:done 17 = true→done 19 = false→∃ v1,val 17 = v1∧kI.R 3 Z B (fun k =>k≠bo) v1 (toI (r (cls n) ++ [cls mm]))∧W.grownBy Z (v (cls n)).ownBlock∧(v1.ownBlock = (v (cls n)).ownBlock∨∃ b,v1.ownBlock = some b∧W.heap.size≤b)∧Below B W Z
 s19:done 19 = true→∃ v1,FD B bo M (Tarj.upd v (cls n) v1) (Tarj.upd r (cls n) (r (cls n) ++ [cls mm])) Z∧Below B W Z
section
variable {B bo bof M n mm:Nat} {g:List (List Int)} {cls:Nat→Nat} {v:Nat→Value} {r:Nat→List Nat} {W Z:World} {done:Nat→Bool} {val:Nat→Value}
theorem S9.start (of:W.heap[bof]? = some (.cells (ints g.length cls) 3 (0,0))) (lo:bof < B) (fd:FD B bo M v r W):S9 B bo bof M n mm g cls v r W (fun _ =>false) (fun _ =>undef) { W with drawn:=W.drawn + 1 } :=
 ⟨of,lo,fd,by simp,fun _ =>rfl,fun _ =>rfl,fun _ =>rfl,fun _ =>(zJ0 W.heap.size W).drew,by simp,by simp,by simp⟩
theorem S9.v0 (h:S9 B bo bof M n mm g cls v r W done val Z) (hd:done 0 = true):val 0 = .slice (some ⟨bo,0,none⟩) M M:=h.vv 0 hd qF0
theorem S9.v1 (h:S9 B bo bof M n mm g cls v r W done val Z) (hd:done 1 = true):val 1 = .slice (some ⟨bof,0,none⟩) g.length g.length:=h.vv 1 hd qF0
theorem S9.v2 (h:S9 B bo bof M n mm g cls v r W done val Z) (hd:done 2 = true):val 2 = .int .i64 (n:Nat):=h.vv 2 hd qF0
theorem S9.v3 (h:S9 B bo bof M n mm g cls v r W done val Z) (hd:done 3 = true):val 3 = .pointer (some ⟨bof,n,none⟩):=h.vv 3 hd qF0
theorem S9.v4 (h:S9 B bo bof M n mm g cls v r W done val Z) (hd:done 4 = true):val 4 = .int .i64 (cls n:Nat):=h.vv 4 hd qF0
theorem S9.v5 (h:S9 B bo bof M n mm g cls v r W done val Z) (hd:done 5 = true):val 5 = .slice (some ⟨bo,0,none⟩) M M:=h.vv 5 hd qF0
theorem S9.v6 (h:S9 B bo bof M n mm g cls v r W done val Z) (hd:done 6 = true):val 6 = .slice (some ⟨bof,0,none⟩) g.length g.length:=h.vv 6 hd qF0
theorem S9.v7 (h:S9 B bo bof M n mm g cls v r W done val Z) (hd:done 7 = true):val 7 = .int .i64 (n:Nat):=h.vv 7 hd qF0
theorem S9.v8 (h:S9 B bo bof M n mm g cls v r W done val Z) (hd:done 8 = true):val 8 = .pointer (some ⟨bof,n,none⟩):=h.vv 8 hd qF0
theorem S9.v9 (h:S9 B bo bof M n mm g cls v r W done val Z) (hd:done 9 = true):val 9 = .int .i64 (cls n:Nat):=h.vv 9 hd qF0
theorem S9.v10 (h:S9 B bo bof M n mm g cls v r W done val Z) (hd:done 10 = true):val 10 = .pointer (some ⟨bo,cls n,none⟩):=h.vv 10 hd qF0
theorem S9.v11 (h:S9 B bo bof M n mm g cls v r W done val Z) (hd:done 11 = true):val 11 = v (cls n):=h.vv 11 hd qF0
theorem S9.v12 (h:S9 B bo bof M n mm g cls v r W done val Z) (hd:done 12 = true):val 12 = .slice (some ⟨bof,0,none⟩) g.length g.length:=h.vv 12 hd qF0
theorem S9.v13 (h:S9 B bo bof M n mm g cls v r W done val Z) (hd:done 13 = true):val 13 = .int .i64 (mm:Nat):=h.vv 13 hd qF0
theorem S9.v14 (h:S9 B bo bof M n mm g cls v r W done val Z) (hd:done 14 = true):val 14 = .pointer (some ⟨bof,mm,none⟩):=h.vv 14 hd qF0
theorem S9.v15 (h:S9 B bo bof M n mm g cls v r W done val Z) (hd:done 15 = true):val 15 = .int .i64 (cls mm:Nat):=h.vv 15 hd qF0
theorem S9.v18 (h:S9 B bo bof M n mm g cls v r W done val Z) (hd:done 18 = true):val 18 = .pointer (some ⟨bo,cls n,none⟩):=h.vv 18 hd qF0
theorem S9.do_ (h:S9 B bo bof M n mm g cls v r W done val Z) (i:Nat) (hc:cst9 i = true) {x:Value} (hx:x = ix9 bo bof M n mm g cls v i):S9 B bo bof M n mm g cls v r W (upd done i) (setv val i x) Z:=by
 have e16:i≠16:=by rintro rfl;cases hc
 have e17:i≠17:=by rintro rfl;cases hc
 have e19:i≠19:=by rintro rfl;cases hc
 refine ⟨h.of,h.lo,h.fd,fun j hj hcj =>?_,?_,?_,?_,?_,?_,?_,?_⟩
 ·simp only [upd,setv] at hj ⊢;by_cases e:j = i
  ·rw [if_pos e,e];exact hx
  ·rw [if_neg e] at hj ⊢;exact h.vv j hj hcj
 all_goals simp only [upd,setv,if_neg (Ne.symm e16),if_neg (Ne.symm e17),if_neg (Ne.symm e19)]
 ·by_cases e:11 = i
  ·rw [if_pos e];exact fun q =>by cases q
  ·rw [if_neg e];exact h.n11
 ·exact h.n16
 ·exact h.n17
 ·exact h.pz
 ·exact h.b16
 ·exact h.s17
 ·exact h.s19
theorem S9.bB (h:S9 B bo bof M n mm g cls v r W done val Z):Below B W Z:=by
 have hb:B≤W.heap.size:=zH0 h.fd.b (zY1 (a1K h.fd.o));cases e7:done 17 with
 | false =>exact (h.pz e7).mono hb
 | true =>
  cases e9:done 19 with
  | false =>obtain ⟨_,_,_,_,_,q⟩:=h.s17 e7 e9;exact q
  | true =>obtain ⟨_,_,q⟩:=h.s19 e9;exact q
theorem S9.rd (h:S9 B bo bof M n mm g cls v r W done val Z) {j:Nat} (hj:j < g.length):Z.cell? ⟨bof,j,none⟩ = some (.int .i64 (cls j:Nat)) :=
 (a0O ((h.bB.block bof h.lo).trans h.of) j).trans (a3B _ hj)
theorem S9.rdo (h:S9 B bo bof M n mm g cls v r W done val Z) (h11:done 11 = false) (hcn:cls n < M):Z.cell? ⟨bo,cls n,none⟩ = some (v (cls n)) :=
 ((h.fd.below (h.pz (h.n11 h11))).cell hcn).1
theorem S9.do16 (h:S9 B bo bof M n mm g cls v r W done val Z) (hd:done 16 = false):S9 B bo bof M n mm g cls v r W (upd done 16) (setv val 16 (.slice (some ⟨Z.heap.size,0,none⟩) 1 1)) (Z.alloc (.cells #[.int .i64 (cls mm:Nat)] 3)):=by
 have h17:=h.n16 hd;have h19:=h.n17 h17;refine ⟨h.of,h.lo,h.fd,fun j hj hcj =>?_,?_,?_,?_,?_,?_,?_,?_⟩
 ·have e:j≠16:=by rintro rfl;cases hcj
  simp only [upd,setv,if_neg e] at hj ⊢;exact h.vv j hj hcj
 all_goals simp only [upd,setv,if_true,if_neg (show (11:Nat)≠16 by decide),if_neg (show (17:Nat)≠16 by decide),if_neg (show (19:Nat)≠16 by decide)]
 ·exact h.n11
 ·exact fun q =>by cases q
 ·exact h.n17
 ·exact fun q =>a0B (h.pz q) _
 ·exact fun _ q =>⟨Z,rfl,rfl,h.pz q⟩
 ·intro q;rw [h17] at q;cases q
 ·intro q;rw [h19] at q;cases q
theorem S9.do17 {Z0 w1:World} {v1:Value} (h:S9 B bo bof M n mm g cls v r W done val Z) (h11:done 11 = true) (h16:done 16 = true) (hd:done 17 = false) (hb0:Below W.heap.size W Z0)
  (hr:kI.R 3 w1 B (fun k =>k≠bo) v1 (toI (r (cls n)) ++ [((cls mm:Nat):Int)])) (hb:Below B W w1) (hg:Z0.grownBy w1 (v (cls n)).ownBlock) (hat:v1.ownBlock = (v (cls n)).ownBlock∨∃ b,v1.ownBlock = some b∧Z0.heap.size≤b) :
  S9 B bo bof M n mm g cls v r W (upd done 17) (setv val 17 v1) w1:=by
 have h19:=h.n17 hd;have hgW:W.grownBy w1 (v (cls n)).ownBlock:=⟨hb.os,hb.tape,hb.output,hb.size,fun k hk hne =>(hg.block k (zF1 hk hb0.size) hne).trans (hb0.block k hk)⟩;refine ⟨h.of,h.lo,h.fd,fun j hj hcj =>?_,?_,?_,?_,?_,?_,?_,?_⟩
 ·have e:j≠17:=by rintro rfl;cases hcj
  simp only [upd,setv,if_neg e] at hj ⊢;exact h.vv j hj hcj
 all_goals simp only [upd,setv,if_true,if_neg (show (11:Nat)≠17 by decide),if_neg (show (16:Nat)≠17 by decide),if_neg (show (19:Nat)≠17 by decide)]
 ·intro q;rw [h11] at q;cases q
 ·intro q;rw [h16] at q;cases q
 ·exact fun q =>by cases q
 ·exact fun q =>by cases q
 ·exact fun _ q =>by cases q
 ·exact fun _ _ =>⟨v1,rfl,by simpa [toI] using hr,hgW,hat.imp_right (fun ⟨b,e,hle⟩ =>⟨b,e,zH0 hb0.size hle⟩),hb⟩
 ·intro q;rw [h19] at q;cases q
theorem S9.at17 (h:S9 B bo bof M n mm g cls v r W done val Z) (h17:done 17 = true) (h19:done 19 = false) (hcn:cls n < M) :
  ∃ A9 n9 c9,val 17 = .slice A9 n9 c9∧Z.cell? ⟨bo,cls n,none⟩ = some (v (cls n))∧Z.frozen? ⟨bo,cls n,none⟩ = false:=by
 obtain ⟨v1,e,hr,hg,_,_⟩:=h.s17 h17 h19;obtain ⟨A,c,e2,_,_⟩:=Kd.a3T hr;have ho:=a1O h.fd.o hg (h.fd.ne hcn);exact ⟨A,_,c,e.trans e2,(a0O ho _).trans (a7O _ hcn),a0Q ho _⟩
theorem S9.do19 (h:S9 B bo bof M n mm g cls v r W done val Z) (h17:done 17 = true) (hd:done 19 = false) (hcn:cls n < M) {x v1:Value} (hv:val 17 = v1) :
  S9 B bo bof M n mm g cls v r W (upd done 19) (setv val 19 x) (Z.setCell ⟨bo,cls n,none⟩ v1):=by
 obtain ⟨v2,e,hr,hg,hat,hb⟩:=h.s17 h17 hd;obtain rfl:v1 = v2:=hv.symm.trans e;refine ⟨h.of,h.lo,h.fd,fun j hj hcj =>?_,?_,?_,?_,?_,?_,?_,?_⟩
 ·have e:j≠19:=by rintro rfl;cases hcj
  simp only [upd,setv,if_neg e] at hj ⊢;exact h.vv j hj hcj
 all_goals simp only [upd,setv,if_true,if_neg (show (11:Nat)≠19 by decide),if_neg (show (16:Nat)≠19 by decide),if_neg (show (17:Nat)≠19 by decide)]
 ·exact h.n11
 ·exact h.n16
 ·intro q;rw [h17] at q;cases q
 ·intro q;rw [h17] at q;cases q
 ·intro _ q;rw [h17] at q;cases q
 ·exact fun _ q =>by cases q
 ·exact fun _ =>⟨v1,h.fd.put hcn hr hg hat,h.fd.b4Y hcn v1 hg hb⟩
end
def rowIns (cls:Nat→Nat) (n:Nat) (r:Nat→List Nat) (m:Nat):Nat→List Nat:=if cls m = cls n then r else Tarj.upd r (cls n) (r (cls n) ++ [cls m])
def rowsAt (cls:Nat→Nat) (adj:Nat→List Nat) (n:Nat):Nat→List Nat:=(List.range n).foldl (fun r x =>(adj x).foldl (rowIns cls x) r) (fun _ =>[])
theorem b8Y (cls:Nat→Nat) (n:Nat) (r:Nat→List Nat) (m c:Nat) (h:∀ i,(r i).length≤c):∀ i,(rowIns cls n r m i).length≤c + 1:=by
 intro i;unfold rowIns
 split
 ·exact Nat.le_succ_of_le (h i)
 ·simp only [Tarj.upd]
  split
  ·rw [zR0];exact Nat.succ_le_succ (h _)
  ·exact Nat.le_succ_of_le (h i)
def cmpN (l:List Nat):List Nat:=(Go.Lib.compact (srt (toI l))).map Int.toNat
theorem b7U (d:Array Int):∀ m,m≤d.size→∀ x,x ∈ Go.Lib.compactUpTo d m→x ∈ d.toList
 | 0,_,x,h =>by simp [Go.Lib.compactUpTo] at h
 | m + 1,hm,x,h =>by
  rw [Go.Lib.compactUpTo_succ,zU0] at h;rcases h with h | h
  ·exact b7U d m (Nat.le_of_succ_le hm) x h
  ·split at h
   ·rw [zC1] at h;subst h;rw [getElem!_pos d m hm];exact Array.getElem_mem_toList hm
   ·cases h
theorem b6M {l:List Int} {x:Int} (h:x ∈ Go.Lib.compact l):x ∈ l:=by
 have:=b7U l.toArray l.length qG0 x h;simpa using this
theorem a9X (l:List Nat):toI (cmpN l) = Go.Lib.compact (srt (toI l)):=by
 unfold cmpN toI;rw [List.map_map];have key:∀ L:List Int,(∀ x,x ∈ L→0≤x)→L.map (Int.ofNat ∘ Int.toNat) = L:=by
  intro L
  induction L with
  | nil =>intro _;rfl
  | cons a q ih =>
   intro h;rw [zE2,ih (fun x hx =>h x (zQ0 _ hx))];have:=h a zP0;simp only [Function.comp,Int.ofNat_eq_natCast];rw [zL3 this]
 refine key _ (fun x hx =>?_);have h1:=b6M hx;rw [show (List.map Int.ofNat l) = toI l from rfl,b2U] at h1;obtain ⟨y,_,rfl⟩:=zC2.1 h1;exact zI0 y
theorem own_sl {w:World} {base e size n:Nat} {v:Value} {xs:List Value} (h:w.ownsRow base e size v n xs):∃ A n' c,v = .slice A n' c:=by
 rcases h.2 with ⟨rfl,_⟩ | ⟨g,cap,cur,rfl,_⟩ <;> exact ⟨_,_,_,rfl⟩
structure FL (B bo M:Nat) (v:Nat→Value) (r:Nat→List Nat) (W0 W:World):Prop where
 fd:FD B bo M v r W
 be:Below B W0 W
set_option maxRecDepth 100000 in
set_option maxHeartbeats 16000000 in
theorem b8E (g:List (List Int)) (hgo:GOk g) (A:Option Addr) (c bof M:Nat) (cls:Nat→Nat) (W:World) (hg:Kd.F kL W (fun k =>k < W.heap.size) A g.length g) (hof:W.heap[bof]? = some (.cells (ints g.length cls) 3 (0,0)))
  (hM:M≤1000) (hcl:∀ x,x < g.length→cls x < M) (hlc:g.length≤c) :
  Calls Tryz.prog 50 #[.slice A g.length c,.slice (some ⟨bof,0,none⟩) g.length g.length,.int .i64 (M:Nat)] W fun e W' =>∃ bo,e = .returned (.slice (some ⟨bo,0,none⟩) M M)∧(∃ v,FD W.heap.size bo M v (fun i =>cmpN (rowsAt cls (adjF g) g.length i)) W')∧Below W.heap.size W W':=by
 have hMl:=a4T (P:=Tryz.prog) 39 43 (.slice none 0 0) 24 Tryz.underlying39 infoL rfl qF0 (M:Int) (zI0 M) qR2;rw [zM0] at hMl;have hmade:madeCells #[(.slice none 0 0:Value)] M = vals M (fun _ =>.slice none 0 0):=by
  unfold madeCells vals;apply Array.ext_getElem?;intro j;by_cases hj:j < M
  ·simp [hj,Nat.mod_one]
  ·simp [hj]
 rw [hmade] at hMl;have hbo:FD W.heap.size W.heap.size M (fun _ =>.slice none 0 0) (fun _ =>[]) (W.alloc (.cells (vals M (fun _ =>.slice none 0 0)) 43)):=FD.made (zG0 _);have hbe:Below W.heap.size W (W.alloc (.cells (vals M (fun _ =>.slice none 0 0)) 43)):=a0B (zJ0 _ _) _;have hbl:bof < W.heap.size:=a1K hof;have GO:=zA0 hgo;have HG:=zA0 hg;have HOF:=zA0 hof;have HCL:=zA0 hcl;have HBL:=zA0 hbl;have FL0:=zA0 (show FL W.heap.size W.heap.size M (fun _ =>.slice none 0 0) (fun _ =>[]) W (W.alloc (.cells (vals M (fun _ =>.slice none 0 0)) 43)) from ⟨hbo,hbe⟩);have hgl:=hgo.len;clear hmade hbo hbe hgo hg hof hcl hbl;go_enter Tryz.func50,Tryz.ntmps50
 go_upto_region 2 with (fail)
 generalize W.alloc (.cells (vals M (fun _ =>.slice none 0 0)) 43) = W2 at FL0 ⊢;obtain ⟨bo,hbo⟩:∃ bo,W.heap.size = bo:=⟨_,rfl⟩;rw [hbo] at FL0 HG HBL ⊢;have HBO:=zA0 hbo;clear hbo hMl;go_wp2;go_loopg [18] g.length (fun kq v18 w' =>∃ (n:Nat) (v:Nat→Value),n + kq = g.length∧v18 = .int .i64 (n:Nat)∧(∀ i,(rowsAt cls (adjF g) n i).length≤n * 1000)∧Hid (FL bo bo M v (rowsAt cls (adjF g) n) W w'))
 case atStart =>exact ⟨0,_,by omega,rfl,fun i =>zM2 _,FL0⟩
 case round =>
  obtain ⟨n,v0,hn',rfl,hrl,HL⟩:=hrel;by_cases hn:n < g.length
  ·have hn0:(0:Int)≤(n:Int):=zI0 n;have hGr:=Kd.a5W (W1:=wr) HG.out (fun k hk _ =>HL.out.be.block k hk);obtain ⟨ad,A0,c0,eA,hrow,hle,hF0⟩:=rowA hGr n hn;subst eA;obtain ⟨row,hrw⟩:∃ r,r = g.getD n []:=⟨_,rfl⟩;rw [← hrw] at hrow hle hF0;have FR:=zA0 hF0;have RW:=zA0 hrw;have hrlen:row.length≤1000:=by rw [hrw];exact GO.out.row n
   obtain ⟨k1,rfl⟩:∃ k1,gk = k1 + 1:=⟨gk - 1,by omega⟩;clear hGr hF0 hrw;go_wp2;have HL0:=zA0 (show FL bo bo M v0 (((adjF g n).take 0).foldl (rowIns cls n) (rowsAt cls (adjF g) n)) W wr from by rw [zN2];exact HL.out);have hrl0:∀ i,(((adjF g n).take 0).foldl (rowIns cls n) (rowsAt cls (adjF g) n) i).length≤n * 1000 + 0:=by rw [zN2];exact hrl
   have HRL:=zA0 hrl;have FR1:=zA0 (show ∀ W',(∀ k,k < bo→W'.heap[k]? = wr.heap[k]?)→Kd.F kI W' (fun k =>k < bo) A0 row.length row from fun W' h =>Kd.a5W FR.out (fun k hk _ =>h k hk));have HLW:=zA0 (show ∀ k,k < bo→wr.heap[k]? = W.heap[k]? from fun k hk =>HL.out.be.block k hk);clear hrl HL FR hrow;generalize wr = wr0 at FR1 HLW HL0 ⊢;go_loopg [25] row.length (fun kq v25 w' =>∃ (j:Nat) (v:Nat→Value),j + kq = row.length∧v25 = .int .i64 (j:Nat)∧(∀ i,(((adjF g n).take j).foldl (rowIns cls n) (rowsAt cls (adjF g) n) i).length≤n * 1000 + j)∧Hid (FL bo bo M v (((adjF g n).take j).foldl (rowIns cls n) (rowsAt cls (adjF g) n)) W w'))
   case atStart =>exact ⟨0,v0,by omega,rfl,hrl0,HL0⟩
   case round =>
    obtain ⟨j,v,hj,rfl,hrj,HJ⟩:=hrel;clear HL0 hrl0;have hkw:∀ k,k < bo→wr.heap[k]? = wr0.heap[k]?:=fun k hk =>(HJ.out.be.block k hk).trans (HLW.out k hk).symm
    by_cases hlt:j < row.length
    ·obtain ⟨ad0,eA0,hm⟩:=Kd.a1Q (Kd.a5K (FR1.out wr hkw)) (j:Int) (zI0 j) (zS1.2 hlt);subst eA0;rw [zM0] at hm;obtain ⟨mm,emm,hmm,hmj⟩:∃ mm:Nat,rd row (j:Int) = (mm:Int)∧mm < g.length∧(adjF g n)[j]? = some mm:=by
      have RW':=RW.out;have hlt':j < (g.getD n []).length:=by rw [← RW'];exact hlt
      obtain ⟨m0,m1⟩:=GO.out.ent n hn _ (zD1 hlt');refine ⟨((g.getD n [])[j]).toNat,?_,by omega,by unfold adjF;rw [List.getElem?_map,zE0 hlt'];rfl⟩;unfold rd;rw [RW',zM0,zF0 (l:=g.getD n []),zE0 hlt',zP2];omega
     rw [emm] at hm;clear emm hkw;have HMJ:=zA0 hmj;have hmm0:(0:Int)≤(mm:Int):=zI0 mm;have hw:=pzS j (zH0 (zY1 hlt) hrlen);have hcn:cls n < M:=HCL.out n hn;have hcm:cls mm < M:=HCL.out mm hmm;have hcn0:(0:Int)≤(cls n:Int):=zI0 _;have hofw:wr.heap[bof]? = some (.cells (ints g.length cls) 3 (0,0)):=(HJ.out.be.block bof HBL.out).trans HOF.out;have HOFW:=zA0 hofw;have z1:=(a0O hofw n).trans (a3B _ hn);have z2:=(a0O hofw mm).trans (a3B _ hmm);have HRJ:=zA0 hrj;obtain ⟨k2,rfl⟩:∃ k2,gk = k2 + 1:=⟨gk - 1,by omega⟩;clear hmj hofw hrj;have hstep:((adjF g n).take (j + 1)).foldl (rowIns cls n) (rowsAt cls (adjF g) n) = rowIns cls n (((adjF g n).take j).foldl (rowIns cls n) (rowsAt cls (adjF g) n)) mm:=by
      obtain ⟨h1,h2⟩:=List.getElem?_eq_some_iff.1 HMJ.out;rw [zV0 h1,List.foldl_append,h2];rfl
     have HSTEP:=zA0 hstep;clear hstep;by_cases heq:cls mm = cls n
     ·have hne:((cls mm:Int) != (cls n:Int)) = false:=by simp [heq]
      have HEQ:=zA0 heq;clear heq;go_upto_region 8 with (fail)
      go_quiet (fail)
      have hl5:FL bo bo M v (((adjF g n).take (j + 1)).foldl (rowIns cls n) (rowsAt cls (adjF g) n)) W (wr.drewN nq):=by
       rw [HSTEP.out];unfold rowIns;rw [if_pos HEQ.out];exact ⟨HJ.out.fd.below (a0A (zJ0 _ _) nq),HJ.out.be.trans (a0A (zJ0 _ _) nq)⟩
      have HL5:=zA0 hl5;have hr5:∀ i,(((adjF g n).take (j + 1)).foldl (rowIns cls n) (rowsAt cls (adjF g) n) i).length≤n * 1000 + (j + 1):=by
       rw [HSTEP.out];unfold rowIns;rw [if_pos HEQ.out];exact fun i =>Nat.le_succ_of_le (HRJ.out i)
      clear hl5 z1 z2 hm;go_wp2;go_roundg k2
      case measure =>exact zS0 _
      case rel =>exact ⟨j + 1,v,by rw [zZ0,zM1 1];exact hj,by first | rw [hw] | simp [hw],hr5,HL5⟩
     ·have hne:((cls mm:Int) != (cls n:Int)) = true:=by simpa using (fun h =>heq qD0)
      have HEQ:=zA0 heq;clear heq;go_upto_region 8 with (fail)
      go_quiet (fail)
      have hl5:=HJ.out.fd.below (a0A (zJ0 wr.heap.size wr) nq);have hb5:=HJ.out.be.trans (a0A (zJ0 bo wr) nq);have hof5:=(a0A (zJ0 bo wr) nq).block bof HBL.out;rw [HOFW.out] at hof5;clear z1 z2 hm;generalize wr.drewN nq = W5 at hl5 hb5 hof5 ⊢;obtain ⟨r,hr⟩:∃ r,r = ((adjF g n).take j).foldl (rowIns cls n) (rowsAt cls (adjF g) n):=⟨_,rfl⟩;have HR:=zA0 hr;have hlr:((toI (r (cls n))).length + 1) * 8≤140737488355328:=by
       have:=HRJ.out (cls n);rw [← hr] at this;rw [a1P];have h2:n≤1000:=by have:=GO.out.len;omega
       have h3:n * 1000≤1000 * 1000:=zL1 _ h2;omega
      have HLR:=zA0 hlr;rw [← hr] at hl5;have HFD:=zA0 hl5;have HB5:=zA0 hb5;have HOF5:=zA0 hof5;have HB9:=zA0 (show bo≤W5.heap.size from zY1 (a1K hl5.o));clear hl5 hb5 hof5 hr hlr;go_upto_region 9 with (fail)
      refine (wpIn_wide (n:=5)).1 ?_;refine wpIn_region_any mixedO ?_;refine a3G _ (fun _ =>undef) (fun done val Z =>S9 bo bo bof M n mm g cls v r W5 done val Z) rfl qH0 _ ?hz9 ?st9 ?en9
      case hz9 =>exact S9.start HOF5.out HBL.out HFD.out
      case st9 =>
       intro i o done val a Z ho hdn hdep hag hS K2 hK2;have hm:i < 20:=by
        by_cases h:i < 20
        ·exact h
        ·rw [Array.getElem?_eq_none qA1] at ho;cases ho
       obtain rfl | rfl | rfl | rfl | rfl | rfl | rfl | rfl | rfl | rfl | rfl | rfl | rfl | rfl | rfl | rfl | rfl | rfl | rfl | rfl:i = 0∨i = 1∨i = 2∨i = 3∨i = 4∨i = 5∨i = 6∨i = 7∨i = 8∨i = 9∨i = 10∨i = 11∨i = 12∨i = 13∨i = 14∨i = 15∨i = 16∨i = 17∨i = 18∨i = 19:=by omega
       ·cases ho;have e7:a.eval (.tmp 7) = .slice (some ⟨bo,0,none⟩) M M:=hag.keep 7 rfl;refine a1F (i:=0) (r:=.slice (some ⟨bo,0,none⟩) M M) (w':=Z) rfl rfl (fun c h =>by cases h) rfl ?_ (hK2 _ _ (hS.do_ 0 rfl rfl));have ec:∀ v,a.eval (.const v) = v:=fun _ =>rfl
        generalize a.eval = ev at *;simp [execOp,go_sem,ec,e7]
       ·cases ho;have e1:a.eval (.tmp 1) = .slice (some ⟨bof,0,none⟩) g.length g.length:=hag.keep 1 rfl;refine a1F (i:=1) (r:=.slice (some ⟨bof,0,none⟩) g.length g.length) (w':=Z) rfl rfl (fun c h =>by cases h) rfl ?_ (hK2 _ _ (hS.do_ 1 rfl rfl));have ec:∀ v,a.eval (.const v) = v:=fun _ =>rfl
        generalize a.eval = ev at *;simp [execOp,go_sem,ec,e1]
       ·cases ho;have e8:a.eval (.tmp 8) = .int .i64 (n:Nat):=hag.keep 8 rfl;refine a1F (i:=2) (r:=.int .i64 (n:Nat)) (w':=Z) rfl rfl (fun c h =>by cases h) rfl ?_ (hK2 _ _ (hS.do_ 2 rfl rfl));have ec:∀ v,a.eval (.const v) = v:=fun _ =>rfl
        generalize a.eval = ev at *;simp [execOp,go_sem,ec,e8]
       ·cases ho;have e39:=(hag.val_ (j:=1) (t:=39) rfl (hdep ⟨1,.data⟩ qG0 rfl)).trans (hS.v1 (hdep ⟨1,.data⟩ qG0 rfl));have e40:=(hag.val_ (j:=2) (t:=40) rfl (hdep ⟨2,.data⟩ qG0 rfl)).trans (hS.v2 (hdep ⟨2,.data⟩ qG0 rfl));refine a0F (i:=3) (r:=.pointer (some ⟨bof,n,none⟩)) (w':=Z) rfl rfl (fun c h =>by cases h) ?_ ?_ (hK2 _ _ (hS.do_ 3 rfl rfl))
        ·generalize a.eval = ev at *;simp [Oper.about,resolve,Target.leads,Sem.run_pure,go_sem,e39,e40,hn,hn0]
        ·have ec:∀ v,a.eval (.const v) = v:=fun _ =>rfl
         generalize a.eval = ev at *;simp [execOp,go_sem,ec,e39,e40,hn,hn0]
       ·cases ho;have e41:=(hag.val_ (j:=3) (t:=41) rfl (hdep ⟨3,.data⟩ qG0 rfl)).trans (hS.v3 (hdep ⟨3,.data⟩ qG0 rfl));have hz:=hS.rd hn;refine a1F (i:=4) (r:=.int .i64 (cls n:Nat)) (w':=Z) rfl rfl (fun c h =>by cases h) rfl ?_ (hK2 _ _ (hS.do_ 4 rfl rfl));have ec:∀ v,a.eval (.const v) = v:=fun _ =>rfl
        generalize a.eval = ev at *;simp [execOp,go_sem,ec,e41,hz]
       ·cases ho;have e7:a.eval (.tmp 7) = .slice (some ⟨bo,0,none⟩) M M:=hag.keep 7 rfl;refine a1F (i:=5) (r:=.slice (some ⟨bo,0,none⟩) M M) (w':=Z) rfl rfl (fun c h =>by cases h) rfl ?_ (hK2 _ _ (hS.do_ 5 rfl rfl));have ec:∀ v,a.eval (.const v) = v:=fun _ =>rfl
        generalize a.eval = ev at *;simp [execOp,go_sem,ec,e7]
       ·cases ho;have e1:a.eval (.tmp 1) = .slice (some ⟨bof,0,none⟩) g.length g.length:=hag.keep 1 rfl;refine a1F (i:=6) (r:=.slice (some ⟨bof,0,none⟩) g.length g.length) (w':=Z) rfl rfl (fun c h =>by cases h) rfl ?_ (hK2 _ _ (hS.do_ 6 rfl rfl));have ec:∀ v,a.eval (.const v) = v:=fun _ =>rfl
        generalize a.eval = ev at *;simp [execOp,go_sem,ec,e1]
       ·cases ho;have e8:a.eval (.tmp 8) = .int .i64 (n:Nat):=hag.keep 8 rfl;refine a1F (i:=7) (r:=.int .i64 (n:Nat)) (w':=Z) rfl rfl (fun c h =>by cases h) rfl ?_ (hK2 _ _ (hS.do_ 7 rfl rfl));have ec:∀ v,a.eval (.const v) = v:=fun _ =>rfl
        generalize a.eval = ev at *;simp [execOp,go_sem,ec,e8]
       ·cases ho;have e44:=(hag.val_ (j:=6) (t:=44) rfl (hdep ⟨6,.data⟩ qG0 rfl)).trans (hS.v6 (hdep ⟨6,.data⟩ qG0 rfl));have e45:=(hag.val_ (j:=7) (t:=45) rfl (hdep ⟨7,.data⟩ qG0 rfl)).trans (hS.v7 (hdep ⟨7,.data⟩ qG0 rfl));refine a0F (i:=8) (r:=.pointer (some ⟨bof,n,none⟩)) (w':=Z) rfl rfl (fun c h =>by cases h) ?_ ?_ (hK2 _ _ (hS.do_ 8 rfl rfl))
        ·generalize a.eval = ev at *;simp [Oper.about,resolve,Target.leads,Sem.run_pure,go_sem,e44,e45,hn,hn0]
        ·have ec:∀ v,a.eval (.const v) = v:=fun _ =>rfl
         generalize a.eval = ev at *;simp [execOp,go_sem,ec,e44,e45,hn,hn0]
       ·cases ho;have e46:=(hag.val_ (j:=8) (t:=46) rfl (hdep ⟨8,.data⟩ qG0 rfl)).trans (hS.v8 (hdep ⟨8,.data⟩ qG0 rfl));have hz:=hS.rd hn;refine a1F (i:=9) (r:=.int .i64 (cls n:Nat)) (w':=Z) rfl rfl (fun c h =>by cases h) rfl ?_ (hK2 _ _ (hS.do_ 9 rfl rfl));have ec:∀ v,a.eval (.const v) = v:=fun _ =>rfl
        generalize a.eval = ev at *;simp [execOp,go_sem,ec,e46,hz]
       ·cases ho;have e43:=(hag.val_ (j:=5) (t:=43) rfl (hdep ⟨5,.data⟩ qG0 rfl)).trans (hS.v5 (hdep ⟨5,.data⟩ qG0 rfl));have e47:=(hag.val_ (j:=9) (t:=47) rfl (hdep ⟨9,.data⟩ qG0 rfl)).trans (hS.v9 (hdep ⟨9,.data⟩ qG0 rfl));refine a0F (i:=10) (r:=.pointer (some ⟨bo,cls n,none⟩)) (w':=Z) rfl rfl (fun c h =>by cases h) ?_ ?_ (hK2 _ _ (hS.do_ 10 rfl rfl))
        ·generalize a.eval = ev at *;simp [Oper.about,resolve,Target.leads,Sem.run_pure,go_sem,e43,e47,hcn,hcn0]
        ·have ec:∀ v,a.eval (.const v) = v:=fun _ =>rfl
         generalize a.eval = ev at *;simp [execOp,go_sem,ec,e43,e47,hcn,hcn0]
       ·cases ho;have e48:=(hag.val_ (j:=10) (t:=48) rfl (hdep ⟨10,.data⟩ qG0 rfl)).trans (hS.v10 (hdep ⟨10,.data⟩ qG0 rfl));have hz:=hS.rdo hdn hcn;refine a1F (i:=11) (r:=v (cls n)) (w':=Z) rfl rfl (fun c h =>by cases h) rfl ?_ (hK2 _ _ (hS.do_ 11 rfl rfl));have ec:∀ v,a.eval (.const v) = v:=fun _ =>rfl
        generalize a.eval = ev at *;simp [execOp,go_sem,ec,e48,hz]
       ·cases ho;have e1:a.eval (.tmp 1) = .slice (some ⟨bof,0,none⟩) g.length g.length:=hag.keep 1 rfl;refine a1F (i:=12) (r:=.slice (some ⟨bof,0,none⟩) g.length g.length) (w':=Z) rfl rfl (fun c h =>by cases h) rfl ?_ (hK2 _ _ (hS.do_ 12 rfl rfl));have ec:∀ v,a.eval (.const v) = v:=fun _ =>rfl
        generalize a.eval = ev at *;simp [execOp,go_sem,ec,e1]
       ·cases ho;have e11:a.eval (.tmp 11) = .int .i64 (mm:Nat):=hag.keep 11 rfl;refine a1F (i:=13) (r:=.int .i64 (mm:Nat)) (w':=Z) rfl rfl (fun c h =>by cases h) rfl ?_ (hK2 _ _ (hS.do_ 13 rfl rfl));have ec:∀ v,a.eval (.const v) = v:=fun _ =>rfl
        generalize a.eval = ev at *;simp [execOp,go_sem,ec,e11]
       ·cases ho;have e50:=(hag.val_ (j:=12) (t:=50) rfl (hdep ⟨12,.data⟩ qG0 rfl)).trans (hS.v12 (hdep ⟨12,.data⟩ qG0 rfl));have e51:=(hag.val_ (j:=13) (t:=51) rfl (hdep ⟨13,.data⟩ qG0 rfl)).trans (hS.v13 (hdep ⟨13,.data⟩ qG0 rfl));refine a0F (i:=14) (r:=.pointer (some ⟨bof,mm,none⟩)) (w':=Z) rfl rfl (fun c h =>by cases h) ?_ ?_ (hK2 _ _ (hS.do_ 14 rfl rfl))
        ·generalize a.eval = ev at *;simp [Oper.about,resolve,Target.leads,Sem.run_pure,go_sem,e50,e51,hmm,hmm0]
        ·have ec:∀ v,a.eval (.const v) = v:=fun _ =>rfl
         generalize a.eval = ev at *;simp [execOp,go_sem,ec,e50,e51,hmm,hmm0]
       ·cases ho;have e52:=(hag.val_ (j:=14) (t:=52) rfl (hdep ⟨14,.data⟩ qG0 rfl)).trans (hS.v14 (hdep ⟨14,.data⟩ qG0 rfl));have hz:=hS.rd hmm;refine a1F (i:=15) (r:=.int .i64 (cls mm:Nat)) (w':=Z) rfl rfl (fun c h =>by cases h) rfl ?_ (hK2 _ _ (hS.do_ 15 rfl rfl));have ec:∀ v,a.eval (.const v) = v:=fun _ =>rfl
        generalize a.eval = ev at *;simp [execOp,go_sem,ec,e52,hz]
       ·cases ho;have e53:=(hag.val_ (j:=15) (t:=53) rfl (hdep ⟨15,.data⟩ qG0 rfl)).trans (hS.v15 (hdep ⟨15,.data⟩ qG0 rfl));refine a1F (i:=16) (r:=.slice (some ⟨Z.heap.size,0,none⟩) 1 1) (w':=Z.alloc (.cells #[.int .i64 (cls mm:Nat)] 3)) rfl rfl (fun c h =>by cases h) rfl ?_ (hK2 _ _ (hS.do16 hdn));generalize a.eval = ev at *;simp [execOp,go_sem,e53]
       ·cases ho;have e49:=(hag.val_ (j:=11) (t:=49) rfl (hdep ⟨11,.data⟩ qG0 rfl)).trans (hS.v11 (hdep ⟨11,.data⟩ qG0 rfl));have e54:=hag.val_ (j:=16) (t:=54) rfl (hdep ⟨16,.data⟩ qG0 rfl);have h16:=hdep ⟨16,.data⟩ qG0 rfl;have h11:=hdep ⟨11,.data⟩ qG0 rfl;obtain ⟨Z0,rfl,e16,hb0⟩:=hS.b16 h16 hdn;rw [e16] at e54;refine a7G (i:=17) (s:=.tmp 49) (x:=.tmp 54) (t:=43) (t':=43) rfl rfl rfl ?_;refine Kd.a6V kI bo (w0:=W5) rfl (.tmp 49) (.tmp 54) 43 3 (.int .i64 0) 8 rfl Tryz.underlying43 a9S rfl qF0 qF0 (v (cls n)) (toI (r (cls n))) ((cls mm:Nat):Int) [.int .i64 ((cls mm:Nat):Int)] (fun k =>k≠bo) (fun _ =>False) e49 e54 rfl (fun _ hk =>hk.elim) (fun k hk =>by have h1:=a1K HFD.out.o;have h2:=hb0.size;omega) ((HFD.out.below hb0).r _ hcn) (hb0.mono HB9.out) (zH0 HB9.out hb0.size) HLR.out ?_;exact fun v1 w1 hr hb hg hat =>hK2 v1 w1 (hS.do17 h11 h16 hdn hb0 hr hb hg hat)
       ·cases ho;have e38:=(hag.val_ (j:=0) (t:=38) rfl (hdep ⟨0,.data⟩ qG0 rfl)).trans (hS.v0 (hdep ⟨0,.data⟩ qG0 rfl));have e42:=(hag.val_ (j:=4) (t:=42) rfl (hdep ⟨4,.data⟩ qG0 rfl)).trans (hS.v4 (hdep ⟨4,.data⟩ qG0 rfl));refine a0F (i:=18) (r:=.pointer (some ⟨bo,cls n,none⟩)) (w':=Z) rfl rfl (fun c h =>by cases h) ?_ ?_ (hK2 _ _ (hS.do_ 18 rfl rfl))
        ·generalize a.eval = ev at *;simp [Oper.about,resolve,Target.leads,Sem.run_pure,go_sem,e38,e42,hcn,hcn0]
        ·have ec:∀ v,a.eval (.const v) = v:=fun _ =>rfl
         generalize a.eval = ev at *;simp [execOp,go_sem,ec,e38,e42,hcn,hcn0]
       ·cases ho;have e56:=(hag.val_ (j:=18) (t:=56) rfl (hdep ⟨18,.data⟩ qG0 rfl)).trans (hS.v18 (hdep ⟨18,.data⟩ qG0 rfl));have e55:=hag.val_ (j:=17) (t:=55) rfl (hdep ⟨17,.data⟩ qG0 rfl);have h17:=hdep ⟨17,.data⟩ qG0 rfl;obtain ⟨A9,n9,c9,e9,hz,hzf⟩:=hS.at17 h17 hdn hcn;rw [e9] at e55;refine a3C (i:=19) rfl rfl (fun c h =>by cases h) rfl (w':=Z.setCell ⟨bo,cls n,none⟩ (.slice A9 n9 c9)) ?_ (hK2 _ _ (hS.do19 h17 hdn hcn e9));have ec:∀ v,a.eval (.const v) = v:=fun _ =>rfl
        generalize a.eval = ev at *;simp [execOp,go_sem,ec,e56,e55,hz,hzf]
      case en9 =>
       intro Z done val hdn hS;simp only [putTmps,dstOf,zV1,zT0,zN1,Nat.reduceAdd,zB2,zK1,zT1,zK0,zN0,zX0,zY0];obtain ⟨v9,hfd9,hbe9⟩:=hS.s19 (hdn 19 qF0);have hl9:FL bo bo M (Tarj.upd v (cls n) v9) (((adjF g n).take (j + 1)).foldl (rowIns cls n) (rowsAt cls (adjF g) n)) W Z:=by
        rw [HSTEP.out,← HR.out];unfold rowIns;rw [if_neg HEQ.out];exact ⟨hfd9,HB5.out.trans hbe9⟩
       have hr9:∀ i,(((adjF g n).take (j + 1)).foldl (rowIns cls n) (rowsAt cls (adjF g) n) i).length≤n * 1000 + (j + 1):=by
        rw [HSTEP.out];exact b8Y _ _ _ _ _ HRJ.out
       have HL9:=zA0 hl9;clear hl9 hfd9 hbe9 hdn hS;go_wp2;go_roundg k2
       case measure =>exact zS0 _
       case rel =>exact ⟨j + 1,_,by rw [zZ0,zM1 1];exact hj,by first | rw [hw] | simp [hw],hr9,HL9⟩
    ·have hje:j = row.length:=by omega
     have hla:(adjF g n).length = row.length:=by rw [RW.out];simp [adjF]
     have hrs:rowsAt cls (adjF g) (n + 1) = ((adjF g n).take j).foldl (rowIns cls n) (rowsAt cls (adjF g) n):=by
      rw [hje,← hla,zH1];unfold rowsAt;rw [List.range_succ,List.foldl_append];rfl
     have hr9:∀ i,(rowsAt cls (adjF g) (n + 1) i).length≤(n + 1) * 1000:=by
      rw [hrs];exact fun i =>zH0 (hrj i) qD0
     have HL9:=zA0 (show FL bo bo M v (rowsAt cls (adjF g) (n + 1)) W wr from by rw [hrs];exact HJ.out);have hw:=pzS n qD0;clear hrs hrj hje hla hkw;go_wp2;go_roundg k1
     case measure =>exact zS0 _
     case rel =>exact ⟨n + 1,v,by rw [zZ0,zM1 1];exact hn',by first | rw [hw] | simp [hw],hr9,HL9⟩
  ·have hne:n = g.length:=by omega
   subst hne;obtain ⟨r,hr⟩:∃ r,r = rowsAt cls (adjF g) g.length:=⟨_,rfl⟩;rw [← hr] at HL hrl;have HR:=zA0 hr;have HQ0:=zA0 (show FL bo bo M v0 (fun i =>if i < 0 then cmpN (r i) else r i) W wr from by simpa using HL.out);have hrl1:∀ i,(r i).length≤1000 * 1000:=fun i =>zH0 (hrl i) (zL1 _ hgl)
   have HRL:=zA0 hrl1;clear hrl hrl1 hr HL;go_wp2;go_loopg [61] M (fun kq v61 w' =>∃ (i:Nat) (v:Nat→Value),i + kq = M∧v61 = .int .i64 (i:Nat)∧Hid (FL bo bo M v (fun x =>if x < i then cmpN (r x) else r x) W w'))
   case atStart =>exact ⟨0,v0,by omega,rfl,HQ0⟩
   case round =>
    obtain ⟨i,v,hi',rfl,HI⟩:=hrel;clear HQ0;by_cases hi:i < M
    ·have hi0:(0:Int)≤(i:Int):=zI0 i;have hw:=pzS i qD0;obtain ⟨k1,rfl⟩:∃ k1,gk = k1 + 1:=⟨gk - 1,by omega⟩;have hri:=HI.out.fd.r i hi;simp only [zX1,if_false] at hri;obtain ⟨A7,c7,e7,hl7,_⟩:=Kd.a3T hri;rw [a1P] at e7 hl7;have z1:=(HI.out.fd.cell hi).1;rw [e7] at z1;have hrx:=HRL.out i;have hsort:=b2X (toI (r i)) (v i) bo wr (Kd.a2Y hri) qQ2;rw [b2U,e7] at hsort;have HSORT:=zA0 hsort;have HE7:=zA0 e7;have HRI:=zA0 hri;clear hsort e7 hri
     go_upto_region 16 with (first
      | (go_at_call 47;(with_reducible refine HSORT.out.mono ?_;rintro x w5 ⟨rfl,hown,hg5⟩;have hcomp:=b1D (toI (sortN (r i))) (.slice A7 (r i).length c7) bo w5 (by have h:=hown;rw [a1P] at h;rw [a1P,a8G];exact h) (by rw [a1P,a8G];omega);rw [← b2U,← a9X] at hcomp;have HCOMP:=zA0 hcomp;have HG5:=zA0 hg5;clear hown hg5 hcomp)))
     have HFD5:=zA0 (a1O HI.out.fd.o (by have:=HG5.out;rw [← HE7.out] at this;exact this) (HI.out.fd.ne hi));clear z1
     go_wp2_with (first
      | (go_at_call 48;(with_reducible refine HCOMP.out.mono ?_;rintro x w6 ⟨v1,rfl,hown6,hg6,hob⟩;obtain ⟨A8,n8,c8,rfl⟩:=own_sl hown6;have HOWN6:=zA0 hown6;have HG6:=zA0 hg6;have HOB:=zA0 hob;have hb6:=a1O HFD5.out hg6 (by have:=HI.out.fd.ne hi;rw [HE7.out] at this;exact this);have hfc:=a0O hb6 i;have hfz:=a0Q hb6 i;rw [a7O _ hi] at hfc;clear hown6 hg6 hob hb6)))
     have hg7:wr.grownBy w6 (v i).ownBlock:=by
      rw [HE7.out];exact ⟨HG6.out.os.trans HG5.out.os,HG6.out.tape.trans HG5.out.tape,HG6.out.output.trans HG5.out.output,zH0 HG5.out.size HG6.out.size,fun k hk hne =>(HG6.out.block k (zF1 hk HG5.out.size) hne).trans (HG5.out.block k hk hne)⟩
     have hr6:kI.R 3 w6 bo (fun k =>k≠bo) (.slice A8 n8 c8) (toI (cmpN (r i))):=Kd.a3M HOWN6.out (fun k hk =>by
      rw [HOB.out,← HE7.out] at hk
      exact HRI.out.1 k hk)
     have hb6:Below bo wr w6:=(zJ0 bo wr).grown hg7 (zY1 (a1K HI.out.fd.o)) (fun k hk =>(HI.out.fd.lt hi k hk).1);have hfd:=HI.out.fd.put hi hr6 hg7 (.inl (by rw [HOB.out,HE7.out]));have hbe:=HI.out.be.trans (HI.out.fd.b4Y hi (.slice A8 n8 c8) hg7 hb6);have hfn:Tarj.upd (fun x =>if x < i then cmpN (r x) else r x) i (cmpN (r i)) = fun x =>if x < i + 1 then cmpN (r x) else r x:=by
      funext x
      simp only [Tarj.upd];by_cases e:x = i
      ·subst e;simp
      ·rw [if_neg e];by_cases e2:x < i
       ·rw [if_pos e2,if_pos qD0]
       ·rw [if_neg e2,if_neg qD0]
     rw [hfn] at hfd;have HI9:=zA0 (show FL bo bo M _ (fun x =>if x < i + 1 then cmpN (r x) else r x) W _ from ⟨hfd,hbe⟩);clear hg7 hr6 hb6 hfd hbe hfn hfc hfz hrx;go_roundg k1
     case measure =>exact zS0 _
     case rel =>exact ⟨i + 1,_,by rw [zZ0,zM1 1];exact hi',by first | rw [hw] | simp [hw],HI9⟩
    ·have hie:i = M:=by omega
     subst hie;go_wp2;go_ret;refine ⟨bo,rfl,⟨v,?_⟩,?_⟩
     ·rw [HBO.out];refine ⟨HI.out.fd.o,fun j hj =>?_,HI.out.fd.d,HI.out.fd.b⟩;have:=HI.out.fd.r j hj;rw [if_pos hj,HR.out] at this;exact this
     ·rw [HBO.out];exact HI.out.be
set_option maxRecDepth 100000
def ix3 (A:Option Addr) (N c:Nat) (i:Nat):Value:=match i with | 0 =>.slice A N c | 1 =>.slice A N c | 2 =>.int .i64 (N:Nat) | 4 =>.slice A N c | 5 =>.int .i64 (N:Nat) | 7 =>.slice A N c | 8 =>.int .i64 (N:Nat) | _ =>undef
def cst3 (i:Nat):Bool:=i != 3 && i != 6 && i != 9 && i != 10 && i != 11 && i != 12
def fin0 (A:Option Addr) (N c p3 p6 p9:Nat):Array Value:=#[.slice A N c,.slice (some ⟨p3,0,none⟩) N N,.slice (some ⟨p6,0,none⟩) N N,.slice none 0 0,.slice (some ⟨p9,0,none⟩) N N,.int .i64 0,.slice none 0 0]
structure S3 (A:Option Addr) (N c:Nat) (W:World) (done:Nat→Bool) (val:Nat→Value) (Z:World):Prop where
 be:Below W.heap.size W Z
 vv:∀ i,done i = true→cst3 i = true→val i = ix3 A N c i
 s3:done 3 = true→∃ p,val 3 = .slice (some ⟨p,0,none⟩) N N∧W.heap.size≤p∧Z.heap[p]? = some (.cells (ints N (fun _ =>0)) 3 (0,0))
 s6:done 6 = true→∃ p,val 6 = .slice (some ⟨p,0,none⟩) N N∧W.heap.size≤p∧Z.heap[p]? = some (.cells (ints N (fun _ =>0)) 3 (0,0))
 ne:done 3 = true→done 6 = true→val 3≠val 6
 s9:done 9 = true→∃ p,val 9 = .slice (some ⟨p,0,none⟩) N N∧W.heap.size≤p∧Z.heap[p]? = some (.cells (bls N (fun _ =>false)) 4 (0,0))
 n10:done 10 = true→done 3 = true∧done 6 = true∧done 9 = true
 s10:done 10 = true→∃ p3 p6 p9,val 10 = .agg (fin0 A N c p3 p6 p9)∧val 3 = .slice (some ⟨p3,0,none⟩) N N∧val 6 = .slice (some ⟨p6,0,none⟩) N N∧val 9 = .slice (some ⟨p9,0,none⟩) N N
 n11:done 11 = true→done 10 = true
 s11:done 11 = true→∃ F p3 p6 p9,val 11 = .pointer (some ⟨F,0,none⟩)∧val 3 = .slice (some ⟨p3,0,none⟩) N N∧val 6 = .slice (some ⟨p6,0,none⟩) N N∧val 9 = .slice (some ⟨p9,0,none⟩) N N∧W.heap.size≤F∧Z.heap[F]? = some (.cells (fin0 A N c p3 p6 p9) 83 (0,0))
 n12:done 12 = true→done 11 = true
 v12:done 12 = true→val 12 = val 11
section
variable {A:Option Addr} {N c:Nat} {W Z:World} {done:Nat→Bool} {val:Nat→Value}
theorem S3.start (A:Option Addr) (N c:Nat) (W:World):S3 A N c W (fun _ =>false) (fun _ =>undef) { W with drawn:=W.drawn + 1 } :=
 ⟨(zJ0 W.heap.size W).drew,by simp,by simp,by simp,by simp,by simp,by simp,by simp,by simp,by simp,by simp,by simp⟩
theorem S3.v0 (h:S3 A N c W done val Z) (hd:done 0 = true):val 0 = .slice A N c:=h.vv 0 hd qF0
theorem S3.v1 (h:S3 A N c W done val Z) (hd:done 1 = true):val 1 = .slice A N c:=h.vv 1 hd qF0
theorem S3.v2 (h:S3 A N c W done val Z) (hd:done 2 = true):val 2 = .int .i64 (N:Nat):=h.vv 2 hd qF0
theorem S3.v4 (h:S3 A N c W done val Z) (hd:done 4 = true):val 4 = .slice A N c:=h.vv 4 hd qF0
theorem S3.v5 (h:S3 A N c W done val Z) (hd:done 5 = true):val 5 = .int .i64 (N:Nat):=h.vv 5 hd qF0
theorem S3.v7 (h:S3 A N c W done val Z) (hd:done 7 = true):val 7 = .slice A N c:=h.vv 7 hd qF0
theorem S3.v8 (h:S3 A N c W done val Z) (hd:done 8 = true):val 8 = .int .i64 (N:Nat):=h.vv 8 hd qF0
theorem S3.do_ (h:S3 A N c W done val Z) (i:Nat) (hc:cst3 i = true) {x:Value} (hx:x = ix3 A N c i):S3 A N c W (upd done i) (setv val i x) Z:=by
 have e3:i≠3:=by rintro rfl;cases hc
 have e6:i≠6:=by rintro rfl;cases hc
 have e9:i≠9:=by rintro rfl;cases hc
 have e10:i≠10:=by rintro rfl;cases hc
 have e11:i≠11:=by rintro rfl;cases hc
 have e12:i≠12:=by rintro rfl;cases hc
 refine ⟨h.be,fun j hj hcj =>?vv,?s3,?s6,?ne,?s9,?n10,?s10,?n11,?s11,?n12,?v12⟩
 case vv =>
  simp only [upd,setv] at hj ⊢;by_cases e:j = i
  ·rw [if_pos e,e];exact hx
  ·rw [if_neg e] at hj ⊢;exact h.vv j hj hcj
 all_goals try simp only [upd,setv,if_neg (Ne.symm e3),if_neg (Ne.symm e6),if_neg (Ne.symm e9),if_neg (Ne.symm e10),if_neg (Ne.symm e11),if_neg (Ne.symm e12)]
 case s3 =>exact h.s3
 case s6 =>exact h.s6
 case ne =>exact h.ne
 case s9 =>exact h.s9
 case n10 =>exact h.n10
 case s10 =>exact h.s10
 case n11 =>exact h.n11
 case s11 =>exact h.s11
 case n12 =>exact h.n12
 case v12 =>exact h.v12
theorem S3.do3 (h:S3 A N c W done val Z) (hd:done 3 = false):S3 A N c W (upd done 3) (setv val 3 (.slice (some ⟨Z.heap.size,0,none⟩) N N)) (Z.alloc (.cells (ints N (fun _ =>0)) 3)):=by
 have h10:done 10 = false:=by cases e:done 10 with
  | false =>rfl
  | true =>have:=h.n10 e;simp [hd] at this
 have h11:done 11 = false:=by cases e:done 11 with
  | false =>rfl
  | true =>rw [h.n11 e] at h10;cases h10
 refine ⟨?be,fun j hj hcj =>?vv,?s3,?s6,?ne,?s9,?n10,?s10,?n11,?s11,?n12,?v12⟩
 case vv =>
  have e:j≠3:=by rintro rfl;cases hcj
  simp only [upd,setv,if_neg e] at hj ⊢;exact h.vv j hj hcj
 all_goals try simp only [upd,setv,if_true,if_neg (show (6:Nat)≠3 by decide),if_neg (show (9:Nat)≠3 by decide),if_neg (show (10:Nat)≠3 by decide),if_neg (show (11:Nat)≠3 by decide),if_neg (show (12:Nat)≠3 by decide)]
 case be =>exact a0B h.be _
 case s3 =>exact fun _ =>⟨Z.heap.size,rfl,h.be.size,World.alloc_heap_new Z _⟩
 case s6 =>exact fun q =>by obtain ⟨p,e,hle,hb⟩:=h.s6 q;exact ⟨p,e,hle,a0K hb _⟩
 case ne =>exact fun _ q e =>by obtain ⟨p,e2,_,hb⟩:=h.s6 q;rw [e2] at e;simp only [Value.slice.injEq,Option.some.injEq,Addr.mk.injEq] at e;have:=a1K hb;omega
 case s9 =>exact fun q =>by obtain ⟨p,e,hle,hb⟩:=h.s9 q;exact ⟨p,e,hle,a0K hb _⟩
 case n10 =>exact fun q =>by rw [h10] at q;cases q
 case s10 =>exact fun q =>by rw [h10] at q;cases q
 case n11 =>exact h.n11
 case s11 =>exact fun q =>by rw [h11] at q;cases q
 case n12 =>exact h.n12
 case v12 =>exact fun q =>by rw [h.n12 q] at h11;cases h11
theorem S3.do6 (h:S3 A N c W done val Z) (hd:done 6 = false):S3 A N c W (upd done 6) (setv val 6 (.slice (some ⟨Z.heap.size,0,none⟩) N N)) (Z.alloc (.cells (ints N (fun _ =>0)) 3)):=by
 have h10:done 10 = false:=by cases e:done 10 with
  | false =>rfl
  | true =>have:=h.n10 e;simp [hd] at this
 have h11:done 11 = false:=by cases e:done 11 with
  | false =>rfl
  | true =>rw [h.n11 e] at h10;cases h10
 refine ⟨?be,fun j hj hcj =>?vv,?s3,?s6,?ne,?s9,?n10,?s10,?n11,?s11,?n12,?v12⟩
 case vv =>
  have e:j≠6:=by rintro rfl;cases hcj
  simp only [upd,setv,if_neg e] at hj ⊢;exact h.vv j hj hcj
 all_goals try simp only [upd,setv,if_true,if_neg (show (3:Nat)≠6 by decide),if_neg (show (9:Nat)≠6 by decide),if_neg (show (10:Nat)≠6 by decide),if_neg (show (11:Nat)≠6 by decide),if_neg (show (12:Nat)≠6 by decide)]
 case be =>exact a0B h.be _
 case s3 =>exact fun q =>by obtain ⟨p,e,hle,hb⟩:=h.s3 q;exact ⟨p,e,hle,a0K hb _⟩
 case s6 =>exact fun _ =>⟨Z.heap.size,rfl,h.be.size,World.alloc_heap_new Z _⟩
 case ne =>exact fun q _ e =>by obtain ⟨p,e2,_,hb⟩:=h.s3 q;rw [e2] at e;simp only [Value.slice.injEq,Option.some.injEq,Addr.mk.injEq] at e;have:=a1K hb;omega
 case s9 =>exact fun q =>by obtain ⟨p,e,hle,hb⟩:=h.s9 q;exact ⟨p,e,hle,a0K hb _⟩
 case n10 =>exact fun q =>by rw [h10] at q;cases q
 case s10 =>exact fun q =>by rw [h10] at q;cases q
 case n11 =>exact h.n11
 case s11 =>exact fun q =>by rw [h11] at q;cases q
 case n12 =>exact h.n12
 case v12 =>exact fun q =>by rw [h.n12 q] at h11;cases h11
theorem S3.do9 (h:S3 A N c W done val Z) (hd:done 9 = false):S3 A N c W (upd done 9) (setv val 9 (.slice (some ⟨Z.heap.size,0,none⟩) N N)) (Z.alloc (.cells (bls N (fun _ =>false)) 4)):=by
 have h10:done 10 = false:=by cases e:done 10 with
  | false =>rfl
  | true =>have:=h.n10 e;simp [hd] at this
 have h11:done 11 = false:=by cases e:done 11 with
  | false =>rfl
  | true =>rw [h.n11 e] at h10;cases h10
 refine ⟨?be,fun j hj hcj =>?vv,?s3,?s6,?ne,?s9,?n10,?s10,?n11,?s11,?n12,?v12⟩
 case vv =>
  have e:j≠9:=by rintro rfl;cases hcj
  simp only [upd,setv,if_neg e] at hj ⊢;exact h.vv j hj hcj
 all_goals try simp only [upd,setv,if_true,if_neg (show (3:Nat)≠9 by decide),if_neg (show (6:Nat)≠9 by decide),if_neg (show (10:Nat)≠9 by decide),if_neg (show (11:Nat)≠9 by decide),if_neg (show (12:Nat)≠9 by decide)]
 case be =>exact a0B h.be _
 case s3 =>exact fun q =>by obtain ⟨p,e,hle,hb⟩:=h.s3 q;exact ⟨p,e,hle,a0K hb _⟩
 case s6 =>exact fun q =>by obtain ⟨p,e,hle,hb⟩:=h.s6 q;exact ⟨p,e,hle,a0K hb _⟩
 case ne =>exact h.ne
 case s9 =>exact fun _ =>⟨Z.heap.size,rfl,h.be.size,World.alloc_heap_new Z _⟩
 case n10 =>exact fun q =>by rw [h10] at q;cases q
 case s10 =>exact fun q =>by rw [h10] at q;cases q
 case n11 =>exact h.n11
 case s11 =>exact fun q =>by rw [h11] at q;cases q
 case n12 =>exact h.n12
 case v12 =>exact fun q =>by rw [h.n12 q] at h11;cases h11
theorem S3.do10 (h:S3 A N c W done val Z) (hd:done 10 = false) {p3 p6 p9:Nat} (e3:val 3 = .slice (some ⟨p3,0,none⟩) N N) (e6:val 6 = .slice (some ⟨p6,0,none⟩) N N) (e9:val 9 = .slice (some ⟨p9,0,none⟩) N N) (h3:done 3 = true) (h6:done 6 = true) (h9:done 9 = true):S3 A N c W (upd done 10) (setv val 10 (.agg (fin0 A N c p3 p6 p9))) Z:=by
 refine ⟨?be,fun j hj hcj =>?vv,?s3,?s6,?ne,?s9,?n10,?s10,?n11,?s11,?n12,?v12⟩
 case vv =>
  have e:j≠10:=by rintro rfl;cases hcj
  simp only [upd,setv,if_neg e] at hj ⊢;exact h.vv j hj hcj
 all_goals try simp only [upd,setv,if_true,if_neg (show (3:Nat)≠10 by decide),if_neg (show (6:Nat)≠10 by decide),if_neg (show (9:Nat)≠10 by decide),if_neg (show (11:Nat)≠10 by decide),if_neg (show (12:Nat)≠10 by decide)]
 case be =>exact h.be
 case s3 =>exact h.s3
 case s6 =>exact h.s6
 case ne =>exact h.ne
 case s9 =>exact h.s9
 case n10 =>exact fun _ =>⟨h3,h6,h9⟩
 case s10 =>exact fun _ =>⟨p3,p6,p9,rfl,e3,e6,e9⟩
 case n11 =>exact fun _ =>trivial
 case s11 =>exact h.s11
 case n12 =>exact h.n12
 case v12 =>exact h.v12
theorem S3.do11 (h:S3 A N c W done val Z) (hd:done 11 = false) {p3 p6 p9:Nat} (h10:done 10 = true) (e3:val 3 = .slice (some ⟨p3,0,none⟩) N N) (e6:val 6 = .slice (some ⟨p6,0,none⟩) N N) (e9:val 9 = .slice (some ⟨p9,0,none⟩) N N):S3 A N c W (upd done 11) (setv val 11 (.pointer (some ⟨Z.heap.size,0,none⟩))) (Z.alloc (.cells (fin0 A N c p3 p6 p9) 83)):=by
 refine ⟨?be,fun j hj hcj =>?vv,?s3,?s6,?ne,?s9,?n10,?s10,?n11,?s11,?n12,?v12⟩
 case vv =>
  have e:j≠11:=by rintro rfl;cases hcj
  simp only [upd,setv,if_neg e] at hj ⊢;exact h.vv j hj hcj
 all_goals try simp only [upd,setv,if_true,if_neg (show (3:Nat)≠11 by decide),if_neg (show (6:Nat)≠11 by decide),if_neg (show (9:Nat)≠11 by decide),if_neg (show (10:Nat)≠11 by decide),if_neg (show (12:Nat)≠11 by decide)]
 case be =>exact a0B h.be _
 case s3 =>exact fun q =>by obtain ⟨p,e,hle,hb⟩:=h.s3 q;exact ⟨p,e,hle,a0K hb _⟩
 case s6 =>exact fun q =>by obtain ⟨p,e,hle,hb⟩:=h.s6 q;exact ⟨p,e,hle,a0K hb _⟩
 case ne =>exact h.ne
 case s9 =>exact fun q =>by obtain ⟨p,e,hle,hb⟩:=h.s9 q;exact ⟨p,e,hle,a0K hb _⟩
 case n10 =>exact h.n10
 case s10 =>exact h.s10
 case n11 =>exact fun _ =>h10
 case s11 =>exact fun _ =>⟨Z.heap.size,p3,p6,p9,rfl,e3,e6,e9,h.be.size,World.alloc_heap_new Z _⟩
 case n12 =>exact fun _ =>trivial
 case v12 =>exact fun q =>by rw [h.n12 q] at hd;cases hd
theorem S3.do12 (h:S3 A N c W done val Z) (hd:done 12 = false) (h11:done 11 = true) {F:Nat} (e11:val 11 = .pointer (some ⟨F,0,none⟩)):S3 A N c W (upd done 12) (setv val 12 (.pointer (some ⟨F,0,none⟩))) Z:=by
 refine ⟨?be,fun j hj hcj =>?vv,?s3,?s6,?ne,?s9,?n10,?s10,?n11,?s11,?n12,?v12⟩
 case vv =>
  have e:j≠12:=by rintro rfl;cases hcj
  simp only [upd,setv,if_neg e] at hj ⊢;exact h.vv j hj hcj
 all_goals try simp only [upd,setv,if_true,if_neg (show (3:Nat)≠12 by decide),if_neg (show (6:Nat)≠12 by decide),if_neg (show (9:Nat)≠12 by decide),if_neg (show (10:Nat)≠12 by decide),if_neg (show (11:Nat)≠12 by decide)]
 case be =>exact h.be
 case s3 =>exact h.s3
 case s6 =>exact h.s6
 case ne =>exact h.ne
 case s9 =>exact h.s9
 case n10 =>exact h.n10
 case s10 =>exact h.s10
 case n11 =>exact h.n11
 case s11 =>exact h.s11
 case n12 =>exact fun _ =>h11
 case v12 =>exact fun _ =>e11.symm
end
set_option maxRecDepth 100000
theorem S3.fs {A:Option Addr} {c:Nat} {W Z:World} {done:Nat→Bool} {val:Nat→Value} {g:List (List Int)} (h:S3 A g.length c W done val Z) (h12:done 12 = true) (hg:Kd.F kL W (fun k =>k < W.heap.size) A g.length g) :
  ∃ F b1 b2 b4,val 12 = .pointer (some ⟨F,0,none⟩)∧FS W.heap.size F b1 b2 b4 A c g st0 (.slice none 0 0) (.slice none 0 0) Z:=by
 have h11:=h.n12 h12;have h10:=h.n11 h11;obtain ⟨h3,h6,h9⟩:=h.n10 h10;obtain ⟨F,p3,p6,p9,e11,e3,e6,e9,hF,hb⟩:=h.s11 h11;obtain ⟨q3,f3,l3,c3⟩:=h.s3 h3;obtain ⟨q6,f6,l6,c6⟩:=h.s6 h6;obtain ⟨q9,f9,l9,c9⟩:=h.s9 h9;have hne:=h.ne h3 h6;rw [e3] at f3 hne;rw [e6] at f6 hne;rw [e9] at f9;simp only [Value.slice.injEq,Option.some.injEq,Addr.mk.injEq,and_true,true_and] at f3 f6 f9;subst f3 f6 f9;refine ⟨F,p3,p6,p9,(h.v12 h12).trans e11,⟨hb,c3,c6,c9,Kd.a9A _ _ _ _ _,Kd.b9V _ _ _ _ _,Kd.a5W hg (fun k hk _ =>h.be.block k hk),⟨hF,l3,l6,l9⟩,fun e =>hne (by rw [e])⟩⟩
theorem makeI (N:Nat) (hN:N≤1000) (W:World):(Instr.makeSlice 43 (.int .i64 (N:Int)) (.int .i64 (N:Int))).run Tryz.prog W = .ok (.slice (some ⟨W.heap.size,0,none⟩) N N) (W.alloc (.cells (ints N (fun _ =>0)) 3)):=by
 have h:=a4T (P:=Tryz.prog) 43 3 (.int .i64 0) 8 Tryz.underlying43 a9S rfl qF0 (N:Int) (zI0 N) qR2 W;rw [zM0] at h;rw [h]
 congr 3
 unfold madeCells ints;apply Array.ext_getElem?;intro j;by_cases hj:j < N
 ·simp [hj,Nat.mod_one]
 ·simp [hj]
theorem info4b:(Tryz.prog.info? 4).map (fun i =>(i.zero,i.size,i.bytes)) = some (some (.bool false),1,1):=by kernel_rfl
theorem makeB (N:Nat) (hN:N≤1000) (W:World):(Instr.makeSlice 71 (.int .i64 (N:Int)) (.int .i64 (N:Int))).run Tryz.prog W = .ok (.slice (some ⟨W.heap.size,0,none⟩) N N) (W.alloc (.cells (bls N (fun _ =>false)) 4)):=by
 have h:=a4T (P:=Tryz.prog) 71 4 (.bool false) 1 Tryz.underlying71 info4b rfl qF0 (N:Int) (zI0 N) qR2 W;rw [zM0] at h;rw [h]
 congr 3
 unfold madeCells bls;apply Array.ext_getElem?;intro j;by_cases hj:j < N
 ·simp [hj,Nat.mod_one]
 ·simp [hj]
structure OL (B F b1 b2 b4:Nat) (A:Option Addr) (c:Nat) (g:List (List Int)) (W0:World) (n:Nat) (s:St) (vs vk:Value) (W:World):Prop where
 is:s = rootsF (adjF g) g.length (List.range n) st0
 inv:Inv (adjF g) g.length s []
 ct:cnt g.length s≤g.length
 tt:tot s = s.next
 fs:FS B F b1 b2 b4 A c g s vs vk W
 be:Below B W0 W
 bz:B≤W.heap.size
theorem OL.start {B F b1 b2 b4:Nat} {A:Option Addr} {c:Nat} {g:List (List Int)} {W0 W:World} {vs vk:Value} (h:FS B F b1 b2 b4 A c g st0 vs vk W) (hb:Below B W0 W) (hz:B≤W.heap.size):OL B F b1 b2 b4 A c g W0 0 st0 vs vk W :=
 ⟨rfl,inv0,by
  have:=a7N g.length st0;unfold cnt;show 0 + _≤_
  omega,rfl,h,hb,hz⟩
def ofRow (k:Nat) (l:List Nat) (f:Nat→Nat):Nat→Nat:=l.foldl (fun f x =>Tarj.upd f x k) f
def ofAt (L:List (List Nat)) (n:Nat):Nat→Nat:=(List.range n).foldl (fun f k =>ofRow k (L.getD k []) f) (fun _ =>0)
def lowAt (L:List (List Nat)) (n:Nat):Nat→Nat:=fun k =>if k < n then (L.getD k []).getD 0 0 else 0
theorem b5H (L:List (List Nat)) (n:Nat):ofAt L (n + 1) = ofRow n (L.getD n []) (ofAt L n):=by
 unfold ofAt;rw [List.range_succ,List.foldl_append];rfl
theorem b9G (k:Nat) (l:List Nat) (j:Nat) (hj:j < l.length) (f:Nat→Nat):ofRow k (l.take (j + 1)) f = Tarj.upd (ofRow k (l.take j) f) l[j] k:=by
 unfold ofRow;rw [zV0 hj,List.foldl_append];rfl
theorem b9I (L:List (List Nat)) (n:Nat):lowAt L (n + 1) = Tarj.upd (lowAt L n) n ((L.getD n []).getD 0 0):=by
 funext k
 simp only [lowAt,Tarj.upd];by_cases e:k = n
 ·subst e;simp
 ·rw [if_neg e];by_cases h:k < n
  ·rw [if_pos h,if_pos qD0]
  ·rw [if_neg h,if_neg qD0]
structure KM (B N1 bof bl N K:Nat) (L:List (List Nat)) (vk:Value) (f h:Nat→Nat) (W0 W:World):Prop where
 kn:Kd.F kL W (fun k =>k < N1) (match vk with | .slice A _ _ =>A | _ =>none) L.length (L.map toI)
 of:W.heap[bof]? = some (.cells (ints N f) 3 (0,0))
 lo:W.heap[bl]? = some (.cells (ints K h) 3 (0,0))
 be:Below B W0 W
 ge:N1≤bof∧N1≤bl∧B≤N1
 ne:bof≠bl
theorem KM.setOf {B N1 bof bl N K:Nat} {L:List (List Nat)} {vk:Value} {f h:Nat→Nat} {W0 W:World} (q:KM B N1 bof bl N K L vk f h W0 W) (n x:Nat):KM B N1 bof bl N K L vk (Tarj.upd f n x) h W0 (W.setCell ⟨bof,n,none⟩ (.int .i64 (x:Nat))):=by
 obtain ⟨g1,g2,g3⟩:=q.ge;exact ⟨Kd.a9U (p:=⟨bof,n,none⟩) q.kn (fun k hk e =>by (have e':k = bof:=e);omega) _,a3A q.of n _ (a6Q _ _ _ _),a2F q.lo (Ne.symm q.ne) _,q.be.setCell (p:=⟨bof,n,none⟩) (zH0 g3 g1) _,q.ge,q.ne⟩
theorem KM.setLo {B N1 bof bl N K:Nat} {L:List (List Nat)} {vk:Value} {f h:Nat→Nat} {W0 W:World} (q:KM B N1 bof bl N K L vk f h W0 W) (n x:Nat):KM B N1 bof bl N K L vk f (Tarj.upd h n x) W0 (W.setCell ⟨bl,n,none⟩ (.int .i64 (x:Nat))):=by
 obtain ⟨g1,g2,g3⟩:=q.ge;exact ⟨Kd.a9U (p:=⟨bl,n,none⟩) q.kn (fun k hk e =>by (have e':k = bl:=e);omega) _,a2F q.of q.ne _,a3A q.lo n _ (a6Q _ _ _ _),q.be.setCell (p:=⟨bl,n,none⟩) (zH0 g3 g2) _,q.ge,q.ne⟩
theorem b1Y (adj:Nat→List Nat) (N n:Nat) (s:St):rootsF adj N (List.range (n + 1)) s = if (rootsF adj N (List.range n) s).index n = 0 then visitF adj N n (rootsF adj N (List.range n) s) else rootsF adj N (List.range n) s:=by
 unfold rootsF;rw [List.range_succ,List.foldl_append];rfl
inductive GRch (g:List (List Int)) (a:Nat):Nat→Prop
 | refl:GRch g a a
 | step {b:Nat} {m:Int}:GRch g a b→m ∈ g.getD b []→GRch g a m.toNat
theorem GRch.trans {g:List (List Int)} {a b c:Nat} (h:GRch g a b) (k:GRch g b c):GRch g a c:=by
 induction k with
 | refl =>exact h
 | step _ hm ih =>exact .step ih hm
def On (seen:List Bool) (v:Nat):Prop:=seen[v]? = some true
theorem b5D {l:List Bool} {n v:Nat} (h:On l v):On (l.set n true) v:=by
 unfold On at *;rw [List.getElem?_set]
 split
 ·rename_i e;subst e
  rw [if_pos (by have:=(List.getElem?_eq_some_iff.1 h).1;exact this)]
 ·exact h
theorem b5E {l:List Bool} {n v:Nat} (h:On (l.set n true) v):v = n∨On l v:=by
 unfold On at *;rw [List.getElem?_set] at h
 split at h
 ·rename_i e;exact .inl e.symm
 ·exact .inr h
theorem c2A:∀ (l:List Bool) (n:Nat),l[n]? = some false→((l.set n true).filter (fun x =>!x)).length + 1 = (l.filter (fun x =>!x)).length:=by
 intro l
 induction l with
 | nil =>intro n h;simp at h
 | cons x r ih =>
  intro n h;cases n with
  | zero =>simp at h;subst h;simp
  | succ n =>
   have h2:=ih n (by simpa using h);cases x <;> simp_all <;> omega
def pick (s:List Bool) (j:Nat):List Int:=((List.range j).filter (fun v =>s.getD v false)).map Int.ofNat
theorem pick_on {s:List Bool} {j:Nat} (h:s[j]? = some true):pick s (j + 1) = pick s j ++ [(j:Int)]:=by
 unfold pick;rw [List.range_succ,List.filter_append,List.map_append];simp [zF0,h]
theorem pick_off {s:List Bool} {j:Nat} (h:s[j]? = some false):pick s (j + 1) = pick s j:=by
 unfold pick;rw [List.range_succ,List.filter_append,List.map_append];simp [zF0,h]
open Classical in
noncomputable def reachL (g:List (List Int)) (n:Nat):List Int:=((List.range g.length).filter (fun v =>decide (GRch g n v))).map Int.ofNat
theorem pm (n:Nat) (h:n≤1050000):wrap64 (((n + 1:Nat):Int) - 1) = (n:Int):=by simp only [wrap64];omega
def Sm (g:List (List Int)):Prop:=g.length≤1050000∧∀ i:Nat,(g.getD i []).length≤1050000
def okAt (N:Nat) (r:List Int) (j:Nat):Bool:=!(decide (rd r (j:Int) < 0)) && (!(decide (rd r (j:Int) ≥ (N:Int))) && (decide (j = 0) || !(decide (rd r (((j - 1:Nat)):Int) ≥ rd r (j:Int)))))
def rowTail (N:Nat) (r:List Int):Nat→Nat→Bool
 | 0,_ =>true
 | m + 1,j =>okAt N r j && rowTail N r m (j + 1)
def allTail (g:List (List Int)):Nat→Nat→Bool
 | 0,_ =>decide ((g.length:Int)≤1000)
 | m + 1,i =>rowTail g.length (g.getD i []) (g.getD i []).length 0 && allTail g m (i + 1)
def mayB (g:List (List Int)):Bool:=allTail g g.length 0
theorem rdLg (g:List (List Int)) (i:Nat):a0W g (i:Int) = g.getD i []:=rfl
theorem gmay_row (g:List (List Int)) (hs:Sm g) (i:Nat) (hi:i < g.length) (b:Bool) (h:Ev (fun k =>graph_May.l0 k g g (g.length:Int) ((i + 1:Nat):Int)) b) :
  ∀ m j:Nat,j + m = (g.getD i []).length→Ev (fun k =>graph_May.l1 k g (g.getD i []) g (g.length:Int) (i:Int) (g.getD i []) ((g.getD i []).length:Int) (j:Int)) (rowTail g.length (g.getD i []) m j && b):=by
 have hr:=hs.2 i;have hn:=hs.1;intro m
 induction m with
 | zero =>
  intro j hj;refine Ev.step ?_;have c3:¬ (j:Int) < ((g.getD i []).length:Int):=by omega
  simp only [graph_May.l1,if_neg c3,pz i qD0,rowTail,Bool.true_and];exact h
 | succ m ih =>
  intro j hj;have e:=ih (j + 1) qD0;refine Ev.step ?_;have c3:(j:Int) < ((g.getD i []).length:Int):=by omega
  have c4:0≤(j:Int):=zI0 j;simp only [graph_May.l1,if_pos c3,if_pos c4,pz j qD0,rowTail,okAt];by_cases d1:rd (g.getD i []) (j:Int) < 0
  ·simp only [if_pos d1,zC0 d1,zJ2,Bool.false_and];exact Ev.const _
  ·by_cases d2:rd (g.getD i []) (j:Int) ≥ (g.length:Int)
   ·simp only [if_neg d1,zL0 d1,if_pos d2,zC0 d2,zJ2,Bool.not_false,Bool.false_and,Bool.and_false];exact Ev.const _
   ·cases j with
    | zero =>
     simp only [if_neg d1,zL0 d1,if_neg d2,zL0 d2,Bool.not_false,Bool.true_and,if_neg (show ¬ ((0:Nat):Int) > 0 by decide),decide_true,Bool.true_or];exact e
    | succ j' =>
     have c5:(((j' + 1:Nat)):Int) > 0:=by omega
     have c6:0≤((j':Nat):Int):=zI0 j';have c7:((j':Nat):Int) < ((g.getD i []).length:Int):=by omega
     simp only [if_neg d1,zL0 d1,if_neg d2,zL0 d2,Bool.not_false,Bool.true_and,if_pos c5,pm j' qD0,if_pos c6,if_pos c7,Nat.add_sub_cancel,zL0 (show ¬ j' + 1 = 0 by omega),zW2];by_cases d3:rd (g.getD i []) (j':Int) ≥ rd (g.getD i []) (((j' + 1:Nat)):Int)
     ·simp only [if_pos d3,zC0 d3,zJ2,Bool.false_and];exact Ev.const _
     ·simp only [if_neg d3,zL0 d3,Bool.not_false,Bool.true_and];exact e
theorem b1A (g:List (List Int)) (hs:Sm g):Ev (fun k =>graph_May.f k g) (mayB g):=by
 have main:∀ m i:Nat,i + m = g.length→Ev (fun k =>graph_May.l0 k g g (g.length:Int) (i:Int)) (allTail g m i):=by
  intro m
  induction m with
  | zero =>
   intro i hi;refine Ev.step ?_;have c:¬ (i:Int) < (g.length:Int):=by omega
   simp only [graph_May.l0,if_neg c,allTail];exact Ev.const _
  | succ m ih =>
   intro i hi;refine Ev.step ?_;have c:(i:Int) < (g.length:Int):=by omega
   have c0:0≤(i:Int):=zI0 i;simp only [graph_May.l0,if_pos c,if_pos c0,rdLg,allTail];exact gmay_row g hs i qD0 _ (ih (i + 1) qD0) _ 0 qD0
 exact main g.length 0 qD0
theorem b4T {N:Nat} {r:List Int}:∀ (m j:Nat),rowTail N r m j = true→∀ i,j≤i→i < j + m→0≤rd r (i:Int)∧rd r (i:Int) < N∧(i≠0→rd r ((i - 1:Nat):Int) < rd r (i:Int)):=by
 intro m
 induction m with
 | zero =>intro j _ i h1 h2;omega
 | succ m ih =>
  intro j h i h1 h2;simp only [rowTail,zB1] at h;by_cases e:i = j
  ·subst e;have h3:=h.1;simp only [okAt,zB1,zY2,Bool.not_eq_true',zW1,decide_eq_false_iff_not] at h3;exact ⟨by omega,by omega,fun h0 =>by rcases h3.2.2 with h4 | h4 <;> omega⟩
  ·exact ih (j + 1) h.2 i qD0 qD0
theorem b5Z {g:List (List Int)}:∀ (m i:Nat),i + m = g.length→allTail g m i = true→g.length≤1000∧∀ v,i≤v→v < g.length→rowTail g.length (g.getD v []) (g.getD v []).length 0 = true:=by
 intro m
 induction m with
 | zero =>
  intro i hi h;simp only [allTail,zW1] at h;exact ⟨by omega,fun v h1 h2 =>by omega⟩
 | succ m ih =>
  intro i hi h;simp only [allTail,zB1] at h;obtain ⟨q1,q2⟩:=ih (i + 1) qD0 h.2;refine ⟨q1,fun v h1 h2 =>?_⟩;by_cases e:v = i
  ·subst e;exact h.1
  ·exact q2 v qD0 h2
theorem a2R {g:List (List Int)} (h:mayB g = true):g.length≤1000∧(∀ v,v < g.length→∀ j,j < (g.getD v []).length→0≤rd (g.getD v []) (j:Int)∧rd (g.getD v []) (j:Int) < g.length∧(j≠0→rd (g.getD v []) ((j - 1:Nat):Int) < rd (g.getD v []) (j:Int))):=by
 obtain ⟨q1,q2⟩:=b5Z g.length 0 qD0 h;exact ⟨q1,fun v hv j hj =>b4T _ 0 (q2 v (zM2 _) hv) j (zM2 _) qD0⟩
theorem c1I {r:List Int} {m:Int} (h:m ∈ r):∃ j,j < r.length∧rd r (j:Int) = m:=by
 obtain ⟨j,hj,e⟩:=List.getElem_of_mem h;exact ⟨j,hj,by unfold rd;rw [zM0,zF0,zE0 hj];simpa using e⟩
theorem b6N {g:List (List Int)} (h:mayB g = true):∀ v,v < g.length→∀ m ∈ g.getD v [],0≤m∧m < g.length:=by
 intro v hv m hm;obtain ⟨j,hj,rfl⟩:=c1I hm;have:=(a2R h).2 v hv j hj;exact ⟨this.1,this.2.1⟩
noncomputable def reachF (g:List (List Int)) (n:Int):List Int:=if mayB g = true∧0≤n∧n < g.length then reachL g n.toNat else []
theorem b1S {r:List Int} {j:Nat} (h:j < r.length):rd r (j:Int) = r[j]:=by
 unfold rd;rw [zM0,zF0,zE0 h];rfl
def col (g:List (List Int)) (t:Nat) (i:Nat):List Int:=((List.range i).filter (fun k =>decide ((t:Int) ∈ g.getD k []))).map Int.ofNat
def turnF (g:List (List Int)):List (List Int):=if mayB g = true then (List.range g.length).map (fun t =>col g t g.length) else []
theorem col_succ (g:List (List Int)) (t i:Nat):col g t (i + 1) = col g t i ++ (if (t:Int) ∈ g.getD i [] then [(i:Int)] else []):=by
 unfold col;rw [List.range_succ,List.filter_append,List.map_append];by_cases h:(t:Int) ∈ g.getD i []
 ·simp only [zA2,h,decide_true,if_true,List.filter_nil,zE2,zV2];rfl
 ·simp only [zA2,h,decide_false,if_false,List.filter_nil,zV2,Bool.false_eq_true]
theorem col_len (g:List (List Int)) (t i:Nat):(col g t i).length≤i:=by
 unfold col;rw [zO1];exact zH0 (zZ2 _ _) qG0
theorem c1A {g:List (List Int)} (hm:mayB g = true) {i:Nat} (hi:i < g.length):∀ b a:Nat,a < b→b < (g.getD i []).length→rd (g.getD i []) (a:Int) < rd (g.getD i []) (b:Int):=by
 intro b
 induction b with
 | zero =>intro a h;omega
 | succ b ih =>
  intro a h1 h2;have h3:=((a2R hm).2 i hi (b + 1) h2).2.2 qD0;simp only [Nat.add_sub_cancel] at h3;by_cases e:a = b
  ·subst e;exact h3
  ·have:=ih a qD0 qD0;omega
theorem row_new {g:List (List Int)} (hm:mayB g = true) {i j:Nat} (hi:i < g.length) (hj:j < (g.getD i []).length):¬ (g.getD i [])[j] ∈ (g.getD i []).take j:=by
 intro h;obtain ⟨a,ha,e⟩:=List.getElem_of_mem h;rw [zG1] at ha;rw [List.getElem_take] at e;have h1:=c1A hm hi j a qD0 hj;rw [b1S qD0,b1S hj] at h1;omega
def part (g:List (List Int)) (i j:Nat):List (List Int):=(List.range g.length).map (fun t =>col g t i ++ (if (t:Int) ∈ (g.getD i []).take j then [(i:Int)] else []))
theorem b7R (g:List (List Int)) (i j t:Nat) (ht:t < g.length):(part g i j).getD t [] = col g t i ++ (if (t:Int) ∈ (g.getD i []).take j then [(i:Int)] else []):=by
 unfold part;rw [zF0,List.getElem?_map,List.getElem?_range ht];rfl
theorem c1Q {g:List (List Int)} (hm:mayB g = true) {i j x:Nat} (hi:i < g.length) (hj:j < (g.getD i []).length) (hx:(g.getD i [])[j] = (x:Int)) (hxN:x < g.length):(part g i j).set x ((part g i j).getD x [] ++ [(i:Int)]) = part g i (j + 1):=by
 have hnew:=row_new hm hi hj;rw [hx] at hnew;apply zF2;intro t;rw [List.getElem?_set];have hlen:(part g i j).length = g.length:=by unfold part;simp
 by_cases ht:t < g.length
 ·have hr:(part g i (j + 1))[t]? = some (col g t i ++ (if (t:Int) ∈ (g.getD i []).take (j + 1) then [(i:Int)] else [])):=by
   unfold part;rw [List.getElem?_map,List.getElem?_range ht];rfl
  rw [hr,zV0 hj,hx]
  split
  ·rename_i e;subst e
   rw [if_pos (by rw [hlen];exact ht),b7R g i j x ht,if_neg hnew,if_pos qG0,zO2]
  ·rename_i e
   have hr2:(part g i j)[t]? = some (col g t i ++ (if (t:Int) ∈ (g.getD i []).take j then [(i:Int)] else [])):=by
    unfold part;rw [List.getElem?_map,List.getElem?_range ht];rfl
   rw [hr2];have hne:¬ (t:Int) = (x:Int):=by omega
   by_cases hin:(t:Int) ∈ (g.getD i []).take j
   ·rw [if_pos hin,if_pos (zU0.2 (.inl hin))]
   ·rw [if_neg hin,if_neg (fun h' =>(zU0.1 h').elim hin (fun h'' =>hne (zC1.1 h'')))]
 ·have h1:(part g i (j + 1))[t]? = none:=by rw [List.getElem?_eq_none];unfold part;simp;omega
  have h2:(part g i j)[t]? = none:=by rw [List.getElem?_eq_none];rw [hlen];omega
  rw [h1,if_neg qD0,h2]
theorem c1R (g:List (List Int)) (i:Nat):part g i (g.getD i []).length = part g (i + 1) 0:=by
 unfold part;apply List.map_congr_left;intro t _;rw [zH1,col_succ];simp
theorem c2V (g:List (List Int)) (hs:Sm g) (hm:mayB g = true) (i:Nat) (hi:i < g.length) (res:List (List Int)) (h:Ev (fun k =>graph_Turn.l0 k (part g (i + 1) 0) g (g.length:Int) ((i + 1:Nat):Int)) res) :
  ∀ m j:Nat,j + m = (g.getD i []).length→Ev (fun k =>graph_Turn.l1 k (part g i j) (i:Int) g (g.length:Int) (i:Int) (g.getD i []) ((g.getD i []).length:Int) (j:Int)) res:=by
 have hr:=hs.2 i;have hn:=hs.1;intro m
 induction m with
 | zero =>
  intro j hj;refine Ev.step ?_;have c3:¬ (j:Int) < ((g.getD i []).length:Int):=by omega
  simp only [graph_Turn.l1,if_neg c3,pz i qD0];rw [show j = (g.getD i []).length by omega,c1R];exact h
 | succ m ih =>
  intro j hj;have e:=ih (j + 1) qD0;refine Ev.step ?_;have hjl:j < (g.getD i []).length:=by omega
  have c3:(j:Int) < ((g.getD i []).length:Int):=by omega
  have c4:0≤(j:Int):=zI0 j;obtain ⟨m0,m1⟩:=b6N hm i hi _ (zD1 hjl);obtain ⟨x,hx⟩:∃ x:Nat,(g.getD i [])[j] = (x:Int):=⟨((g.getD i [])[j]).toNat,by omega⟩;rw [hx] at m1;have hxN:x < g.length:=by omega
  have hrd:rd (g.getD i []) (j:Int) = (x:Int):=by rw [b1S hjl];exact hx
  have d1:0≤(x:Int):=zI0 x;have hlen:(part g i j).length = g.length:=by unfold part;simp
  have d2:(x:Int) < ((part g i j).length:Int):=by rw [hlen];exact m1
  have d3:((part g i j).getD x []).length < 17592186044416:=by
   rw [b7R g i j x hxN,zR0];have:=col_len g x i
   split <;> simp <;> omega
  simp only [graph_Turn.l1,if_pos c3,if_pos c4,hrd,if_pos d1,if_pos d2,rdLg,if_pos d3,zM0,pz j qD0,c1Q hm hi hjl hx hxN];exact e
theorem gturn_ev (g:List (List Int)) (hs:Sm g):Ev (fun k =>graph_Turn.f k g) (turnF g):=by
 have hn:=hs.1;refine Ev.bind (b1A g hs) ?_;unfold turnF;cases hb:mayB g with
 | false =>simp only [Bool.false_eq_true,if_false];exact Ev.const _
 | true =>
  have main:∀ m i:Nat,i + m = g.length→Ev (fun k =>graph_Turn.l0 k (part g i 0) g (g.length:Int) (i:Int)) ((List.range g.length).map (fun t =>col g t g.length)):=by
   intro m
   induction m with
   | zero =>
    intro i hi;refine Ev.step ?_;have c:¬ (i:Int) < (g.length:Int):=by omega
    simp only [graph_Turn.l0,if_neg c];rw [show i = g.length by omega,show part g g.length 0 = (List.range g.length).map (fun t =>col g t g.length) by unfold part;simp];exact Ev.const _
   | succ m ih =>
    intro i hi;refine Ev.step ?_;have c:(i:Int) < (g.length:Int):=by omega
    have c0:0≤(i:Int):=zI0 i;simp only [graph_Turn.l0,if_pos c,if_pos c0,rdLg];exact c2V g hs hb i qD0 _ (ih (i + 1) qD0) (g.getD i []).length 0 qD0
  have c1:0≤(g.length:Int):=zI0 _;have c2:g.length≤11728124029610:=by omega
  simp only [if_true,if_pos c1,zM0,if_pos c2];have e:=main g.length 0 qD0
  rw [show part g 0 0 = List.replicate g.length [] by
   unfold part;apply zF2;intro t;rw [List.getElem?_map,List.getElem?_replicate];by_cases ht:t < g.length
   ·rw [List.getElem?_range ht,if_pos ht];simp [col]
   ·rw [List.getElem?_eq_none qA1,if_neg ht];rfl] at e
  exact e
open Classical
theorem row_ge {g:List (List Int)} (hm:mayB g = true) {v:Nat} (hv:v < g.length):∀ j:Nat,j < (g.getD v []).length→(j:Int)≤rd (g.getD v []) (j:Int):=by
 intro j
 induction j with
 | zero =>intro h;exact ((a2R hm).2 v hv 0 h).1
 | succ j ih =>
  intro h;have h1:=((a2R hm).2 v hv (j + 1) h).2.2 qD0;simp only [Nat.add_sub_cancel] at h1;have:=ih qD0;omega
theorem a4C {g:List (List Int)} (hm:mayB g = true):GOk g:=by
 have h0:=(a2R hm).1;refine ⟨h0,fun v =>?_,fun v hv m hmm =>b6N hm v hv m hmm⟩;by_cases hv:v < g.length
 ·rcases zP1 (g.getD v []).length with e | e
  ·rw [e];exact zM2 _
  ·have h1:=row_ge hm hv ((g.getD v []).length - 1) qD0;have h2:=((a2R hm).2 v hv ((g.getD v []).length - 1) qD0).2.1;omega
 ·rw [zF0,List.getElem?_eq_none qD0];exact zM2 _
theorem GOk.sm {g:List (List Int)} (h:GOk g):Sm g:=⟨zH0 h.len qF0,fun i =>zH0 (h.row i) qF0⟩
def toL (N:Nat) (num:Nat→Nat):List Int:=(List.range N).map fun x =>((num x:Nat):Int)
theorem a6Z (N:Nat) (num:Nat→Nat):(toL N num).length = N:=by unfold toL;simp
theorem toL_rd {N:Nat} {num:Nat→Nat} {x:Nat} (h:x < N):rd (toL N num) (x:Int) = ((num x:Nat):Int):=by
 unfold toL rd;rw [zM0,zF0,List.getElem?_map,List.getElem?_range h];rfl
theorem c0H {N:Nat} {num num':Nat→Nat} (h:∀ x,x < N→num x = num' x):toL N num = toL N num':=by
 unfold toL;exact List.map_congr_left (fun x hx =>by rw [h x (zW0.1 hx)])
theorem b8V {N:Nat} {r:List Int} (hr:r.Pairwise (· < ·)) (he:∀ m,m ∈ r→0≤m∧m < (N:Int)):∀ m j:Nat,j + m = r.length→rowTail N r m j = true:=by
 intro m
 induction m with
 | zero =>intro j _;rfl
 | succ m ih =>
  intro j hj;have hjl:j < r.length:=by omega
  simp only [rowTail,zB1];refine ⟨?_,ih (j + 1) qD0⟩;have e:=he _ (zD1 hjl);have h1:rd r (j:Int) = r[j]:=b1S hjl;simp only [okAt,zB1,zY2,Bool.not_eq_true',zW1,decide_eq_false_iff_not,h1];refine ⟨by omega,by omega,?_⟩;by_cases e0:j = 0
  ·exact .inl e0
  ·right
   have h2:rd r ((j - 1:Nat):Int) = r[j - 1]:=b1S qD0;rw [h2];have:=(List.pairwise_iff_getElem.1 hr) (j - 1) j qD0 hjl qD0;omega
theorem c2L {g:List (List Int)} (hl:g.length≤1000) (hr:∀ v,v < g.length→(g.getD v []).Pairwise (· < ·)) (he:∀ v,v < g.length→∀ m,m ∈ g.getD v []→0≤m∧m < (g.length:Int)):mayB g = true:=by
 have main:∀ m i:Nat,i + m = g.length→allTail g m i = true:=by
  intro m
  induction m with
  | zero =>intro i _;simp only [allTail,zW1];omega
  | succ m ih =>
   intro i hi;simp only [allTail,zB1];exact ⟨b8V (hr i qD0) (he i qD0) _ 0 qD0,ih (i + 1) qD0⟩
 exact main g.length 0 qD0
theorem c2D {g:List (List Int)} (hm:mayB g = true):∃ M num,Nmb (adjF g) g.length M num:=b9H (a4C hm).adj
noncomputable def manyN (g:List (List Int)):Nat:=if h:mayB g = true then Classical.choose (c2D h) else 0
noncomputable def numN (g:List (List Int)):Nat→Nat:=if h:mayB g = true then Classical.choose (Classical.choose_spec (c2D h)) else fun _ =>0
theorem a7H {g:List (List Int)} (hm:mayB g = true):Nmb (adjF g) g.length (manyN g) (numN g):=by
 unfold manyN numN;rw [dif_pos hm,dif_pos hm];exact Classical.choose_spec (Classical.choose_spec (c2D hm))
noncomputable def ofF (g:List (List Int)):List Int:=if mayB g = true then toL g.length (numN g) else []
noncomputable def manyF (g:List (List Int)):Int:=((manyN g:Nat):Int)
def Ldg (adj:Nat→List Nat) (N:Nat) (num:Nat→Nat) (k m:Nat):Prop:=∃ x,x < N∧num x = k∧∃ y,y ∈ adj x∧num y = m
noncomputable def foldR (adj:Nat→List Nat) (N:Nat) (num:Nat→Nat) (M k:Nat):List Int:=((List.range M).filter (fun m =>decide (m≠k∧Ldg adj N num k m))).map Int.ofNat
noncomputable def foldF (g:List (List Int)):List (List Int):=(List.range (manyN g)).map fun k =>foldR (adjF g) g.length (numN g) (manyN g) k
theorem c2M {g:List (List Int)} (hm:¬ mayB g = true):manyN g = 0:=by unfold manyN;rw [dif_neg hm]
theorem of_eq {g:List (List Int)} (hm:mayB g = true) {M:Nat} {num:Nat→Nat} (h:Nmb (adjF g) g.length M num):M = manyN g∧(∀ x,x < g.length→num x = numN g x)∧ofF g = toL g.length num:=by
 obtain ⟨a,b⟩:=h.uniq (a4C hm).adj (a7H hm);refine ⟨a,b,?_⟩;unfold ofF;rw [if_pos hm];exact (c0H b).symm
theorem ofF_len {g:List (List Int)} (hm:mayB g = true):(ofF g).length = g.length:=by unfold ofF;rw [if_pos hm,a6Z]
theorem ofF_rd {g:List (List Int)} (hm:mayB g = true) {x:Nat} (h:x < g.length):rd (ofF g) (x:Int) = ((numN g x:Nat):Int):=by unfold ofF;rw [if_pos hm,toL_rd h]
def pmx (num:Nat→Nat):Nat→Nat
 | 0 =>0
 | i + 1 =>max (pmx num i) (num i + 1)
theorem pmx_ge {num:Nat→Nat}:∀ {i x:Nat},x < i→num x + 1≤pmx num i
 | 0,x,h =>absurd h (zS2 _)
 | i + 1,x,h =>by
  unfold pmx;by_cases e:x = i
  ·subst e;omega
  ·have:=pmx_ge (num:=num) (i:=i) (x:=x) qD0;omega
theorem pmx_le {num:Nat→Nat} {M:Nat}:∀ {i:Nat},(∀ x,x < i→num x < M)→pmx num i≤M
 | 0,_ =>zM2 _
 | i + 1,h =>by
  unfold pmx;have:=pmx_le (num:=num) (M:=M) (i:=i) (fun x hx =>h x qD0);have:=h i qD0;omega
theorem pmx_all {adj:Nat→List Nat} {N M:Nat} {num:Nat→Nat} (h:Nmb adj N M num):pmx num N = M:=by
 have h1:=pmx_le (num:=num) (M:=M) (i:=N) h.lt;rcases zP1 M with e | e
 ·omega
 ·obtain ⟨n,a,b,_⟩:=h.at_ (M - 1) qD0;have:=pmx_ge (num:=num) a;omega
theorem b6O {g:List (List Int)} (hm:mayB g = true):manyN g≤g.length:=by
 have h:=a7H hm;have hN:=(a4C hm).adj;have key:∀ m,m≤manyN g→m≤((List.range g.length).filter (fun x =>decide (numN g x < m))).length:=by
  intro m
  induction m with
  | zero =>intro _;exact zM2 _
  | succ m ih =>
   intro hm';obtain ⟨n,a,b,_⟩:=h.at_ m qD0;have:=ih qD0;have:=b8G (l:=List.range g.length) (p:=fun x =>decide (numN g x < m)) (q:=fun x =>decide (numN g x < m + 1)) (n:=n) (fun x _ hx =>zC0 (by have:=zB0 hx;omega)) (zW0.2 a) (zC0 qD0) (zL0 qD0);omega
 have h1:=key (manyN g) (zG0 _);have h2:=zZ2 (fun x =>decide (numN g x < manyN g)) (List.range g.length);rw [zK2] at h2;omega
set_option maxRecDepth 100000
theorem csr13 (xs:List Int):(Lib.compact (srt xs)).Pairwise (· < ·):=by
 have hp:(srt xs).Pairwise (fun a b =>decide (a≤b) = true):=List.pairwise_mergeSort (fun a b c h1 h2 =>by simp only [zW1] at *;omega) (fun a b =>by simp only [zY2,zW1];omega) xs;refine List.Pairwise.imp (fun {a b} h =>by have:=h.1;have:=h.2;omega) (a6R (srt xs) (fun a b =>a≤b) (fun a b h1 h2 =>by omega) (fun i j hi hj h =>?_));by_cases e:i = j
 ·subst e;omega
 ·have:=(List.pairwise_iff_getElem.1 hp) i j hi hj qD0;simpa using this
theorem csm13 (xs:List Int) (x:Int):x ∈ Lib.compact (srt xs) ↔ x ∈ xs:=(a8B _ _).trans (List.mergeSort_perm xs _).mem_iff
theorem b6L {l : List Nat} {x : Nat} : (x : Int) ∈ toI l ↔ x ∈ l := by
  unfold toI;rw [zC2]
  exact ⟨fun ⟨y, hy, e⟩ => by simp only [Int.ofNat_eq_natCast] at e; have : y = x := by omega
                              exact this ▸ hy, fun h => ⟨x, h, rfl⟩⟩
theorem b0E {l:List Nat} {x:Nat}:x ∈ cmpN l ↔ x ∈ l:=by
 rw [← b6L,a9X,csm13,b6L]
theorem c0I {l:List Nat} (h:(toI l).Pairwise (· < ·)):l.Pairwise (· < ·):=by
 unfold toI at h;rw [zQ3] at h;exact h.imp (fun h =>by simp only [Int.ofNat_eq_natCast] at h;omega)
theorem b2H (l:List Nat):(cmpN l).Pairwise (· < ·):=c0I (by rw [a9X];exact csr13 _)
theorem b6K {l:List Nat} (h:l.Pairwise (· < ·)):l.Nodup:=h.imp (fun h =>by omega)
theorem b8X {cls:Nat→Nat} {x m i j:Nat} {r:Nat→List Nat}:j ∈ rowIns cls x r m i ↔ j ∈ r i∨(cls x = i∧cls m = j∧j≠i):=by
 unfold rowIns;by_cases e:cls m = cls x
 ·rw [if_pos e];exact ⟨.inl,fun q =>q.elim id (fun q =>absurd (q.2.1.symm.trans (e.trans q.1)) q.2.2)⟩
 ·rw [if_neg e];by_cases e2:i = cls x
  ·subst e2;rw [Tarj.a3U,zU0,zC1];exact ⟨fun q =>q.imp id (fun q =>⟨rfl,q.symm,fun w =>e (by rw [← q,w])⟩),fun q =>q.imp id (fun q =>q.2.1.symm)⟩
  ·rw [Tarj.a2M _ _ e2];exact ⟨.inl,fun q =>q.elim id (fun q =>absurd q.1.symm e2)⟩
theorem b0T {cls:Nat→Nat} {x i j:Nat}:∀ (a:List Nat) (r:Nat→List Nat),j ∈ a.foldl (rowIns cls x) r i ↔ j ∈ r i∨(cls x = i∧∃ y,y ∈ a∧cls y = j∧j≠i)
 | [],r =>by simp
 | m :: a,r =>by
  rw [List.foldl_cons,b0T a,b8X];constructor
  ·rintro ((q | ⟨q1,q2,q3⟩) | ⟨q,y,hy,q2⟩)
   ·exact .inl q
   ·exact .inr ⟨q1,m,zP0,q2,q3⟩
   ·exact .inr ⟨q,y,zQ0 _ hy,q2⟩
  ·rintro (q | ⟨q,y,hy,q2⟩)
   ·exact .inl (.inl q)
   ·rcases zO0.1 hy with rfl | hy
    ·exact .inl (.inr ⟨q,q2⟩)
    ·exact .inr ⟨q,y,hy,q2⟩
theorem a6C {cls:Nat→Nat} {adj:Nat→List Nat} {i j:Nat}:∀ n:Nat,j ∈ rowsAt cls adj n i ↔ j≠i∧∃ x,x < n∧cls x = i∧∃ y,y ∈ adj x∧cls y = j
 | 0 =>by
  constructor
  ·intro h;cases h
  ·rintro ⟨_,x,h,_⟩;exact absurd h (zS2 _)
 | n + 1 =>by
  have e:rowsAt cls adj (n + 1) = (adj n).foldl (rowIns cls n) (rowsAt cls adj n):=by
   unfold rowsAt;rw [List.range_succ,List.foldl_append];rfl
  rw [e,b0T,a6C n];constructor
  ·rintro (⟨q,x,hx,w⟩ | ⟨q,y,hy,q2,q3⟩)
   ·exact ⟨q,x,by omega,w⟩
   ·exact ⟨q3,n,by omega,q,y,hy,q2⟩
  ·rintro ⟨q,x,hx,q2,y,hy,q3⟩;by_cases e:x = n
   ·subst e;exact .inr ⟨q2,y,hy,q3,q⟩
   ·exact .inl ⟨q,x,by omega,q2,y,hy,q3⟩
theorem b5G (k x:Nat):∀ (l:List Nat) (f:Nat→Nat),ofRow k l f x = if x ∈ l then k else f x
 | [],f =>by simp [ofRow]
 | a :: t,f =>by
  have ih:=b5G k x t (Tarj.upd f a k);have e:ofRow k (a :: t) f x = ofRow k t (Tarj.upd f a k) x:=rfl;rw [e,ih];by_cases h:x ∈ t
  ·rw [if_pos h,if_pos (zQ0 _ h)]
  ·rw [if_neg h];by_cases e2:x = a
   ·subst e2;rw [Tarj.a3U,if_pos zP0]
   ·rw [Tarj.a2M _ _ e2,if_neg (fun w =>(zO0.1 w).elim e2 h)]
theorem b3J {L:List (List Nat)} (hd:L.Pairwise (fun l m =>∀ x,x ∈ l→x ∉ m)) {k x:Nat} (hk:k < L.length) (hx:x ∈ L[k]):∀ n,k < n→n≤L.length→ofAt L n x = k
 | 0,h,_ =>absurd h (zS2 _)
 | n + 1,h,hn =>by
  have hg:L.getD n [] = L[n]'qD0:=by rw [zF0,zE0 qD0];rfl
  rw [b5H,b5G,hg];by_cases e:k = n
  ·subst e;rw [if_pos hx]
  ·have:=(List.pairwise_iff_getElem.1 hd) k n hk qD0 qD0 x hx;rw [if_neg this];exact b3J hd hk hx n qD0 qD0
section
variable {adj:Nat→List Nat} {N:Nat}
def rowK (adj:Nat→List Nat) (N:Nat) (cls:Nat→Nat) (k:Nat):List Nat:=cmpN (rowsAt cls adj N k)
def rowsK (adj:Nat→List Nat) (N:Nat) (cls:Nat→Nat) (K:Nat):List (List Int):=(List.range K).map fun i =>toI (rowK adj N cls i)
def turnK (adj:Nat→List Nat) (N:Nat) (cls:Nat→Nat) (K k:Nat):List Nat:=(List.range K).filter fun i =>decide (k ∈ rowK adj N cls i)
theorem a5Q (adj:Nat→List Nat) (N:Nat) (cls:Nat→Nat) (K:Nat):(rowsK adj N cls K).length = K:=by unfold rowsK;simp
theorem b0S {cls:Nat→Nat} {K k:Nat} (h:k < K):(rowsK adj N cls K).getD k [] = toI (rowK adj N cls k):=by
 unfold rowsK;rw [zF0,List.getElem?_map,List.getElem?_range h];rfl
theorem kh_ok (hN:∀ x,x < N→∀ y,y ∈ adj x→y < N) {L:List (List Nat)} (hL:L = knotsF adj N) {K:Nat} (hK:K = L.length):KH adj N K (ofAt L K) (lowAt L K) (rowK adj N (ofAt L K)) (turnK adj N (ofAt L K) K):=by
 obtain ⟨k1,k2,k3⟩:=knots_ok hN;rw [← hL] at k1 k2 k3;have inK:∀ x,x < N→∃ hk:ofAt L K x < L.length,x ∈ L[ofAt L K x]:=fun x hx =>by
  obtain ⟨l,hl,hxl⟩:=(k3 x).2 hx;obtain ⟨k,hk,rfl⟩:=List.getElem_of_mem hl;have:=b3J k2 hk hxl K qD0 qD0;refine ⟨by omega,?_⟩;simp only [this];exact hxl
 have atK:∀ k (hk:k < L.length) x,x ∈ L[k]→x < N∧ofAt L K x = k:=fun k hk x hx =>⟨(k3 x).1 ⟨_,zD1 hk,hx⟩,b3J k2 hk hx K qD0 qD0⟩
 have low:∀ k (hk:k < L.length),∃ hp:0 < L[k].length,lowAt L K k = L[k][0]:=fun k hk =>by
  have hp:=List.length_pos_iff.2 (k1 _ (zD1 hk)).1;refine ⟨hp,?_⟩;unfold lowAt;rw [if_pos qD0,zF0 (l:=L),zE0 hk,zP2,zF0,zE0 hp];rfl
 have cl:∀ x,x < N→ofAt L K x < K:=fun x hx =>by obtain ⟨h,_⟩:=inK x hx;omega
 refine ⟨hN,cl,fun x y hx hy =>?_,fun k hk =>?_,fun x hx =>?_,fun k hk j =>?_,fun k hk =>b6K (b2H _),fun k hk j =>?_,fun k hk =>(List.nodup_range).filter _⟩
 ·obtain ⟨hk,hxk⟩:=inK x hx;have hkn:=(k1 _ (zD1 hk)).2.2 x hxk y;constructor
  ·intro e;obtain ⟨hk2,hyk⟩:=inK y hy;simp only [← e] at hyk;exact hkn.1 hyk
  ·intro s;exact (atK _ hk y (hkn.2 s)).2.symm
 ·obtain ⟨hp,e⟩:=low k qD0;rw [e];exact atK k qD0 _ (zD1 hp)
 ·obtain ⟨hk,hxk⟩:=inK x hx;obtain ⟨hp,e⟩:=low _ hk;rw [e];obtain ⟨i,hi,hxi⟩:=List.getElem_of_mem hxk;have hs:=(k1 _ (zD1 hk)).2.1;rcases zP1 i with q | q
  ·subst q;rw [hxi];exact zG0 _
  ·have:=(List.pairwise_iff_getElem.1 hs) 0 i hp hi q;rw [hxi] at this;exact this
 ·unfold rowK;rw [b0E,a6C]
 ·unfold turnK;rw [zQ1,zW0,zW1]
theorem c1B {cls:Nat→Nat} {K k:Nat} (hN:∀ x,x < N→∀ y,y ∈ adj x→y < N) (hc:∀ x,x < N→cls x < K) {j:Nat} (h:j ∈ rowK adj N cls k):j < K:=by
 unfold rowK at h;rw [b0E,a6C] at h;obtain ⟨_,x,hx,_,y,hy,e⟩:=h;rw [← e];exact hc y (hN x hx y hy)
theorem b4S {cls:Nat→Nat} {K:Nat} (hN:∀ x,x < N→∀ y,y ∈ adj x→y < N) (hc:∀ x,x < N→cls x < K) (hK:K≤1000):mayB (rowsK adj N cls K) = true:=by
 refine c2L (by rw [a5Q];exact hK) (fun v hv =>?_) (fun v hv m hm =>?_)
 ·rw [a5Q] at hv;rw [b0S hv];unfold rowK;rw [a9X];exact csr13 _
 ·rw [a5Q] at hv ⊢;rw [b0S hv] at hm;obtain ⟨j,hj,rfl⟩:=zC2.1 hm;have:=c1B hN hc hj;simp only [Int.ofNat_eq_natCast];omega
theorem turnK_eq {cls:Nat→Nat} {K:Nat} (hN:∀ x,x < N→∀ y,y ∈ adj x→y < N) (hc:∀ x,x < N→cls x < K) (hK:K≤1000):turnF (rowsK adj N cls K) = (List.range K).map fun k =>toI (turnK adj N cls K k):=by
 unfold turnF;rw [if_pos (b4S hN hc hK),a5Q];apply List.map_congr_left;intro t _;unfold col turnK toI
 congr 1
 apply List.filter_congr;intro i hi;rw [show (rowsK adj N cls K).getD i [] = toI (rowK adj N cls i) from b0S (zW0.1 hi)];exact decide_eq_decide.2 b6L
end
open Go.Lib
set_option maxRecDepth 100000
def fnAt (fs:List S34) (i:Nat):S34:=a1C fs (i:Int)
def wrA (fs:List S34) (num:Nat→Nat) (i:Nat):Nat→List ByteArray:=(List.range i).foldl (fun r x =>Tarj.upd r (num x) (unionF (r (num x)) (ownF (fnAt fs x)))) (fun _ =>[])
theorem a9W (fs:List S34) (num:Nat→Nat) (i:Nat):wrA fs num (i + 1) = Tarj.upd (wrA fs num i) (num i) (unionF (wrA fs num i (num i)) (ownF (fnAt fs i))):=by
 unfold wrA;rw [List.range_succ,List.foldl_append];rfl
def wrRow (k:Nat) (row:List Nat) (r:Nat→List ByteArray):Nat→List ByteArray:=row.foldl (fun r m =>Tarj.upd r k (unionF (r k) (r m))) r
theorem b8P (k:Nat) (row:List Nat) (j:Nat) (hj:j < row.length) (r:Nat→List ByteArray):wrRow k (row.take (j + 1)) r = Tarj.upd (wrRow k (row.take j) r) k (unionF (wrRow k (row.take j) r k) (wrRow k (row.take j) r row[j])):=by
 unfold wrRow;rw [zV0 hj,List.foldl_append];rfl
def wrB (adj:Nat→List Nat) (k:Nat) (r:Nat→List ByteArray):Nat→List ByteArray:=(List.range k).foldl (fun r i =>wrRow i (adj i) r) r
theorem a9V (adj:Nat→List Nat) (k:Nat) (r:Nat→List ByteArray):wrB adj (k + 1) r = wrRow k (adj k) (wrB adj k r):=by
 unfold wrB;rw [List.range_succ,List.foldl_append];rfl
def allOwn (fs:List S34):List ByteArray:=fs.flatMap fun f =>(flat f.f2).flatMap ownG
structure SmG (fs:List S34):Prop where
 n:fs.length≤1000
 b:∀ f,f ∈ fs→(flat f.f2).length≤1050000
 u:(allOwn fs).length≤1050000
def InU (U:List ByteArray) (r:Nat→List ByteArray):Prop:=∀ k,(r k).Nodup∧∀ x,x ∈ r k→x ∈ U
section
variable {fs:List S34} {U:List ByteArray} {r:Nat→List ByteArray}
theorem InU.len (h:InU U r) (k:Nat):(r k).length≤U.length:=a8T _ _ (h k).1 (h k).2
theorem InU.put (h:InU U r) (k:Nat) {a b:List ByteArray} (ha:∀ x,x ∈ a→x ∈ U) (hb:∀ x,x ∈ b→x ∈ U):InU U (Tarj.upd r k (unionF a b)):=fun i =>by
 simp only [Tarj.upd]
 split
 ·exact ⟨(a4B a b).nodup,fun x hx =>(a5P.1 hx).elim (ha x) (hb x)⟩
 ·exact h i
theorem b3H {f:S34} {x:ByteArray}:x ∈ ownF f ↔ x ∈ (flat f.f2).flatMap ownG:=by
 unfold ownF;rw [a5P];simp
theorem b3Q {i:Nat} (h:i < fs.length):fnAt fs i ∈ fs:=by
 unfold fnAt a1C;rw [zM0,zF0,zE0 h];exact zD1 h
theorem b3E {i:Nat} (h:i < fs.length):∀ x,x ∈ ownF (fnAt fs i)→x ∈ allOwn fs:=fun x hx =>List.mem_flatMap.2 ⟨_,b3Q h,b3H.1 hx⟩
theorem a8W (f:S34):RisB (ownF f):=a4B _ _
theorem c0D (num:Nat→Nat):∀ i,i≤fs.length→InU (allOwn fs) (wrA fs num i)
 | 0,_ =>fun k =>⟨List.nodup_nil,fun x hx =>by cases hx⟩
 | i + 1,h =>by
  rw [a9W];have ih:=c0D num i qD0;exact ih.put _ (ih _).2 (b3E qD0)
theorem b2N (k:Nat):∀ (row:List Nat) (r:Nat→List ByteArray),InU U r→InU U (wrRow k row r)
 | [],r,h =>h
 | m :: t,r,h =>b2N k t _ (h.put k (h k).2 (h m).2)
theorem c0B (adj:Nat→List Nat) (h:InU U r):∀ k,InU U (wrB adj k r)
 | 0 =>h
 | k + 1 =>by rw [a9V];exact b2N k _ _ (c0B adj h k)
end
noncomputable def wrF (fs:List S34):Nat→List ByteArray:=wrB (rowK (adjF (callsF fs)) (callsF fs).length (numN (callsF fs))) (manyN (callsF fs)) (wrA fs (numN (callsF fs)) fs.length)
noncomputable def sigsF (fs:List S34):List S42:=(List.range fs.length).map fun i =>⟨(fnAt fs i).f0,(((fnAt fs i).f1.length:Nat):Int),wrF fs (numN (callsF fs) i)⟩
structure WR (B bw K:Nat) (v:Nat→Value) (r:Nat→List ByteArray) (W0 Ws W:World):Prop where
 o:W.heap[bw]? = some (.cells (vals K v) 25 (0,0))
 r:∀ i,i < K→∃ A c,v i = .slice A (r i).length c∧Kd.F Kd.string W (fun q =>q≠bw) A (r i).length (r i)
 fz:∀ k,k < bw→W.heap[k]? = Ws.heap[k]?
 be:Below B W0 W
 bb:B≤bw
section
variable {B bw K:Nat} {v:Nat→Value} {r:Nat→List ByteArray} {W0 Ws W W1:World}
theorem WR.below (h:WR B bw K v r W0 Ws W) (hb:Below W.heap.size W W1):WR B bw K v r W0 Ws W1:=by
 have hl:=a1K h.o;have hbb:=h.bb;refine ⟨a0U h.o hb,fun i hi =>?_,fun k hk =>by rw [hb.block k qD0];exact h.fz k hk,h.be.trans (hb.mono qD0),h.bb⟩;obtain ⟨A,c,e,hF⟩:=h.r i hi;exact ⟨A,c,e,Kd.a1U hF hb⟩
theorem WR.put (h:WR B bw K v r W0 Ws W) {base:Nat} (hbase:bw < base) {i:Nat} (hi:i < K) {v1:Value} {xs:List ByteArray} (hr:Kd.R Kd.string 9 W base (fun _ =>True) v1 xs):WR B bw K (Tarj.upd v i v1) (Tarj.upd r i xs) W0 Ws (W.setCell ⟨bw,i,none⟩ v1):=by
 refine ⟨a3A h.o i _ (b7H _ _ _ _),fun j hj =>?_,fun k hk =>by rw [Below.heap_setCell _ _ _ _ (show k≠bw by omega)];exact h.fz k hk,h.be.setCell (p:=⟨bw,i,none⟩) h.bb _,h.bb⟩;by_cases e:j = i
 ·subst e;simp only [Tarj.upd,if_true];obtain ⟨A,c,e1⟩:=Kd.a1V hr;refine ⟨A,c,e1,?_⟩;have hr2:Kd.R Kd.string 9 W base (fun q =>q≠bw) v1 xs:=Kd.a6J rfl hr (fun k hk =>by have:=a2G (Kd.a2Y hr) k hk;omega);rw [e1] at hr2;exact Kd.a9U (p:=⟨bw,j,none⟩) (Kd.N_F (Kd.R_N hr2)) (fun _ hq =>hq) _
 ·simp only [Tarj.upd,if_neg e];obtain ⟨A,c,e1,hF⟩:=h.r j hj;exact ⟨A,c,e1,Kd.a9U (p:=⟨bw,i,none⟩) hF (fun _ hq =>hq) _⟩
theorem WR.start (hB:B≤W.heap.size) (hbe:Below B W0 W):WR B W.heap.size K (fun _ =>.slice none 0 0) (fun _ =>[]) W0 (W.alloc (.cells (vals K (fun _ =>.slice none 0 0)) 25)) (W.alloc (.cells (vals K (fun _ =>.slice none 0 0)) 25)) :=
 ⟨World.alloc_heap_new W _,fun i hi =>⟨none,0,rfl,Kd.F_nil _ _ _⟩,fun _ _ =>rfl,hbe.trans ((a0B (zJ0 W.heap.size W) _).mono hB),hB⟩
theorem WR.cell (h:WR B bw K v r W0 Ws W) {i:Nat} (hi:i < K):∃ A c,W.cell? ⟨bw,i,none⟩ = some (.slice A (r i).length c)∧W.frozen? ⟨bw,i,none⟩ = false∧Kd.F Kd.string W (fun q =>q≠bw) A (r i).length (r i):=by
 obtain ⟨A,c,e,hF⟩:=h.r i hi;refine ⟨A,c,?_,a0Q h.o i,hF⟩;rw [← e];exact (a0O h.o i).trans (a7O _ hi)
end
theorem infoLS:(Tryz.prog.info? 25).map (fun i =>(i.zero,i.size,i.bytes)) = some (some (.slice none 0 0),1,24):=by kernel_rfl
theorem makeLS (K:Nat) (hK:K≤1000) (W:World):(Instr.makeSlice 56 (.int .i64 (K:Int)) (.int .i64 (K:Int))).run Tryz.prog W = .ok (.slice (some ⟨W.heap.size,0,none⟩) K K) (W.alloc (.cells (vals K (fun _ =>.slice none 0 0)) 25)):=by
 have h:=a4T (P:=Tryz.prog) 56 25 (.slice none 0 0) 24 Tryz.underlying56 infoLS rfl qF0 (K:Int) (zI0 K) qR2 W;rw [zM0] at h;rw [h]
 congr 3
 unfold madeCells vals;apply Array.ext_getElem?;intro j;by_cases hj:j < K
 ·simp [hj,Nat.mod_one]
 ·simp [hj]
theorem b5Q (nm:ByteArray):∀ (l:List S34) (i:Nat),firstIx nm l i < (i:Int) + l.length:=by
 intro l
 induction l with
 | nil =>intro i;simp only [firstIx,zN1];omega
 | cons f r ih =>
  intro i;have:=ih (i + 1);simp only [firstIx,zT0]
  split
  ·omega
  ·omega
theorem b9P (fs:List S34) (L:List S65) (x:Int) (h:x ∈ coll fs L):0≤x∧x < fs.length:=by
 unfold coll at h;rw [List.mem_flatMap] at h;obtain ⟨s,_,h⟩:=h;unfold calledBy at h
 split at h
 ·rename_i hc
  simp at h;have:=b5Q s.f3 fs 0;have h2:x = funIx fs s.f3:=h
  have h3:=hc.2;rw [h2];refine ⟨h3,?_⟩;unfold funIx at *
  omega
 ·cases h
theorem b1G {fs:List S34} (hn:fs.length≤1000):mayB (callsF fs) = true:=by
 have hl:(callsF fs).length = fs.length:=by unfold callsF;simp
 have hg:∀ v,v < fs.length→∃ f,(callsF fs).getD v [] = callsOf fs f:=fun v hv =>by
  unfold callsF;rw [zF0,List.getElem?_map,zE0 hv];exact ⟨_,rfl⟩
 refine c2L (by rw [hl];exact hn) (fun v hv =>?_) (fun v hv m hm =>?_)
 ·obtain ⟨f,e⟩:=hg v qD0;rw [e];unfold callsOf
  split
  ·unfold allIx;rw [zQ3];exact (zN3).imp (fun h =>by simp only [Int.ofNat_eq_natCast];omega)
  ·exact csr13 _
 ·obtain ⟨f,e⟩:=hg v qD0;rw [e] at hm;rw [hl];unfold callsOf at hm
  split at hm
  ·unfold allIx at hm;obtain ⟨y,hy,rfl⟩:=zC2.1 hm;have:=zW0.1 hy;simp only [Int.ofNat_eq_natCast];omega
  ·exact b9P fs _ m ((csm13 _ _).1 hm)
section
variable {fs:List S34} {num:Nat→Nat}
theorem b6B {x:ByteArray} {k:Nat}:∀ i:Nat,x ∈ wrA fs num i k ↔ ∃ j,j < i∧num j = k∧x ∈ ownF (fnAt fs j)
 | 0 =>⟨fun h =>(by cases h),fun ⟨j,h,_⟩ =>absurd h (zS2 j)⟩
 | i + 1 =>by
  have ih:=b6B (x:=x) (k:=k) i;rw [a9W];simp only [Tarj.upd];by_cases e:k = num i
  ·rw [if_pos e,a5P,← e,ih];constructor
   ·rintro (⟨j,a,b,c⟩ | h)
    ·exact ⟨j,by omega,b,c⟩
    ·exact ⟨i,by omega,e.symm,h⟩
   ·rintro ⟨j,a,b,c⟩;rcases zX2 j i with q | q
    ·exact .inl ⟨j,q,b,c⟩
    ·obtain rfl:j = i:=by omega
     exact .inr c
  ·rw [if_neg e,ih];constructor
   ·rintro ⟨j,a,b,c⟩;exact ⟨j,by omega,b,c⟩
   ·rintro ⟨j,a,b,c⟩;refine ⟨j,?_,b,c⟩;rcases zX2 j i with q | q
    ·exact q
    ·obtain rfl:j = i:=by omega
     exact absurd b.symm e
theorem c0C (k:Nat):∀ i:Nat,RisB (wrA fs num i k)
 | 0 =>RisB.nil
 | i + 1 =>by
  rw [a9W];simp only [Tarj.upd]
  split
  ·exact a4B _ _
  ·exact c0C k i
theorem b4G {k j:Nat}:∀ (row:List Nat) (r:Nat→List ByteArray),(∀ i,RisB (r i))→RisB (wrRow k row r j)
 | [],r,h =>h j
 | m :: t,r,h =>b4G t (Tarj.upd r k (unionF (r k) (r m))) (fun i =>by
   simp only [Tarj.upd]
   split
   ·exact a4B _ _
   ·exact h i)
theorem b9Z {adj:Nat→List Nat} {r:Nat→List ByteArray} (h:∀ i,RisB (r i)):∀ k i,RisB (wrB adj k r i)
 | 0,i =>h i
 | k + 1,i =>by rw [a9V];exact b4G _ _ (b9Z h k)
theorem a7V {k j:Nat} (e:j≠k):∀ (row:List Nat) (r:Nat→List ByteArray),wrRow k row r j = r j
 | [],r =>rfl
 | m :: t,r =>(a7V e t (Tarj.upd r k (unionF (r k) (r m)))).trans (by simp only [Tarj.upd,if_neg e])
theorem b4H {k:Nat} {x:ByteArray}:∀ (row:List Nat) (r:Nat→List ByteArray),k ∉ row→(x ∈ wrRow k row r k ↔ x ∈ r k∨∃ m,m ∈ row∧x ∈ r m)
 | [],r,_ =>by simp [wrRow]
 | m :: t,r,hk =>by
  have h1:m≠k:=fun e =>hk (e ▸ zP0)
  have h2:k ∉ t:=fun e =>hk (zQ0 _ e)
  have ih:=b4H (x:=x) t (Tarj.upd r k (unionF (r k) (r m))) h2;refine Iff.trans ih ?_;simp only [Tarj.upd,if_true,a5P];constructor
  ·rintro ((h | h) | ⟨q,hq,h⟩)
   ·exact .inl h
   ·exact .inr ⟨m,zP0,h⟩
   ·rw [if_neg (fun e:q = k =>h2 (e ▸ hq))] at h;exact .inr ⟨q,zQ0 _ hq,h⟩
  ·rintro (h | ⟨q,hq,h⟩)
   ·exact .inl (.inl h)
   ·rcases zO0.1 hq with rfl | hq
    ·exact .inl (.inr h)
    ·refine .inr ⟨q,hq,?_⟩;rw [if_neg (fun e:q = k =>h2 (e ▸ hq))];exact h
end
theorem rch_out {adj:Nat→List Nat} {num:Nat→Nat} {k:Nat} {y z:Nat} (r:Rch adj y z):num y = k→num z≠k→∃ a b,Rch adj y a∧num a = k∧b ∈ adj a∧num b≠k∧Rch adj b z:=by
 induction r with
 | refl x =>intro h1 h2;exact absurd h1 h2
 | @step x y z h r ih =>
  intro h1 h2;by_cases e:num y = k
  ·obtain ⟨a,b,q1,q2,q3,q4,q5⟩:=ih e h2;exact ⟨a,b,.step h q1,q2,q3,q4,q5⟩
  ·exact ⟨x,y,.refl _,h1,h,e,r⟩
section
variable {adj:Nat→List Nat} {N M:Nat} {num:Nat→Nat} {r0:Nat→List ByteArray}
theorem b2Y {k j:Nat}:j ∈ rowK adj N num k ↔ j≠k∧∃ x,x < N∧num x = k∧∃ y,y ∈ adj x∧num y = j:=by
 unfold rowK;rw [b0E,a6C]
theorem c0A (hN:∀ x,x < N→∀ y,y ∈ adj x→y < N) (h:Nmb adj N M num) {x:ByteArray}:∀ K:Nat,K≤M →
  (∀ i,K≤i→wrB (rowK adj N num) K r0 i = r0 i)∧∀ y,y < N→num y < K→(x ∈ wrB (rowK adj N num) K r0 (num y) ↔ ∃ z,Rch adj y z∧x ∈ r0 (num z))
 | 0,_ =>⟨fun _ _ =>rfl,fun _ _ h =>absurd h (zS2 _)⟩
 | K + 1,hK =>by
  obtain ⟨i1,i2⟩:=c0A hN h (x:=x) K qD0;rw [a9V];refine ⟨fun i hi =>by rw [a7V qD0];exact i1 i qD0,fun y hy hyK =>?_⟩;by_cases e:num y = K
  ·rw [e,b4H _ _ (fun hm =>(b2Y.1 hm).1 rfl),i1 K (zG0 _)];constructor
   ·rintro (h1 | ⟨m,hm,h1⟩)
    ·exact ⟨y,.refl _,by rw [e];exact h1⟩
    ·obtain ⟨m1,a,a1,a2,b,b1,b2⟩:=b2Y.1 hm;have hb:=hN a a1 b b1;have hd:=h.down hN a1 (.one b1);rw [← b2] at h1;obtain ⟨z,z1,z2⟩:=(i2 b hb qD0).1 h1;have s:=(h.cls y a hy a1).1 qD0;exact ⟨z,s.1.trans (.step b1 z1),z2⟩
   ·rintro ⟨z,z1,z2⟩;by_cases ez:num z = K
    ·rw [ez] at z2;exact .inl z2
    ·obtain ⟨a,b,q1,q2,q3,q4,q5⟩:=rch_out z1 e ez;have ha:=q1.lt hN hy;have hb:=hN a ha b q3;have hd:=h.down hN ha (.one q3);exact .inr ⟨num b,b2Y.2 ⟨q4,a,ha,q2,b,q3,rfl⟩,(i2 b hb qD0).2 ⟨z,q5,z2⟩⟩
  ·rw [a7V e];exact i2 y hy qD0
end
section
variable {fs:List S34}
theorem b5W (fs:List S34):(callsF fs).length = fs.length:=by unfold callsF;simp
theorem b2O (hn:fs.length≤1000) {i:Nat} (hi:i < fs.length) {x:ByteArray}:x ∈ wrF fs (numN (callsF fs) i) ↔ ∃ z,z < fs.length∧Rch (adjF (callsF fs)) i z∧x ∈ ownF (fnAt fs z):=by
 have hm:=b1G hn;have h:=a7H hm;have hN:=(a4C hm).adj;have hl:=b5W fs;have hi':i < (callsF fs).length:=by omega
 unfold wrF;rw [(c0A hN h (x:=x) (manyN (callsF fs)) (zG0 _)).2 i hi' (h.lt i hi')];constructor
 ·rintro ⟨z,z1,z2⟩;have hz:=z1.lt hN hi';obtain ⟨j,j1,j2,j3⟩:=(b6B _).1 z2;have s:=(h.cls j z qD0 hz).1 j2;exact ⟨j,j1,z1.trans s.2,j3⟩
 ·rintro ⟨z,z0,z1,z2⟩;exact ⟨z,z1,(b6B _).2 ⟨z,z0,rfl,z2⟩⟩
theorem b9X (k:Nat):RisB (wrF fs k):=by
 unfold wrF;exact b9Z (fun i =>c0C i _) _ k
theorem b4P (fs:List S34):(sigsF fs).length = fs.length:=by unfold sigsF;simp
theorem b4Q {i:Nat} (hi:i < fs.length):(sigsF fs)[i]? = some ⟨(fnAt fs i).f0,(((fnAt fs i).f1.length:Nat):Int),wrF fs (numN (callsF fs) i)⟩:=by
 unfold sigsF;rw [List.getElem?_map,List.getElem?_range hi];rfl
end
theorem c1E:∀ (a b:List Int),a.Pairwise (· < ·)→b.Pairwise (· < ·)→(∀ x,x ∈ a ↔ x ∈ b)→a = b:=by
 intro a
 induction a with
 | nil =>
  intro b _ _ h;cases b with
  | nil =>rfl
  | cons y t =>exact absurd ((h y).2 qG0) qG0
 | cons x r ih =>
  intro b ha hb h;cases b with
  | nil =>exact absurd ((h x).1 qG0) qG0
  | cons y t =>
   rw [zU2] at ha hb;have exy:x = y:=by
    rcases zO0.1 ((h x).1 qG0) with e | e
    ·exact e
    ·rcases zO0.1 ((h y).2 qG0) with e2 | e2
     ·exact e2.symm
     ·have h1:=hb.1 x e;have h2:=ha.1 y e2;omega
   subst exy
   congr 1
   refine ih t ha.2 hb.2 (fun z =>⟨fun hz =>?_,fun hz =>?_⟩)
   ·rcases zO0.1 ((h z).1 (zQ0 _ hz)) with e | e
    ·subst e;have:=ha.1 z hz;omega
    ·exact e
   ·rcases zO0.1 ((h z).2 (zQ0 _ hz)) with e | e
    ·subst e;have:=hb.1 z hz;omega
    ·exact e
theorem c1L (fs:List S34) (hl:LowP fs) (i:Nat) (hi:i < fs.length) (g:Int):Ev (fun k =>r12_calls.f fs (i:Int) g) (leads fs (flat (a1C fs (i:Int)).f2) g):=by
 unfold r12_calls.f;rw [if_pos ⟨hl,zI0 i,by omega⟩];exact Ev.const _
def rowR (fs:List S34) (f:S34) (n:Nat):List Int:=((List.range n).filter (fun (k:Nat) =>leads fs (flat f.f2) (k:Int))).map Int.ofNat
theorem rowR_len (fs:List S34) (f:S34) (n:Nat):(rowR fs f n).length≤n:=by
 unfold rowR;rw [zO1];exact zH0 (zZ2 _ _) qG0
theorem c1N (fs:List S34) (hl:LowP fs):Ev (fun k =>r12_Calls.f k fs) (fs.map fun f =>rowR fs f fs.length):=by
 have hlen:=hl.1;have row:∀ (i:Nat) (hi:i < fs.length) (out:List (List Int)) (ho:out.length≤2000000) (res:List (List Int)),Ev (fun k =>r12_Calls.l0 k (out ++ [rowR fs (a1C fs (i:Int)) fs.length]) ((i + 1:Nat):Int) fs) res →
   ∀ d j:Nat,j + d = fs.length→Ev (fun k =>r12_Calls.l1 k out (i:Int) (rowR fs (a1C fs (i:Int)) j) (j:Int) fs) res:=by
  intro i hi out ho res h d
  induction d with
  | zero =>
   intro j hj;have d1:¬ (j:Int) < (fs.length:Int):=by omega
   have d2:out.length < 5864062014805:=by omega
   refine Ev.step ?_;simp only [r12_Calls.l1,if_neg d1,if_pos d2];rw [pzB i qD0,show j = fs.length by omega];exact h
  | succ d ihd =>
   intro j hj;have d1:(j:Int) < (fs.length:Int):=by omega
   have d2:(rowR fs (a1C fs (i:Int)) j).length < 17592186044416:=by have:=rowR_len fs (a1C fs (i:Int)) j;omega
   have e:=ihd (j + 1) qD0;refine Ev.step ?_;simp only [r12_Calls.l1,if_pos d1];refine Ev.bind (c1L fs hl i hi (j:Int)) ?_;have hs:rowR fs (a1C fs (i:Int)) (j + 1) = rowR fs (a1C fs (i:Int)) j ++ (if leads fs (flat (a1C fs (i:Int)).f2) (j:Int) = true then [(j:Int)] else []):=by
    unfold rowR;rw [List.range_succ,List.filter_append,List.map_append]
    congr 1
    by_cases hb:leads fs (flat (a1C fs (i:Int)).f2) (j:Int) = true <;> simp [hb]
   rw [hs] at e;by_cases hb:leads fs (flat (a1C fs (i:Int)).f2) (j:Int) = true
   ·rw [if_pos hb] at e;simp only [if_pos hb,if_pos d2];rw [pzB j qD0];exact e
   ·rw [if_neg hb,zO2] at e;simp only [if_neg hb];rw [pzB j qD0];exact e
 have main:∀ d i:Nat,i + d = fs.length→Ev (fun k =>r12_Calls.l0 k ((fs.take i).map fun f =>rowR fs f fs.length) (i:Int) fs) (fs.map fun f =>rowR fs f fs.length):=by
  intro d
  induction d with
  | zero =>
   intro i hi;have c:¬ (i:Int) < (fs.length:Int):=by omega
   refine Ev.step ?_;simp only [r12_Calls.l0,if_neg c];rw [zQ2 qD0];exact Ev.const _
  | succ d ihd =>
   intro i hi;have hil:i < fs.length:=by omega
   have c:(i:Int) < (fs.length:Int):=by omega
   have e:=ihd (i + 1) qD0;rw [zV0 hil,List.map_append,zE2,zV2,← b3A hil] at e;refine Ev.step ?_;simp only [r12_Calls.l0,if_pos c];have:=row i hil _ qA1 _ e fs.length 0 qD0;simpa [rowR] using this
 have:=main fs.length 0 qD0;simp only [r12_Calls.f];simpa using this
theorem srt_mem (xs:List Int) (x:Int):x ∈ srt xs ↔ x ∈ xs:=(List.mergeSort_perm xs _).mem_iff
theorem c0N (xs:List Int) (i j:Nat) (hi:i < (srt xs).length) (hj:j < (srt xs).length) (h:i≤j):(srt xs)[i]≤(srt xs)[j]:=by
 have hp:(srt xs).Pairwise (fun a b =>decide (a≤b) = true):=List.pairwise_mergeSort (fun a b c h1 h2 =>by simp only [zW1] at *;omega) (fun a b =>by simp only [zY2,zW1];omega) xs;by_cases e:i = j
 ·subst e;omega
 ·have:=(List.pairwise_iff_getElem.1 hp) i j hi hj qD0;simpa using this
theorem cs_rises (xs:List Int):(Lib.compact (srt xs)).Pairwise (· < ·) :=
 List.Pairwise.imp (fun {a b} h =>by have:=h.1;have:=h.2;omega) (a6R (srt xs) (fun a b =>a≤b) (fun a b h1 h2 =>by omega) (fun i j hi hj h =>c0N xs i j hi hj h))
theorem cs_mem (xs:List Int) (x:Int):x ∈ Lib.compact (srt xs) ↔ x ∈ xs:=(a8B _ _).trans (srt_mem _ _)
theorem b9M (nm:ByteArray):∀ (l:List S34) (i:Nat),firstIx nm l i < (i:Int) + l.length:=by
 intro l
 induction l with
 | nil =>intro i;simp only [firstIx,zN1];omega
 | cons f r ih =>
  intro i;have:=ih (i + 1);simp only [firstIx,zT0]
  split
  ·omega
  ·omega
theorem funIx_lt (fs:List S34) (nm:ByteArray):funIx fs nm < fs.length:=by have:=b9M nm fs 0;unfold funIx;omega
theorem coll_mem (fs:List S34) (L:List S65) (x:Int):x ∈ coll fs L ↔ ∃ s ∈ L,s.f0 = 5∧0≤funIx fs s.f3∧funIx fs s.f3 = x:=by
 unfold coll;rw [List.mem_flatMap];constructor
 ·rintro ⟨s,hs,h⟩;unfold calledBy at h
  split at h
  ·rename_i hc;simp at h;exact ⟨s,hs,hc.1,hc.2,h.symm⟩
  ·simp at h
 ·rintro ⟨s,hs,h5,h0,rfl⟩;exact ⟨s,hs,by unfold calledBy;rw [if_pos ⟨h5,h0⟩];simp⟩
theorem b8W (fs:List S34) (f:S34) (n:Nat):(rowR fs f n).Pairwise (· < ·):=by
 unfold rowR;rw [zQ3];exact List.Pairwise.imp (fun {a b} h =>zS1.2 h) (List.Pairwise.filter _ zN3)
theorem rowR_mem (fs:List S34) (f:S34) (n:Nat) (x:Int):x ∈ rowR fs f n ↔ 0≤x∧x < n∧leads fs (flat f.f2) x = true:=by
 unfold rowR;simp only [zC2,zQ1,zW0];constructor
 ·rintro ⟨a,⟨h1,h2⟩,rfl⟩;exact ⟨by simp,by simpa using h1,h2⟩
 ·rintro ⟨h0,h1,h2⟩;exact ⟨x.toNat,⟨by omega,by rw [zL3 h0];exact h2⟩,by simp;omega⟩
theorem b6U (fs:List S34) (f:S34):callsOf fs f = rowR fs f fs.length:=by
 unfold callsOf;by_cases ha:applies (flat f.f2) = true
 ·rw [if_pos ha];unfold allIx rowR
  congr 1
  symm
  rw [List.filter_eq_self];intro k _;unfold leads applies at *;obtain ⟨s,hs,h6⟩:=zK3.1 ha;exact zK3.2 ⟨s,hs,by rw [h6];rfl⟩
 ·rw [if_neg ha];refine c1E _ _ (cs_rises _) (b8W _ _ _) (fun x =>?_);rw [cs_mem,coll_mem,rowR_mem];constructor
  ·rintro ⟨s,hs,h5,h0,rfl⟩;refine ⟨h0,funIx_lt _ _,?_⟩;unfold leads;exact zK3.2 ⟨s,hs,by simp [h5]⟩
  ·rintro ⟨h0,h1,h2⟩;unfold leads at h2;obtain ⟨s,hs,h⟩:=zK3.1 h2;simp only [zY2,zB1,beq_iff_eq] at h;rcases h with h | ⟨h5,h⟩
   ·exact absurd (by unfold applies;exact zK3.2 ⟨s,hs,by simp [h]⟩) ha
   ·exact ⟨s,hs,h5,by omega,h⟩
theorem b6V (fs:List S34):callsF fs = fs.map fun f =>rowR fs f fs.length:=by
 unfold callsF;exact List.map_congr_left fun f _ =>b6U fs f
theorem b9R (fs:List S34):(callsF fs).length = fs.length:=by unfold callsF;simp
theorem rmay_row (g:List (List Int)) (hs:Sm g) (i:Nat) (hi:i < g.length) (b:Bool) (h:Ev (fun k =>r12_May.l0 k g ((i + 1:Nat):Int)) b) :
  ∀ m j:Nat,j + m = (g.getD i []).length→Ev (fun k =>r12_May.l1 k g (i:Int) (j:Int)) (rowTail g.length (g.getD i []) m j && b):=by
 have hr:=hs.2 i;have hn:=hs.1;have c1:0≤(i:Int):=zI0 i;have c2:(i:Int) < (g.length:Int):=zS1.2 hi;intro m
 induction m with
 | zero =>
  intro j hj;refine Ev.step ?_;have c3:¬ (j:Int) < ((g.getD i []).length:Int):=by omega
  simp only [r12_May.l1,if_pos c1,if_pos c2,rdLg,if_neg c3,pz i qD0,rowTail,Bool.true_and];exact h
 | succ m ih =>
  intro j hj;have e:=ih (j + 1) qD0;refine Ev.step ?_;have c3:(j:Int) < ((g.getD i []).length:Int):=by omega
  have c4:0≤(j:Int):=zI0 j;simp only [r12_May.l1,if_pos c1,if_pos c2,rdLg,if_pos c3,if_pos c4,pz j qD0,rowTail,okAt];by_cases d1:rd (g.getD i []) (j:Int) < 0
  ·simp only [if_pos d1,zC0 d1,zJ2,Bool.false_and];exact Ev.const _
  ·by_cases d2:rd (g.getD i []) (j:Int) ≥ (g.length:Int)
   ·simp only [if_neg d1,zL0 d1,if_pos d2,zC0 d2,zJ2,Bool.not_false,Bool.false_and,Bool.and_false];exact Ev.const _
   ·cases j with
    | zero =>
     simp only [if_neg d1,zL0 d1,if_neg d2,zL0 d2,Bool.not_false,Bool.true_and,if_neg (show ¬ ((0:Nat):Int) > 0 by decide),decide_true,Bool.true_or];exact e
    | succ j' =>
     have c5:(((j' + 1:Nat)):Int) > 0:=by omega
     have c6:0≤((j':Nat):Int):=zI0 j';have c7:((j':Nat):Int) < ((g.getD i []).length:Int):=by omega
     simp only [if_neg d1,zL0 d1,if_neg d2,zL0 d2,Bool.not_false,Bool.true_and,if_pos c5,pm j' qD0,if_pos c6,if_pos c7,Nat.add_sub_cancel,zL0 (show ¬ j' + 1 = 0 by omega),zW2];by_cases d3:rd (g.getD i []) (j':Int) ≥ rd (g.getD i []) (((j' + 1:Nat)):Int)
     ·simp only [if_pos d3,zC0 d3,zJ2,Bool.false_and];exact Ev.const _
     ·simp only [if_neg d3,zL0 d3,Bool.not_false,Bool.true_and];exact e
theorem c1D (g:List (List Int)) (hs:Sm g):Ev (fun k =>r12_May.f k g) (mayB g):=by
 have main:∀ m i:Nat,i + m = g.length→Ev (fun k =>r12_May.l0 k g (i:Int)) (allTail g m i):=by
  intro m
  induction m with
  | zero =>
   intro i hi;refine Ev.step ?_;have c:¬ (i:Int) < (g.length:Int):=by omega
   simp only [r12_May.l0,if_neg c,allTail];exact Ev.const _
  | succ m ih =>
   intro i hi;refine Ev.step ?_;have c:(i:Int) < (g.length:Int):=by omega
   simp only [r12_May.l0,if_pos c,allTail];exact rmay_row g hs i qD0 _ (ih (i + 1) qD0) _ 0 qD0
 exact main g.length 0 qD0
def off (s:List Bool):Nat:=(s.filter (fun b =>!b)).length
theorem a7Y {s:List Bool} {v:Nat}:rdOf false s (v:Int) = true ↔ On s v:=by
 unfold rdOf On;rw [zM0,zF0];cases s[v]? with
 | none =>simp
 | some b =>simp
structure RSt (g:List (List Int)) (n:Nat) (s0 s:List Bool) (more:Bool):Prop where
 len:s.length = g.length
 self:On s n
 rch:∀ v,On s v→GRch g n v
 le:off s≤off s0
 same:more = false→s = s0
 less:more = true→off s < off s0
theorem RSt.step {g:List (List Int)} {n:Nat} {s0 s:List Bool} {more:Bool} (h:RSt g n s0 s more) {i m:Nat} (hi:On s i) (hm:(m:Int) ∈ g.getD i []) (hN:m < g.length):RSt g n s0 (s.set m true) (more || !(rdOf false s (m:Int))):=by
 by_cases hon:On s m
 ·have e:s.set m true = s:=by
   apply zF2;intro k;rw [List.getElem?_set]
   split
   ·rename_i ek;subst ek
    unfold On at hon;rw [hon];simp [(List.getElem?_eq_some_iff.1 hon).1]
   ·rfl
  rw [e,a7Y.2 hon];simpa using h
 ·have hf:s[m]? = some false:=by
   have hl:m < s.length:=by rw [h.len];exact hN
   rw [zE0 hl];cases hb:s[m] with
   | false =>rfl
   | true =>exact absurd (by unfold On;rw [zE0 hl,hb]) hon
  have ho:=c2A s m hf;have hle:=h.le;have hr:rdOf false s (m:Int) = false:=by
   cases hb:rdOf false s (m:Int) with
   | false =>rfl
   | true =>exact absurd (a7Y.1 hb) hon
  have h1:off (s.set m true) < off s0:=by unfold off at *;omega
  rw [hr];refine ⟨by rw [zU1];exact h.len,b5D h.self,fun v hv =>?_,zY1 h1,fun e =>by simp at e,fun _ =>h1⟩;rcases b5E hv with rfl | hv
  ·have:=GRch.step (h.rch i hi) hm;rwa [zM0] at this
  ·exact h.rch v hv
def Shut (g:List (List Int)) (s:List Bool) (i:Nat):Prop:=∀ v,v < i→On s v→∀ m ∈ g.getD v [],On s m.toNat
section
variable {g:List (List Int)} {n:Nat} {res:List Int} {x7:Int}
theorem rr_row (hs:Sm g) (hg:∀ v,v < g.length→∀ m ∈ g.getD v [],0≤m∧m < g.length) (s0:List Bool) (i:Nat) (hi:i < g.length)
  (hnext:∀ s more,RSt g n s0 s more→(more = false→Shut g s (i + 1))→Ev (fun k =>r12_Reach.l2 k g s x7 more ((i + 1:Nat):Int)) res) :
  ∀ m j:Nat,j + m = (g.getD i []).length→∀ s more,RSt g n s0 s more→(more = false→Shut g s i∧∀ x ∈ (g.getD i []).take j,On s i→On s x.toNat)→Ev (fun k =>r12_Reach.l3 k g s x7 more (i:Int) (j:Int)) res:=by
 have hr:=hs.2 i;have hn:=hs.1;have c1:0≤(i:Int):=zI0 i;have c2:(i:Int) < (g.length:Int):=zS1.2 hi;have fin:∀ s more,RSt g n s0 s more→(more = false→Shut g s i∧(On s i→∀ x ∈ g.getD i [],On s x.toNat))→Ev (fun k =>r12_Reach.l2 k g s x7 more ((i + 1:Nat):Int)) res:=by
  intro s more h hc;refine hnext s more h (fun e =>?_);obtain ⟨q1,q2⟩:=hc e;intro v hv hon m hm;by_cases ev:v = i
  ·subst ev;exact q2 hon m hm
  ·exact q1 v qD0 hon m hm
 intro m
 induction m with
 | zero =>
  intro j hj s more h hc;refine Ev.step ?_;have c3:¬ (j:Int) < ((g.getD i []).length:Int):=by omega
  simp only [r12_Reach.l3,if_pos c1,if_pos c2,rdLg,if_neg c3,pz i qD0];exact fin s more h (fun e =>⟨(hc e).1,fun hon x hx =>(hc e).2 x (by rw [zQ2 qD0];exact hx) hon⟩)
 | succ m ih =>
  intro j hj s more h hc;refine Ev.step ?_;have hjl:j < (g.getD i []).length:=by omega
  have c3:(j:Int) < ((g.getD i []).length:Int):=by omega
  have c4:(i:Int) < (s.length:Int):=by rw [h.len];exact c2
  have c5:0≤(j:Int):=zI0 j;by_cases hon:On s i
  ·have hmem:(g.getD i [])[j] ∈ g.getD i []:=zD1 hjl;obtain ⟨m0,m1⟩:=hg i hi _ hmem;obtain ⟨x,hx⟩:∃ x:Nat,(g.getD i [])[j] = (x:Int):=⟨((g.getD i [])[j]).toNat,by omega⟩;have hrd:rd (g.getD i []) (j:Int) = (x:Int):=by
    unfold rd;rw [zM0,zF0 (l:=g.getD i []),zE0 hjl];exact hx
   rw [hx] at hmem m1;have hxN:x < g.length:=by omega
   have d1:0≤(x:Int):=zI0 x;have d2:(x:Int) < (s.length:Int):=by rw [h.len];exact m1
   have hst:=h.step hon hmem hxN
   have e:=ih (j + 1) qD0 (s.set x true) (more || !(rdOf false s (x:Int))) hst (fun em =>by
    simp only [Bool.or_eq_false_iff,Bool.not_eq_false'] at em;obtain ⟨e1,e2⟩:=em;have hsx:=a7Y.1 e2;obtain ⟨q1,q2⟩:=hc e1;refine ⟨fun v hv ho y hy =>?_,fun y hy ho =>?_⟩
    ·rcases b5E ho with rfl | ho
     ·exact b5D (q1 _ hv hsx y hy)
     ·exact b5D (q1 v hv ho y hy)
    ·rw [zV0 hjl,zU0] at hy;rcases hy with hy | hy
     ·exact b5D (q2 y hy hon)
     ·simp only [zC1] at hy
      rw [hy,hx,zM0];exact b5D hsx)
   simp only [r12_Reach.l3,if_pos c1,if_pos c2,rdLg,if_pos c3,if_pos c4,if_pos (a7Y.2 hon),if_pos c5,hrd,if_pos d1,if_pos d2,zM0,pz j qD0];cases more with
   | true =>simp only [if_true];simpa using e
   | false =>simp only [Bool.false_eq_true,if_false];simpa using e
  ·have hoff:¬ rdOf false s (i:Int) = true:=fun e =>hon (a7Y.1 e)
   simp only [r12_Reach.l3,if_pos c1,if_pos c2,rdLg,if_pos c3,if_pos c4,if_neg hoff,pz i qD0];exact fin s more h (fun e =>⟨(hc e).1,fun h1 =>absurd h1 hon⟩)
theorem rr_round (hs:Sm g) (hg:∀ v,v < g.length→∀ m ∈ g.getD v [],0≤m∧m < g.length) (s0:List Bool)
  (hmore:∀ s,RSt g n s0 s true→Ev (fun k =>r12_Reach.l1 k g s (wrap64 (x7 + 1))) res) (hdone:RSt g n s0 s0 false→Shut g s0 g.length→Ev (fun k =>r12_Reach.j5 k g s0) res) :
  ∀ m i:Nat,i + m = g.length→∀ s more,RSt g n s0 s more→(more = false→Shut g s i)→Ev (fun k =>r12_Reach.l2 k g s x7 more (i:Int)) res:=by
 intro m
 induction m with
 | zero =>
  intro i hi s more h hc;refine Ev.step ?_;have c:¬ (i:Int) < (g.length:Int):=by omega
  simp only [r12_Reach.l2,if_neg c];cases more with
  | true =>simp only [if_true];exact hmore s h
  | false =>
   simp only [Bool.false_eq_true,if_false];have e:=h.same rfl;subst e;exact hdone h (by rw [show g.length = i by omega];exact hc rfl)
 | succ m ih =>
  intro i hi s more h hc;refine Ev.step ?_;have c:(i:Int) < (g.length:Int):=by omega
  simp only [r12_Reach.l2,if_pos c];exact rr_row hs hg s0 i qD0 (fun s' more' h' hc' =>ih (i + 1) qD0 s' more' h' hc') (g.getD i []).length 0 qD0 s more h (fun e =>⟨hc e,fun x hx =>by simp at hx⟩)
end
theorem rr_out (g:List (List Int)) (hs:Sm g) (s:List Bool) (hl:s.length = g.length):Ev (fun k =>r12_Reach.j5 k g s) (pick s g.length):=by
 have hn:=hs.1;have main:∀ m j:Nat,j + m = g.length→Ev (fun k =>r12_Reach.l4 k g s (pick s j) (j:Int)) (pick s g.length):=by
  intro m
  induction m with
  | zero =>
   intro j hj;refine Ev.step ?_;have c:¬ (j:Int) < (g.length:Int):=by omega
   simp only [r12_Reach.l4,if_neg c];rw [show j = g.length by omega];exact Ev.const _
  | succ m ih =>
   intro j hj;have e:=ih (j + 1) qD0;refine Ev.step ?_;have c:(j:Int) < (g.length:Int):=by omega
   have c0:0≤(j:Int):=zI0 j;have c1:(j:Int) < (s.length:Int):=by rw [hl];exact c
   have hpl:(pick s j).length < 17592186044416:=by
    have:(pick s j).length≤j:=by
     unfold pick;rw [zO1];exact zH0 (zZ2 _ _) qG0
    omega
   simp only [r12_Reach.l4,if_pos c,if_pos c0,if_pos c1,if_pos hpl,pz j qD0];have hj2:j < s.length:=by omega
   by_cases h:On s j
   ·rw [pick_on h] at e;simp only [if_pos (a7Y.2 h)];exact e
   ·have hf:s[j]? = some false:=by
     rw [zE0 hj2];cases hb:s[j] with
     | false =>rfl
     | true =>exact absurd (by unfold On;rw [zE0 hj2,hb]) h
    rw [pick_off hf] at e;simp only [if_neg (fun e' =>h (a7Y.1 e'))];exact e
 refine Ev.step ?_;simp only [r12_Reach.j5];have:=main g.length 0 qD0;simpa [pick] using this
theorem b8T {g:List (List Int)} {n:Nat} {s:List Bool} (hr:∀ v,On s v→GRch g n v) (hn:On s n) (hg:∀ v,v < g.length→∀ m ∈ g.getD v [],0≤m∧m < g.length) (hl:s.length = g.length) (hc:Shut g s g.length):pick s g.length = reachL g n:=by
 have hlt:∀ v,On s v→v < g.length:=fun v hv =>by
  have:=(List.getElem?_eq_some_iff.1 hv).1;omega
 have hon:∀ v,On s v ↔ GRch g n v:=by
  intro v;constructor
  ·exact hr v
  ·intro h
   induction h with
   | refl =>exact hn
   | step _ hm ih =>exact hc _ (hlt _ ih) ih _ hm
 unfold pick reachL
 congr 1
 apply List.filter_congr;intro v hv';have:=hon v;unfold On at this;rw [zF0];cases hs:s[v]? with
 | none =>rw [hs] at this;simp at this;simp [this]
 | some b =>rw [hs] at this;cases b <;> simp at this <;> simp [this]
theorem c0Z (g:List (List Int)) (n:Nat) (hs:Sm g) (hg:∀ v,v < g.length→∀ m ∈ g.getD v [],0≤m∧m < g.length):∀ (u:Nat) (s:List Bool) (r:Nat),off s≤u→s.length = g.length→On s n→(∀ v,On s v→GRch g n v)→r + off s < g.length→Ev (fun k =>r12_Reach.l1 k g s (r:Int)) (reachL g n):=by
 have hn:=hs.1;intro u
 induction u using Nat.strongRecOn with
 | _ u ih =>
  intro s r hu hl hself hr hro;refine Ev.step ?_;have c:(r:Int) < (g.length:Int):=by omega
  simp only [r12_Reach.l1,if_pos c];refine rr_round hs hg s (fun s' h' =>?_) (fun _ hsh =>?_) g.length 0 qD0 s false ⟨hl,hself,hr,zG0 _,fun _ =>rfl,fun e =>by cases e⟩ (fun _ v hv =>by omega)
  ·rw [pz r qD0];have hls:=h'.less rfl;exact ih (off s') qD0 s' (r + 1) (zG0 _) h'.len h'.self h'.rch qD0
  ·rw [← b8T hr hself hg hl hsh];exact rr_out g hs s hl
theorem rr_begin (g:List (List Int)) (n:Nat) (hs:Sm g) (hg:∀ v,v < g.length→∀ m ∈ g.getD v [],0≤m∧m < g.length) (hn:n < g.length):∀ m i:Nat,i + m = g.length→Ev (fun k =>r12_Reach.l0 k g (n:Int) (((List.replicate g.length false).set n true).take i) (i:Int)) (reachL g n):=by
 have hN:=hs.1;obtain ⟨full,hf⟩:∃ f,f = (List.replicate g.length false).set n true:=⟨_,rfl⟩;have hl:full.length = g.length:=by rw [hf];simp
 have hget:∀ v,v < g.length→full[v]? = some ((v:Int) == (n:Int)):=by
  intro v hv;rw [hf,List.getElem?_set]
  split
  ·rename_i e;subst e;simp [hn]
  ·rename_i e
   rw [List.getElem?_replicate,if_pos hv];have:¬ (v:Int) = (n:Int):=by omega
   simp [this]
 have hself:On full n:=by unfold On;rw [hget n hn];simp
 have hr:∀ v,On full v→GRch g n v:=by
  intro v hv;have hlt:v < g.length:=by have:=(List.getElem?_eq_some_iff.1 hv).1;omega
  unfold On at hv;rw [hget v hlt] at hv;simp at hv;have:v = n:=by omega
  rw [this];exact .refl
 have hoff:off full + 1 = g.length:=by
  have h1:(List.replicate g.length false)[n]? = some false:=by rw [List.getElem?_replicate,if_pos hn]
  have h2:=c2A _ n h1;rw [← hf] at h2;unfold off;rw [h2];simp
 rw [← hf];intro m
 induction m with
 | zero =>
  intro i hi;refine Ev.step ?_;have c:¬ (i:Int) < (g.length:Int):=by omega
  simp only [r12_Reach.l0,if_neg c];rw [zQ2 qD0];exact c0Z g n hs hg _ full 0 (zG0 _) hl hself hr qD0
 | succ m ih =>
  intro i hi;have e:=ih (i + 1) qD0;refine Ev.step ?_;have c:(i:Int) < (g.length:Int):=by omega
  have c1:(full.take i).length < 140737488355328:=by rw [zG1];omega
  simp only [r12_Reach.l0,if_pos c,if_pos c1,pz i qD0];have ht:full.take (i + 1) = full.take i ++ [((i:Int) == (n:Int))]:=by
   rw [List.take_add_one,hget i qD0];rfl
  rw [ht] at e;exact e
theorem c0Y (g:List (List Int)) (hs:Sm g) (n:Int):Ev (fun k =>r12_Reach.f k g n) (reachF g n):=by
 have jt:reachF g n = []→Ev (fun k =>r12_Reach.j0 k g n true) (reachF g n):=by
  intro h;rw [h];refine Ev.step ?_;simp only [r12_Reach.j0,if_true];exact Ev.const _
 refine Ev.bind (c1D g hs) ?_;cases hb:mayB g with
 | false =>
  simp only [Bool.false_eq_true,if_false];exact jt (by unfold reachF;rw [if_neg (by rw [hb];simp)])
 | true =>
  simp only [if_true];by_cases h0:n < 0
  ·simp only [if_pos h0];exact jt (by unfold reachF;rw [if_neg qD0])
  ·simp only [if_neg h0];by_cases h1:n ≥ (g.length:Int)
   ·simp only [zC0 h1];exact jt (by unfold reachF;rw [if_neg qD0])
   ·simp only [zL0 h1];obtain ⟨m,rfl⟩:∃ m:Nat,n = (m:Int):=⟨n.toNat,by omega⟩;have e:reachF g (m:Int) = reachL g m:=by unfold reachF;rw [if_pos ⟨hb,by omega,by omega⟩,zM0]
    rw [e];refine Ev.step ?_;simp only [r12_Reach.j0,Bool.false_eq_true,if_false];have:=rr_begin g m hs (b6N hb) qD0 g.length 0 qD0;simpa using this
theorem has_ev (l:List Int) (x:Int) (hl:l.length≤1050000):Ev (fun k =>r12_Has.f k l x) (decide (x ∈ l)):=by
 have main:∀ m i:Nat,i + m = l.length→Ev (fun k =>r12_Has.l0 k l x (i:Int)) (decide (x ∈ l.drop i)):=by
  intro m
  induction m with
  | zero =>
   intro i hi;refine Ev.step ?_;have c:¬ (i:Int) < (l.length:Int):=by omega
   simp only [r12_Has.l0,if_neg c];rw [zL2 qD0];exact Ev.const _
  | succ m ih =>
   intro i hi;have e:=ih (i + 1) qD0;refine Ev.step ?_;have hi2:i < l.length:=by omega
   have c:(i:Int) < (l.length:Int):=by omega
   have c0:0≤(i:Int):=zI0 i;simp only [r12_Has.l0,if_pos c,if_pos c0,b1S hi2,pz i qD0];rw [zD2 hi2];by_cases h:l[i] = x
   ·simp only [if_pos h];rw [show decide (x ∈ l[i] :: l.drop (i + 1)) = true by simp [h]];exact Ev.const _
   ·simp only [if_neg h];have hiff:(x ∈ l[i] :: l.drop (i + 1)) ↔ x ∈ l.drop (i + 1):=by
     rw [zO0];exact ⟨fun h' =>h'.resolve_left (Ne.symm h),.inr⟩
    simp only [hiff];exact e
 have:=main l.length 0 qD0;rw [zC3] at this;exact this
theorem grch_rch {g:List (List Int)} {a b:Nat} (h:GRch g a b):Tarj.Rch (adjF g) a b:=by
 induction h with
 | refl =>exact .refl _
 | step _ hm ih =>exact ih.trans (.one (zC2.2 ⟨_,hm,rfl⟩))
theorem rch_grch {g:List (List Int)} {a b:Nat} (h:Tarj.Rch (adjF g) a b):GRch g a b:=by
 induction h with
 | refl x =>exact .refl
 | step h _ ih =>
  obtain ⟨m,hm,rfl⟩:=zC2.1 h;exact (GRch.step .refl hm).trans ih
theorem a5N {g:List (List Int)} {a b:Nat}:(b:Int) ∈ reachL g a ↔ b < g.length∧Tarj.Rch (adjF g) a b:=by
 unfold reachL;rw [zC2];constructor
 ·rintro ⟨x,hx,e⟩;obtain rfl:x = b:=by simp only [Int.ofNat_eq_natCast] at e;omega
  rw [zQ1,zW0] at hx;exact ⟨hx.1,grch_rch (zB0 hx.2)⟩
 ·rintro ⟨h1,h2⟩;exact ⟨b,zQ1.2 ⟨zW0.2 h1,zC0 (rch_grch h2)⟩,rfl⟩
theorem b9C {g:List (List Int)} {a:Nat} {x:Int} (h:x ∈ reachL g a):∃ b:Nat,x = (b:Int)∧b < g.length∧Tarj.Rch (adjF g) a b:=by
 have h':=h;unfold reachL at h;obtain ⟨b,_,rfl⟩:=zC2.1 h;exact ⟨b,rfl,a5N.1 h'⟩
theorem a8V (g:List (List Int)) (a:Nat):(reachL g a).length≤g.length:=by
 unfold reachL;rw [zO1];exact zH0 (zZ2 _ _) qG0
noncomputable def reachesL (g:List (List Int)):List (List Int):=(List.range g.length).map fun i =>reachL g i
theorem a4F (g:List (List Int)):(reachesL g).length = g.length:=by unfold reachesL;simp
theorem a4Y {g:List (List Int)} {a:Nat} (h:a < g.length):(reachesL g).getD a [] = reachL g a:=by
 unfold reachesL;rw [zF0,List.getElem?_map,List.getElem?_range h];rfl
theorem b9B {g:List (List Int)} (hm:mayB g = true):Ev (fun k =>r13_Reaches.f k g) (reachesL g):=by
 have hn:=(a2R hm).1;have hs:=(a4C hm).sm;have main:∀ m i:Nat,i + m = g.length→Ev (fun k =>r13_Reaches.l0 k g ((reachesL g).take i) (i:Int)) (reachesL g):=by
  intro m
  induction m with
  | zero =>
   intro i hi;refine Ev.step ?_;have c:¬ (i:Int) < (g.length:Int):=by omega
   simp only [r13_Reaches.l0,if_neg c];rw [zQ2 (by rw [a4F];omega)];exact Ev.const _
  | succ m ih =>
   intro i hi;have e:=ih (i + 1) qD0;refine Ev.step ?_;have c:(i:Int) < (g.length:Int):=by omega
   have c2:((reachesL g).take i).length < 5864062014805:=by rw [zG1];omega
   simp only [r13_Reaches.l0,if_pos c,if_pos c2,pz i qD0];refine Ev.bind (c0Y g hs (i:Int)) ?_;have e2:reachF g (i:Int) = reachL g i:=by unfold reachF;rw [if_pos ⟨hm,by omega,by omega⟩,zM0]
   rw [e2];rw [zV0 (by rw [a4F];omega)] at e;have e3:(reachesL g)[i]'(by rw [a4F];omega) = reachL g i:=by
    have:=a4Y (g:=g) (a:=i) qD0;rw [zF0,zE0 (by rw [a4F];omega)] at this;exact this
   rw [e3] at e;exact e
 exact main g.length 0 qD0
theorem c2N {g:List (List Int)} (hm:mayB g = true) {a b:Nat} (ha:a < g.length) (hb:b < g.length):Ev (fun k =>r13_Knot.f k (reachesL g) (a:Int) (b:Int)) (decide (Sc (adjF g) a b)):=by
 have hn:=(a2R hm).1;have l:=a4F g;have c1:(0:Int)≤(a:Int):=zI0 a;have c2:(a:Int) < ((reachesL g).length:Int):=by omega
 have c3:(0:Int)≤(b:Int):=zI0 b;have c4:(b:Int) < ((reachesL g).length:Int):=by omega
 simp only [r13_Knot.f,if_pos c1,if_pos c2,rdLg,a4Y ha,if_pos c3,if_pos c4,a4Y hb];refine Ev.bind (has_ev _ _ (by have:=a8V g a;omega)) ?_;by_cases r:Tarj.Rch (adjF g) a b
 ·have e1:decide ((b:Int) ∈ reachL g a) = true:=zC0 (a5N.2 ⟨hb,r⟩);rw [e1];simp only [if_true];refine Ev.bind (has_ev _ _ (by have:=a8V g b;omega)) ?_;have e2:decide ((a:Int) ∈ reachL g b) = decide (Sc (adjF g) a b):=by
   apply decide_eq_decide.2;rw [a5N];exact ⟨fun q =>⟨r,q.2⟩,fun q =>⟨ha,q.2⟩⟩
  rw [e2];exact Ev.const _
 ·have e1:decide ((b:Int) ∈ reachL g a) = false:=zL0 (fun q =>r (a5N.1 q).2);rw [e1];simp only [Bool.false_eq_true,if_false];rw [show decide (Sc (adjF g) a b) = false from zL0 (fun q =>r q.1)];exact Ev.const _
def ov (L:List Int) (x:Nat):Int:=rd L (x:Int)
theorem ov_set (L:List Int) (n x:Nat) (v:Int) (h:n < L.length):ov (L.set n v) x = if x = n then v else ov L x:=by
 unfold ov rd;rw [zM0,zF0,zF0,List.getElem?_set];by_cases e:n = x
 ·subst e;simp [h]
 ·rw [if_neg e,if_neg (Ne.symm e)]
def RdyN (adj:Nat→List Nat) (o:Nat→Int) (n:Nat):Prop:=∀ y,Tarj.Rch adj n y→0≤o y∨Tarj.Rch adj y n
section
variable {g:List (List Int)}
theorem b7O (hm:mayB g = true) (L:List Int) (hL:L.length = g.length) {n:Nat} (hn:n < g.length):Ev (fun k =>r13_ready.f k (reachesL g) L (n:Int)) (decide (RdyN (adjF g) (ov L) n)):=by
 have hN:=(a2R hm).1;have l:=a4F g;have hlr:=a8V g n;have c1:(0:Int)≤(n:Int):=zI0 n;have c2:(n:Int) < ((reachesL g).length:Int):=by omega
 have main:∀ m i:Nat,i + m = (reachL g n).length→Ev (fun k =>r13_ready.l0 k (reachesL g) L (n:Int) (i:Int)) (decide (∀ y:Nat,(y:Int) ∈ (reachL g n).drop i→0≤ov L y∨Tarj.Rch (adjF g) y n)):=by
  intro m
  induction m with
  | zero =>
   intro i hi;refine Ev.step ?_;have c:¬ (i:Int) < ((reachL g n).length:Int):=by omega
   simp only [r13_ready.l0,if_pos c1,if_pos c2,rdLg,a4Y hn,if_neg c];rw [zL2 qD0,show decide (∀ y:Nat,(y:Int) ∈ ([]:List Int)→0≤ov L y∨Tarj.Rch (adjF g) y n) = true from zC0 (fun y h =>by cases h)];exact Ev.const _
  | succ m ih =>
   intro i hi;have e:=ih (i + 1) qD0;refine Ev.step ?_;have hil:i < (reachL g n).length:=by omega
   have c:(i:Int) < ((reachL g n).length:Int):=by omega
   have c0:(0:Int)≤(i:Int):=zI0 i;obtain ⟨y,hy,hyN,hyr⟩:=b9C (zD1 hil);have hrd:rd (reachL g n) (i:Int) = (y:Int):=by rw [b1S hil];exact hy
   have c3:(0:Int)≤(y:Int):=zI0 y;have c4:(y:Int) < (L.length:Int):=by omega
   simp only [r13_ready.l0,if_pos c1,if_pos c2,rdLg,a4Y hn,if_pos c,if_pos c0,hrd,if_pos c3,if_pos c4,pz i qD0];rw [zD2 hil,hy];have hiff:(∀ z:Nat,(z:Int) ∈ (y:Int) :: (reachL g n).drop (i + 1)→0≤ov L z∨Tarj.Rch (adjF g) z n) ↔ ((0≤ov L y∨Tarj.Rch (adjF g) y n)∧∀ z:Nat,(z:Int) ∈ (reachL g n).drop (i + 1)→0≤ov L z∨Tarj.Rch (adjF g) z n):=by
    constructor
    ·exact fun h =>⟨h y zP0,fun z hz =>h z (zQ0 _ hz)⟩
    ·intro h z hz;rcases zO0.1 hz with q | q
     ·have:z = y:=by omega
      rw [this];exact h.1
     ·exact h.2 z q
   by_cases d:ov L y < 0
   ·have d':rd L (y:Int) < 0:=d;simp only [if_pos d'];refine Ev.bind (c2N hm hn hyN) ?_;by_cases s:Tarj.Rch (adjF g) y n
    ·rw [show decide (Sc (adjF g) n y) = true from zC0 ⟨hyr,s⟩];simp only [if_true];have:decide (∀ z:Nat,(z:Int) ∈ (y:Int) :: (reachL g n).drop (i + 1)→0≤ov L z∨Tarj.Rch (adjF g) z n) = decide (∀ z:Nat,(z:Int) ∈ (reachL g n).drop (i + 1)→0≤ov L z∨Tarj.Rch (adjF g) z n) :=
      decide_eq_decide.2 (hiff.trans ⟨fun q =>q.2,fun q =>⟨.inr s,q⟩⟩)
     rw [this];exact e
    ·rw [show decide (Sc (adjF g) n y) = false from zL0 (fun q =>s q.2)];simp only [Bool.false_eq_true,if_false];rw [show decide (∀ z:Nat,(z:Int) ∈ (y:Int) :: (reachL g n).drop (i + 1)→0≤ov L z∨Tarj.Rch (adjF g) z n) = false from zL0 (fun q =>(hiff.1 q).1.elim (fun w =>by omega) s)];exact Ev.const _
   ·have d':¬ rd L (y:Int) < 0:=d;simp only [if_neg d'];have:decide (∀ z:Nat,(z:Int) ∈ (y:Int) :: (reachL g n).drop (i + 1)→0≤ov L z∨Tarj.Rch (adjF g) z n) = decide (∀ z:Nat,(z:Int) ∈ (reachL g n).drop (i + 1)→0≤ov L z∨Tarj.Rch (adjF g) z n) :=
     decide_eq_decide.2 (hiff.trans ⟨fun q =>q.2,fun q =>⟨.inl qD0,q⟩⟩)
    rw [this];exact e
 have h0:=main (reachL g n).length 0 qD0;have:decide (∀ y:Nat,(y:Int) ∈ (reachL g n).drop 0→0≤ov L y∨Tarj.Rch (adjF g) y n) = decide (RdyN (adjF g) (ov L) n):=by
  apply decide_eq_decide.2;rw [zC3];constructor
  ·exact fun h y r =>h y (a5N.2 ⟨r.lt (a4C hm).adj hn,r⟩)
  ·exact fun h y q =>h y (a5N.1 q).2
 rw [this] at h0;exact h0
theorem mark_ev {L0:List Int} (hm:mayB g = true) (kk:Nat) (n:Nat) (hn:n < g.length) {res:List Int}
  (h:∀ L:List Int,L.length = g.length→(∀ x,x < g.length→ov L x = if Sc (adjF g) n x then (kk:Int) else ov L0 x)→Ev (fun k =>r13_Of.l1 k g (reachesL g) L (wrap64 ((kk:Int) + 1))) res) :
  ∀ m i:Nat,i + m = g.length→∀ L:List Int,L.length = g.length→(∀ x,x < g.length→ov L x = if x < i∧Sc (adjF g) n x then (kk:Int) else ov L0 x)→Ev (fun k =>r13_Of.l3 k g (reachesL g) L (kk:Int) (n:Int) (i:Int)) res:=by
 have hN:=(a2R hm).1;intro m
 induction m with
 | zero =>
  intro i hi L hL ho;refine Ev.step ?_;have c:¬ (i:Int) < (g.length:Int):=by omega
  simp only [r13_Of.l3,if_neg c];refine h L hL (fun x hx =>?_);rw [ho x hx];have:x < i:=by omega
  simp only [this,true_and]
 | succ m ih =>
  intro i hi L hL ho;refine Ev.step ?_;have hig:i < g.length:=by omega
  have c:(i:Int) < (g.length:Int):=by omega
  have c0:(0:Int)≤(i:Int):=zI0 i;have c1:(i:Int) < (L.length:Int):=by omega
  simp only [r13_Of.l3,if_pos c,if_pos c0,if_pos c1,zM0,pz i qD0];refine Ev.bind (c2N hm hn hig) ?_;by_cases s:Sc (adjF g) n i
  ·rw [zC0 s];simp only [if_true];refine ih (i + 1) qD0 _ (by rw [zU1];exact hL) (fun x hx =>?_);rw [ov_set L i x _ qD0];by_cases e:x = i
   ·subst e;rw [if_pos rfl,if_pos ⟨zS0 _,s⟩]
   ·rw [if_neg e,ho x hx];by_cases q:x < i
    ·have q2:x < i + 1:=by omega
     simp only [q,q2,true_and]
    ·have q2:¬ x < i + 1:=by omega
     simp only [q,q2,false_and,if_false]
  ·rw [zL0 s];simp only [Bool.false_eq_true,if_false];refine ih (i + 1) qD0 L hL (fun x hx =>?_);rw [ho x hx];by_cases e:x = i
   ·subst e;rw [if_neg (fun q =>s q.2),if_neg (fun q =>s q.2)]
   ·by_cases q:x < i
    ·have q2:x < i + 1:=by omega
     simp only [q,q2,true_and]
    ·have q2:¬ x < i + 1:=by omega
     simp only [q,q2,false_and,if_false]
theorem c3G (hm:mayB g = true) (L:List Int) (hL:L.length = g.length) (kk:Int) {res:List Int} {n:Nat} (hn:n≤g.length) (hp:n < g.length→ov L n < 0∧RdyN (adjF g) (ov L) n) (h:Ev (fun k =>r13_Of.j3 k g (reachesL g) L kk (n:Int)) res) :
  ∀ m i:Nat,i + m = n→(∀ x,i≤x→x < n→¬ (ov L x < 0∧RdyN (adjF g) (ov L) x))→Ev (fun k =>r13_Of.l2 k g (reachesL g) L kk (i:Int)) res:=by
 have hN:=(a2R hm).1;intro m
 induction m with
 | zero =>
  intro i hi ho;obtain rfl:i = n:=by omega
  refine Ev.step ?_;by_cases c:i < g.length
  ·obtain ⟨p1,p2⟩:=hp c;have c1:(i:Int) < (g.length:Int):=by omega
   have c0:(0:Int)≤(i:Int):=zI0 i;have c2:(i:Int) < (L.length:Int):=by omega
   have c3:¬ rd L (i:Int) ≥ 0:=by have:rd L (i:Int) < 0:=p1;omega
   simp only [r13_Of.l2,if_pos c1,if_pos c0,if_pos c2,if_neg c3];refine Ev.bind (b7O hm L hL c) ?_;rw [zC0 p2];simp only [if_true];exact h
  ·have c1:¬ (i:Int) < (g.length:Int):=by omega
   simp only [r13_Of.l2,if_neg c1];exact h
 | succ m ih =>
  intro i hi ho;have e:=ih (i + 1) qD0 (fun x h1 h2 =>ho x qD0 h2);refine Ev.step ?_;have c:i < g.length:=by omega
  have c1:(i:Int) < (g.length:Int):=by omega
  have c0:(0:Int)≤(i:Int):=zI0 i;have c2:(i:Int) < (L.length:Int):=by omega
  have q:=ho i (zG0 _) qD0;simp only [r13_Of.l2,if_pos c1,if_pos c0,if_pos c2,pz i qD0];by_cases d:ov L i < 0
  ·have c3:¬ rd L (i:Int) ≥ 0:=by have:rd L (i:Int) < 0:=d;omega
   simp only [if_neg c3];refine Ev.bind (b7O hm L hL c) ?_;rw [zL0 (fun w =>q ⟨d,w⟩)];simp only [Bool.false_eq_true,if_false];exact e
  ·have c3:rd L (i:Int) ≥ 0:=by have:¬ rd L (i:Int) < 0:=d;omega
   simp only [if_pos c3];exact e
theorem toL_ov (L:List Int) (h:∀ x,x < L.length→0≤ov L x):L = toL L.length (fun x =>(ov L x).toNat):=by
 apply zF2;intro i;unfold toL;rw [List.getElem?_map];by_cases hi:i < L.length
 ·have h1:=h i hi;have h2:ov L i = L[i]:=by unfold ov;rw [b1S hi]
  rw [List.getElem?_range hi,zE0 hi];simp only [zH2];rw [zL3 h1,h2]
 ·rw [List.getElem?_eq_none qD0,List.getElem?_eq_none (by simpa using hi)];rfl
theorem c1C (hm:mayB g = true):∀ (u kk:Nat) (L:List Int),L.length = g.length→Pn (adjF g) g.length kk (ov L)→uns g.length (ov L)≤u→kk + uns g.length (ov L)≤g.length→∃ M num,Nmb (adjF g) g.length M num∧Ev (fun k =>r13_Of.l1 k g (reachesL g) L (kk:Int)) (toL g.length num):=by
 have hN:=(a2R hm).1;have hadj:=(a4C hm).adj;intro u
 induction u with
 | zero =>
  intro kk L hL hp hu hk;have ha:=b2T (Nat.le_zero.1 hu);have hd:=hp.done ha (num:=fun x =>(ov L x).toNat) (fun x hx =>by have:=ha x hx;omega) hadj;have hf:Ev (fun k =>some L) (toL g.length (fun x =>(ov L x).toNat)):=by
   rw [← hL,← toL_ov L (fun x hx =>ha x qD0)];exact Ev.const _
  refine ⟨kk,_,hd,Ev.step ?_⟩;by_cases c:(kk:Int) < (g.length:Int)
  ·simp only [r13_Of.l1,if_pos c];refine c3G hm L hL (kk:Int) (n:=g.length) (zG0 _) (fun h =>absurd h (zX1 _)) ?_ g.length 0 qD0 (fun x _ hx q =>by have:=ha x hx;omega);refine Ev.step ?_;simp only [r13_Of.j3,if_true];exact hf
  ·simp only [r13_Of.l1,if_neg c];exact hf
 | succ u ih =>
  intro kk L hL hp hu hk;rcases b7X (fun x =>ov L x < 0∧RdyN (adjF g) (ov L) x) g.length with ⟨n,n1,⟨n2,n3⟩,n4⟩ | hno
  ·have hlow:∀ m,m < g.length→ov L m < 0→(∀ y,Tarj.Rch (adjF g) m y→0≤ov L y∨Tarj.Rch (adjF g) y m)→n≤m:=fun m hm h1 h2 =>by
    apply Classical.byContradiction;intro q;exact n4 m qD0 ⟨h1,h2⟩
   have hup:0 < uns g.length (ov L):=by
    rcases zP1 (uns g.length (ov L)) with e | e
    ·have:=b2T e n n1;omega
    ·exact e
   obtain ⟨L2,hL2,hL2o⟩:∃ L2:List Int,L2.length = g.length∧∀ x,x < g.length→ov L2 x = if Sc (adjF g) n x then (kk:Int) else ov L x:=by
    refine ⟨(List.range g.length).map (fun x =>if Sc (adjF g) n x then (kk:Int) else ov L x),by simp,fun x hx =>?_⟩;unfold ov rd;rw [zM0,zF0,List.getElem?_map,List.getElem?_range hx];simp only [zH2,zP2,zM0]
   have hp2:=hp.step hadj n1 n2 n3 hlow hL2o
   have hul:uns g.length (ov L2) < uns g.length (ov L):=uns_lt n1 (fun x hx h =>by
    rw [hL2o x hx] at h
    split at h
    ·omega
    ·exact h) n2 (by rw [hL2o n n1,if_pos (Sc.refl _ _)];omega)
   obtain ⟨M,num,q1,q2⟩:=ih (kk + 1) L2 hL2 hp2 qD0 qD0;refine ⟨M,num,q1,Ev.step ?_⟩;have c:(kk:Int) < (g.length:Int):=by omega
   simp only [r13_Of.l1,if_pos c];refine c3G hm L hL (kk:Int) (zY1 n1) (fun _ =>⟨n2,n3⟩) ?_ n 0 qD0 (fun x _ hx =>n4 x hx);refine Ev.step ?_;have c2:¬ (n:Int) = (g.length:Int):=by omega
   simp only [r13_Of.j3,if_neg c2];refine mark_ev (L0:=L) hm kk n n1 (fun L3 hL3 hL3o =>?_) g.length 0 qD0 L hL (fun x hx =>by rw [if_neg (fun q =>zS2 _ q.1)]);have e:L3 = L2:=by
    apply zF2;intro i;by_cases hi:i < g.length
    ·have h1:=hL3o i hi;have h2:=hL2o i hi;rw [← h2] at h1;unfold ov at h1;rw [b1S qD0,b1S qD0] at h1;rw [zE0 qD0,zE0 qD0,h1]
    ·rw [List.getElem?_eq_none qD0,List.getElem?_eq_none qD0]
   rw [e,pz kk qD0];exact q2
  ·have ha:∀ x,x < g.length→0≤ov L x:=fun x hx =>by
    apply Classical.byContradiction;intro q;obtain ⟨n,a,b,c⟩:=hp.some hadj hx qD0;exact hno n a ⟨b,c⟩
   have hz:uns g.length (ov L) = 0:=by
    rcases zP1 (uns g.length (ov L)) with e | e
    ·exact e
    ·obtain ⟨x,hx⟩:=List.exists_mem_of_length_pos (l:=(List.range g.length).filter (fun x =>decide (ov L x < 0))) e;rw [zQ1,zW0] at hx;have:=zB0 hx.2;have:=ha x hx.1;omega
   exact ih kk L hL hp qD0 hk
theorem rof_ev (hm:mayB g = true):∃ M num,Nmb (adjF g) g.length M num∧Ev (fun k =>r13_Of.f k g) (toL g.length num):=by
 have hN:=(a2R hm).1;have hs:=(a4C hm).sm;have e0:∀ x,x < g.length→ov (List.replicate g.length (-1)) x = -1:=fun x hx =>by
  unfold ov rd;rw [zM0,zF0,List.getElem?_replicate,if_pos hx];rfl
 have hp:Pn (adjF g) g.length 0 (ov (List.replicate g.length (-1))):=(Pn.start _ _).congr (a4C hm).adj e0;obtain ⟨M,num,q1,q2⟩:=c1C hm _ 0 (List.replicate g.length (-1)) qG0 hp (zG0 _) (by have:=uns_le g.length (ov (List.replicate g.length (-1)));omega);refine ⟨M,num,q1,?_⟩;have main:∀ m i:Nat,i + m = g.length→Ev (fun k =>r13_Of.l0 k g (reachesL g) (List.replicate i (-1)) (i:Int)) (toL g.length num):=by
  intro m
  induction m with
  | zero =>
   intro i hi;refine Ev.step ?_;have c:¬ (i:Int) < (g.length:Int):=by omega
   simp only [r13_Of.l0,if_neg c];rw [show i = g.length by omega];exact q2
  | succ m ih =>
   intro i hi;have e:=ih (i + 1) qD0;refine Ev.step ?_;have c:(i:Int) < (g.length:Int):=by omega
   have c1:(List.replicate i (-1:Int)).length < 17592186044416:=by rw [List.length_replicate];omega
   simp only [r13_Of.l0,if_pos c,if_pos c1,pz i qD0];rw [List.replicate_succ'] at e;exact e
 refine Ev.bind (c1D g hs) ?_;rw [hm];simp only [if_true];exact Ev.bind (b9B hm) (main g.length 0 qD0)
end
set_option maxRecDepth 100000
theorem RS.far {B R bl K:Nat} {lw:Nat→Nat} {v:Value} {l:List Nat} {W:World} (h:RS B R bl K lw v l W) {q:Nat} (h1:R≠q) (h2:bl≠q) (h3:some q≠v.ownBlock) (i:Nat) (u:Value):RS B R bl K lw v l (W.setCell ⟨q,i,none⟩ u):=by
 refine ⟨a2F h.r h1 _,a2F h.lo h2 _,?_,h.mem,h.b,h.bl,h.len⟩;exact Kd.a2S (Kd.b3Y (p:=⟨q,i,none⟩) (Kd.a6J (ok:=fun k =>some k = v.ownBlock) rfl h.st (fun k hk =>hk.symm)) (fun k hk e =>h3 (by rw [← hk];exact congrArg some (show q = k from e.symm))) _) (fun _ _ =>trivial)
structure PS (B R bl blf K:Nat) (lw:Nat→Nat) (v:Value) (l:List Nat) (left:Nat→Nat) (W1 Wr W:World):Prop where
 rs:RS R R bl K lw v l W
 hp:Hp (kys lw l) l.length
 lf:W.heap[blf]? = some (.cells (ints K left) 3 (0,0))
 fz:∀ k,k < R→k≠blf→W.heap[k]? = Wr.heap[k]?
 be:Below B W1 W
 sz:Wr.heap.size≤W.heap.size
 bb:B≤blf∧blf < R∧bl≠blf∧R < Wr.heap.size
structure NM (R bn K:Nat) (num:Nat→Nat) (v:Value) (W:World):Prop where
 nm:W.heap[bn]? = some (.cells (ints K num) 3 (0,0))
 nb:R < bn∧some bn≠v.ownBlock
def lfA (r:Nat→List Nat) (i:Nat):Nat→Nat:=fun x =>if x < i then (r x).length else 0
theorem lfA_zero (r:Nat→List Nat):lfA r 0 = fun _ =>0:=by funext x;simp [lfA]
theorem lfA_succ (r:Nat→List Nat) (i:Nat):Tarj.upd (lfA r i) i (r i).length = lfA r (i + 1):=by
 funext x
 simp only [lfA,Tarj.upd];by_cases e:x = i
 ·subst e;simp
 ·rw [if_neg e];by_cases h:x < i
  ·rw [if_pos h,if_pos qD0]
  ·rw [if_neg h,if_neg qD0]
def mixF (num cls:Nat→Nat) (i:Nat):Nat→Nat:=fun x =>if x < i then num (cls x) else cls x
theorem c2J (num cls:Nat→Nat):mixF num cls 0 = cls:=by funext x;simp [mixF]
theorem mixF_at (num cls:Nat→Nat) (i:Nat):mixF num cls i i = cls i:=by simp [mixF]
theorem c2K (num cls:Nat→Nat) (i:Nat):Tarj.upd (mixF num cls i) i (num (cls i)) = mixF num cls (i + 1):=by
 funext x
 simp only [mixF,Tarj.upd];by_cases e:x = i
 ·subst e;simp
 ·rw [if_neg e];by_cases h:x < i
  ·rw [if_pos h,if_pos qD0]
  ·rw [if_neg h,if_neg qD0]
theorem tAss (x:Nat) (w:World):(Instr.typeAssert (.iface 3 (.int .i64 (x:Int))) 20 3 false).run Tryz.prog w = .ok (.int .i64 (x:Int)) w:=by kernel_rfl
section
variable {B R bl blf bn K:Nat} {lw:Nat→Nat} {v v':Value} {l l':List Nat} {left num:Nat→Nat} {W1 Wr W W':World}
theorem PS.own (h:PS B R bl blf K lw v l left W1 Wr W):∀ k,v.ownBlock = some k→R≤k:=fun k hk =>a2G (Kd.a2Y h.rs.st) k hk
theorem PS.hz (h:PS B R bl blf K lw v l left W1 Wr W):R≤W.heap.size:=zH0 (zY1 h.bb.2.2.2) h.sz
theorem PS.ht (h:PS B R bl blf K lw v l left W1 Wr W) (hr:RS R R bl K lw v' l' W') (hh:Hp (kys lw l') l'.length) (ht:Ht R R W v W' v'):PS B R bl blf K lw v' l' left W1 Wr W':=by
 have hb:=h.bb;refine ⟨hr,hh,?_,fun k hk hne =>?_,h.be.trans (ht.be.mono qD0),zH0 h.sz ht.be.size,h.bb⟩
 ·rw [ht.be.block _ hb.2.1];exact h.lf
 ·rw [ht.be.block _ hk];exact h.fz k hk hne
theorem PS.setLeft (h:PS B R bl blf K lw v l left W1 Wr W) (m x:Nat):PS B R bl blf K lw v l (Tarj.upd left m x) W1 Wr (W.setCell ⟨blf,m,none⟩ (.int .i64 (x:Nat))):=by
 obtain ⟨b1,b2,b3,b4⟩:=h.bb;refine ⟨h.rs.far (show R≠blf by omega) b3 (fun e =>by have:=h.own blf e.symm;omega) _ _,h.hp,a3A h.lf m _ (a6Q _ _ _ _),fun k hk hne =>?_,h.be.setCell (p:=⟨blf,m,none⟩) b1 _,by rw [World.size_setCell];exact h.sz,h.bb⟩;rw [Below.heap_setCell _ _ _ _ hne];exact h.fz k hk hne
theorem NM.ht (h:NM R bn K num v W) (hlt:bn < W.heap.size) (ht:Ht R R W v W' v'):NM R bn K num v' W':=by
 refine ⟨by rw [ht.bk bn hlt (by have:=h.nb.1;omega) h.nb.2];exact h.nm,h.nb.1,fun e =>?_⟩;rcases ht.at_ with q | ⟨b,q,hb⟩
 ·rw [q] at e;exact h.nb.2 e
 ·rw [q] at e;injection e with e;omega
theorem NM.setLeft (h:NM R bn K num v W) (hlt:blf < R) (m:Nat) (u:Value):NM R bn K num v (W.setCell ⟨blf,m,none⟩ u) :=
 ⟨a2F h.nm (show bn≠blf by have:=h.nb.1;omega) _,h.nb⟩
theorem NM.set (h:NM R bn K num v W) (m x:Nat):NM R bn K (Tarj.upd num m x) v (W.setCell ⟨bn,m,none⟩ (.int .i64 (x:Nat))) :=
 ⟨a3A h.nm m _ (a6Q _ _ _ _),h.nb⟩
theorem PS.setNum (h:PS B R bl blf K lw v l left W1 Wr W) (n:NM R bn K num v W) (m:Nat) (u:Value):PS B R bl blf K lw v l left W1 Wr (W.setCell ⟨bn,m,none⟩ u):=by
 obtain ⟨b1,b2,b3,b4⟩:=h.bb;have hn:=n.nb;have hl:=h.rs.bl;refine ⟨h.rs.far (show R≠bn by omega) (show bl≠bn by omega) hn.2 _ _,h.hp,a2F h.lf (show blf≠bn by omega) _,fun k hk hne =>?_,h.be.setCell (p:=⟨bn,m,none⟩) (by show B≤bn;omega) _,by rw [World.size_setCell];exact h.sz,h.bb⟩;rw [Below.heap_setCell _ _ _ _ (show k≠bn by omega)];exact h.fz k hk hne
theorem PS.drew (h:PS B R bl blf K lw v l left W1 Wr W) (n:Nat):PS B R bl blf K lw v l left W1 Wr (W.drewN n) :=
 ⟨h.rs.drew n,h.hp,h.lf,h.fz,h.be.trans (a0A (zJ0 _ _) n),h.sz,h.bb⟩
theorem PS.below (h:PS B R bl blf K lw v l left W1 Wr W) (hb:Below W.heap.size W W'):PS B R bl blf K lw v l left W1 Wr W':=by
 have hz:=h.hz;have hbb:=h.bb;refine ⟨h.rs.below hb,h.hp,a0U h.lf hb,fun k hk hne =>by rw [hb.block k qD0];exact h.fz k hk hne,h.be.trans (hb.mono qD0),zH0 h.sz hb.size,h.bb⟩
theorem PS.lt (h:PS B R bl blf K lw v l left W1 Wr W):∀ k,v.ownBlock = some k→k < W.heap.size:=fun k hk =>by
 obtain ⟨cells,hc⟩:=a2N (Kd.a2Y h.rs.st) k hk;exact a1K hc
theorem NM.start (h:PS B R bl blf K lw v l left W1 Wr W):NM R W.heap.size K (fun _ =>0) v (W.alloc (.cells (ints K (fun _ =>0)) 3)) :=
 ⟨World.alloc_heap_new _ _,zF1 h.bb.2.2.2 h.sz,fun e =>zX1 _ (h.lt _ e.symm)⟩
theorem PS.old (h:PS B R bl blf K lw v l left W1 Wr W) {A:Option Addr} {n:Nat} {L:List (List Int)} (hF:Kd.F kL Wr (fun q =>q < blf) A n L):Kd.F kL W (fun q =>q < blf) A n L :=
 Kd.a5W hF (fun k hk _ =>h.fz k (by have:=h.bb;omega) qD0)
theorem PS.start {w:World} (hlo:w.heap[bl]? = some (.cells (ints K lw) 3 (0,0))) (hlf:w.heap[blf]? = some (.cells (ints K left) 3 (0,0))) (hbe:Below B W1 w) (hB:B≤blf) (hne:bl≠blf) :
  PS B w.heap.size bl blf K lw (.slice none 0 0) [] left W1 (w.alloc (.cells #[.slice none 0 0,.slice (some ⟨bl,0,none⟩) K K] 88)) (w.alloc (.cells #[.slice none 0 0,.slice (some ⟨bl,0,none⟩) K K] 88)):=by
 have h1:=a1K hlo;have h2:=a1K hlf;refine ⟨⟨World.alloc_heap_new _ _,a0K hlo _,Kd.a9A _ _ _ _ _,by simp,zG0 _,h1,by simp⟩,fun i h0 hi =>absurd hi (zS2 _),a0K hlf _,fun _ _ _ =>rfl,hbe.trans ((a0B (zJ0 w.heap.size w) _).mono qD0),zG0 _,hB,h2,hne,a1K (World.alloc_heap_new w _)⟩
end
end Go.Proofs.YthhgfncliffggaaGreat.Man
