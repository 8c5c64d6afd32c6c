/- A part of the proof that EffectsKnots returns true for every argument (the row of EffectsKnotsUpto: theorem effectsKnots_holds). No conditions beyond the given statement's own. -/
import Derived.Test.YthhgfncliffggaaGreatEK7
import Derived.Test.YthhgfncliffggaaGreatEK3
import Derived.Test.YthhgfncliffggaaGreatEK2
import Derived.Test.YthhgfncliffggaaGreatEK5
import Derived.Test.YthhgfncliffggaaGreatEK6
import Derived.Test.YthhgfncliffggaaGreatEK4
import Derived.RegionTactic
import Derived.ChangeAlike
import Derived.Test.YthhgfncliffggaaGreatRows
import Derived.WalkKit
import Derived.ProofKit
import Derived.OpenShut
import Derived.ShutString
import Derived.ChangeOld
import Derived.Below
import Derived.SizedLaws
import Derived.JoinedCond
set_option linter.unusedVariables false
set_option linter.unusedSimpArgs false
namespace Go.Proofs.YthhgfncliffggaaGreat.Man
open Go.RowKit Go.Shelf Go.Proofs.YthhgfncliffggaaGreat.Pr Go.Proofs.YthhgfncliffggaaGreatW.PrintWords Go.Proofs.YthhgfncliffggaaGreatW.PrintMore Go.Proofs.YthhgfncliffggaaGreat.Tarj
attribute [local go_sem] Oper.semAt_some
set_option maxRecDepth 100000 in
set_option maxHeartbeats 16000000 in
theorem of_try (g:List (List Int)) (hgo:GOk g) (A:Option Addr) (c kM:Nat) (W:World) (hg:kL.C W A g.length g) (hlc:g.length≤c) (hmay:graph_May.f kM g = some true) :
  Calls Tryz.prog 29 #[.slice A g.length c] W fun e W' =>∃ bo M num,e = .returned (.slice (some ⟨bo,0,none⟩) g.length g.length)∧Nmb (adjF g) g.length M num∧W.heap.size≤bo∧W'.heap[bo]? = some (.cells (ints g.length num) 3 (0,0))∧Below W.heap.size W W':=by
 have hmayc:=fun w (h:kL.C w A g.length g) =>graph_May.calls kM A c g true w h hlc hmay
 have HMAY:=zA0 hmayc;have HG:=zA0 hg;have GO:=zA0 hgo;have hgl:=hgo.len;clear hmayc hg hgo hmay;go_enter Tryz.func29,Tryz.ntmps29
 go_upto_region 3 with (first
  | (go_at_call 28;(with_reducible refine (HMAY.out _ HG.out).mono ?_;rintro z w1 ⟨rfl,hdr⟩;have HDR:=zA0 hdr;clear hdr)))
 obtain ⟨nd,rfl⟩:=HDR.out.out;have hgF:Kd.F kL (W.drewN nd) (fun k =>k < (W.drewN nd).heap.size) A g.length g:=Kd.C_F (Kd.a5O 3 (Kd.a8N .i64)) (Kd.a0I HG.out (a0A (zJ0 _ _) nd));have hb1:Below W.heap.size W (W.drewN nd):=a0A (zJ0 _ _) nd;clear HDR;generalize W.drewN nd = W1 at hgF hb1 ⊢;have HGF:=zA0 hgF;have HB1:=zA0 hb1;have HMI:=zA0 (makeI g.length hgl);have HMB:=zA0 (makeB g.length hgl);clear hgF hb1;refine (wpIn_wide (n:=5)).1 ?_;refine wpIn_region_any mixedO ?_;refine a3G _ (fun _ =>undef) (fun done val Z =>S3 A g.length c W1 done val Z) rfl qH0 _ ?hz3 ?st3 ?en3
 case hz3 =>exact S3.start A g.length c W1
 case st3 =>
  intro i o done val a Z ho hdn hdep hag hS K2 hK2;have hm:i < 13:=by
   by_cases h:i < 13
   ·exact h
   ·rw [Array.getElem?_eq_none qA1] at ho;cases ho
  obtain rfl | rfl | rfl | rfl | rfl | rfl | rfl | rfl | rfl | rfl | rfl | rfl | rfl:i = 0∨i = 1∨i = 2∨i = 3∨i = 4∨i = 5∨i = 6∨i = 7∨i = 8∨i = 9∨i = 10∨i = 11∨i = 12:=by omega
  ·cases ho;have e0:a.eval (.tmp 0) = .slice A g.length c:=hag.keep 0 rfl;refine a0F (i:=0) (r:=.slice A g.length c) (w':=Z) rfl rfl (fun c h =>by cases h) rfl ?_ (hK2 _ _ (hS.do_ 0 rfl rfl));have ec:∀ v,a.eval (.const v) = v:=fun _ =>rfl
   generalize a.eval = ev at *;simp [execOp,go_sem,ec,e0]
  ·cases ho;have e0:a.eval (.tmp 0) = .slice A g.length c:=hag.keep 0 rfl;refine a0F (i:=1) (r:=.slice A g.length c) (w':=Z) rfl rfl (fun c h =>by cases h) rfl ?_ (hK2 _ _ (hS.do_ 1 rfl rfl));have ec:∀ v,a.eval (.const v) = v:=fun _ =>rfl
   generalize a.eval = ev at *;simp [execOp,go_sem,ec,e0]
  ·cases ho;have e28:=(hag.val_ (j:=1) (t:=28) rfl (hdep ⟨1,.data⟩ qG0 rfl)).trans (hS.v1 (hdep ⟨1,.data⟩ qG0 rfl));refine a0F (i:=2) (r:=.int .i64 (g.length:Nat)) (w':=Z) rfl rfl (fun c h =>by cases h) rfl ?_ (hK2 _ _ (hS.do_ 2 rfl rfl));have ec:∀ v,a.eval (.const v) = v:=fun _ =>rfl
   generalize a.eval = ev at *;simp [execOp,go_sem,ec,e28]
  ·cases ho;have e29:=(hag.val_ (j:=2) (t:=29) rfl (hdep ⟨2,.data⟩ qG0 rfl)).trans (hS.v2 (hdep ⟨2,.data⟩ qG0 rfl));have hmk:=HMI.out Z;refine a0F (i:=3) (r:=.slice (some ⟨Z.heap.size,0,none⟩) g.length g.length) (w':=Z.alloc (.cells (ints g.length (fun _ =>0)) 3)) rfl rfl (fun c h =>by cases h) rfl ?_ (hK2 _ _ (hS.do3 hdn));generalize a.eval = ev at *;simp [execOp,go_sem,e29,hmk]
  ·cases ho;have e0:a.eval (.tmp 0) = .slice A g.length c:=hag.keep 0 rfl;refine a0F (i:=4) (r:=.slice A g.length c) (w':=Z) rfl rfl (fun c h =>by cases h) rfl ?_ (hK2 _ _ (hS.do_ 4 rfl rfl));have ec:∀ v,a.eval (.const v) = v:=fun _ =>rfl
   generalize a.eval = ev at *;simp [execOp,go_sem,ec,e0]
  ·cases ho;have e31:=(hag.val_ (j:=4) (t:=31) rfl (hdep ⟨4,.data⟩ qG0 rfl)).trans (hS.v4 (hdep ⟨4,.data⟩ qG0 rfl));refine a0F (i:=5) (r:=.int .i64 (g.length:Nat)) (w':=Z) rfl rfl (fun c h =>by cases h) rfl ?_ (hK2 _ _ (hS.do_ 5 rfl rfl));have ec:∀ v,a.eval (.const v) = v:=fun _ =>rfl
   generalize a.eval = ev at *;simp [execOp,go_sem,ec,e31]
  ·cases ho;have e32:=(hag.val_ (j:=5) (t:=32) rfl (hdep ⟨5,.data⟩ qG0 rfl)).trans (hS.v5 (hdep ⟨5,.data⟩ qG0 rfl));have hmk:=HMI.out Z;refine a0F (i:=6) (r:=.slice (some ⟨Z.heap.size,0,none⟩) g.length g.length) (w':=Z.alloc (.cells (ints g.length (fun _ =>0)) 3)) rfl rfl (fun c h =>by cases h) rfl ?_ (hK2 _ _ (hS.do6 hdn));generalize a.eval = ev at *;simp [execOp,go_sem,e32,hmk]
  ·cases ho;have e0:a.eval (.tmp 0) = .slice A g.length c:=hag.keep 0 rfl;refine a0F (i:=7) (r:=.slice A g.length c) (w':=Z) rfl rfl (fun c h =>by cases h) rfl ?_ (hK2 _ _ (hS.do_ 7 rfl rfl));have ec:∀ v,a.eval (.const v) = v:=fun _ =>rfl
   generalize a.eval = ev at *;simp [execOp,go_sem,ec,e0]
  ·cases ho;have e34:=(hag.val_ (j:=7) (t:=34) rfl (hdep ⟨7,.data⟩ qG0 rfl)).trans (hS.v7 (hdep ⟨7,.data⟩ qG0 rfl));refine a0F (i:=8) (r:=.int .i64 (g.length:Nat)) (w':=Z) rfl rfl (fun c h =>by cases h) rfl ?_ (hK2 _ _ (hS.do_ 8 rfl rfl));have ec:∀ v,a.eval (.const v) = v:=fun _ =>rfl
   generalize a.eval = ev at *;simp [execOp,go_sem,ec,e34]
  ·cases ho;have e35:=(hag.val_ (j:=8) (t:=35) rfl (hdep ⟨8,.data⟩ qG0 rfl)).trans (hS.v8 (hdep ⟨8,.data⟩ qG0 rfl));have hmk:=HMB.out Z;refine a0F (i:=9) (r:=.slice (some ⟨Z.heap.size,0,none⟩) g.length g.length) (w':=Z.alloc (.cells (bls g.length (fun _ =>false)) 4)) rfl rfl (fun c h =>by cases h) rfl ?_ (hK2 _ _ (hS.do9 hdn));generalize a.eval = ev at *;simp [execOp,go_sem,e35,hmk]
  ·cases ho;have e27:=(hag.val_ (j:=0) (t:=27) rfl (hdep ⟨0,.data⟩ qG0 rfl)).trans (hS.v0 (hdep ⟨0,.data⟩ qG0 rfl));have e30:=hag.val_ (j:=3) (t:=30) rfl (hdep ⟨3,.data⟩ qG0 rfl);have e33:=hag.val_ (j:=6) (t:=33) rfl (hdep ⟨6,.data⟩ qG0 rfl);have e36:=hag.val_ (j:=9) (t:=36) rfl (hdep ⟨9,.data⟩ qG0 rfl);obtain ⟨⟨p3,hs3,_⟩,⟨p6,hs6,_⟩,⟨p9,hs9,_⟩⟩:=zH3 (hS.s3 (hdep ⟨3,.data⟩ qG0 rfl)) (zH3 (hS.s6 (hdep ⟨6,.data⟩ qG0 rfl)) (hS.s9 (hdep ⟨9,.data⟩ qG0 rfl)));rw [hs3] at e30;rw [hs6] at e33;rw [hs9] at e36;refine a0F (i:=10) (r:=.agg #[.slice A g.length c,.slice (some ⟨p3,0,none⟩) g.length g.length,.slice (some ⟨p6,0,none⟩) g.length g.length,.slice none 0 0,.slice (some ⟨p9,0,none⟩) g.length g.length,.int .i64 0,.slice none 0 0]) (w':=Z) rfl rfl (fun c h =>by cases h) rfl ?_ (hK2 _ _ (hS.do10 hdn hs3 hs6 hs9 (hdep ⟨3,.data⟩ qG0 rfl) (hdep ⟨6,.data⟩ qG0 rfl) (hdep ⟨9,.data⟩ qG0 rfl)));generalize a.eval = ev at *;simp [execOp,go_sem,e27,e30,e33,e36]
  ·cases ho;have e37:=hag.val_ (j:=10) (t:=37) rfl (hdep ⟨10,.data⟩ qG0 rfl);obtain ⟨p3,p6,p9,hs10⟩:=hS.s10 (hdep ⟨10,.data⟩ qG0 rfl);rw [hs10.1] at e37;unfold fin0 at e37;refine a0F (i:=11) (r:=.pointer (some ⟨Z.heap.size,0,none⟩)) (w':=Z.alloc (.cells #[.slice A g.length c,.slice (some ⟨p3,0,none⟩) g.length g.length,.slice (some ⟨p6,0,none⟩) g.length g.length,.slice none 0 0,.slice (some ⟨p9,0,none⟩) g.length g.length,.int .i64 0,.slice none 0 0] 83)) rfl rfl (fun c h =>by cases h) rfl ?_ (hK2 _ _ (hS.do11 hdn (hdep ⟨10,.data⟩ qG0 rfl) hs10.2.1 hs10.2.2.1 hs10.2.2.2));generalize a.eval = ev at *;simp [execOp,go_sem,e37]
  ·cases ho;have e38:=hag.val_ (j:=11) (t:=38) rfl (hdep ⟨11,.data⟩ qG0 rfl);obtain ⟨F,p3,p6,p9,hs11⟩:=hS.s11 (hdep ⟨11,.data⟩ qG0 rfl);rw [hs11.1] at e38;refine a0F (i:=12) (r:=.pointer (some ⟨F,0,none⟩)) (w':=Z) rfl rfl (fun c h =>by cases h) rfl ?_ (hK2 _ _ (hS.do12 hdn (hdep ⟨11,.data⟩ qG0 rfl) hs11.1));generalize a.eval = ev at *;simp [execOp,go_sem,e38]
 case en3 =>
  intro Z done val hdn hS;simp only [putTmps,dstOf,zV1,zT0,zN1,Nat.reduceAdd,zB2,zK1,zT1,zK0,zN0,zX0,zY0];obtain ⟨F,b1,b2,b4,e12,fs0⟩:=hS.fs (hdn 12 qF0) HGF.out;rw [e12];have HOL:=zA0 (OL.start fs0 hS.be hS.be.size);obtain ⟨B,hB⟩:∃ B,W1.heap.size = B:=⟨_,rfl⟩;rw [hB] at HOL;have HBS:=zA0 hB;clear hS hdn fs0 e12 hB HMI HMB;go_wp2;go_loopg [41] g.length (fun kq v41 w' =>∃ (n:Nat) (s:St) (vs vk:Value),n + kq = g.length∧v41 = .int .i64 (n:Nat)∧Hid (OL B F b1 b2 b4 A c g W1 n s vs vk w'))
  case atStart =>exact ⟨0,_,_,_,by omega,rfl,HOL⟩
  case round =>
   obtain ⟨n,s,vs,vk,hn',rfl,HL⟩:=hrel;clear HOL;have ck:=HL.out.fs.cf;by_cases hn:n < g.length
   ·have hn0:(0:Int)≤(n:Int):=zI0 n;have cn:=HL.out.fs.cn hn;have hw:=pzS n qD0;obtain ⟨k1,rfl⟩:∃ k1,gk = k1 + 1:=⟨gk - 1,by omega⟩;by_cases hi0:s.index n = 0
    ·have hib:((s.index n:Int) == 0) = true:=by rw [hi0];rfl
     have hcall:=c0E g GO.out A c B F b1 b2 b4 g.length s [] n vs vk wr HL.out.fs HL.out.inv HL.out.ct HL.out.tt hi0 hn (fun _ h =>by cases h) (a7N _ _) HL.out.bz;have HCALL:=zA0 hcall;have HI0:=zA0 hi0;clear hcall hi0
     go_wp2_with (first
      | (go_at_call 49;(with_reducible refine HCALL.out.mono ?_;rintro z w2 ⟨rfl,⟨vs3,vk3,hfs3⟩,hbe3⟩;have HFS3:=zA0 hfs3;have HBE3:=zA0 hbe3;clear hfs3 hbe3 ck cn)))
     go_roundg k1
     case measure =>exact zS0 _
     case rel =>
      refine ⟨n + 1,_,vs3,vk3,by rw [zZ0,zM1 1];exact hn',by first | rw [hw] | simp [hw],zA0 ⟨?_,?_,?_,?_,HFS3.out,HL.out.be.trans HBE3.out,zH0 HL.out.bz HBE3.out.size⟩⟩
      ·rw [b1Y,← HL.out.is,if_pos HI0.out]
      ·obtain ⟨e,p⟩:=b2S GO.out.adj g.length s [] n HL.out.inv HI0.out hn (fun _ h =>by cases h) (a7N _ _);exact p.inv
      ·rw [(b0M GO.out.adj g.length n s hn HI0.out).1];exact HL.out.ct
      ·exact (b0M GO.out.adj g.length n s hn HI0.out).2 HL.out.tt
    ·have hib:((s.index n:Int) == 0) = false:=by simpa using hi0
     have HI0:=zA0 hi0;clear hi0;go_wp2;clear ck cn;go_roundg k1
     case measure =>exact zS0 _
     case rel =>exact ⟨n + 1,s,vs,vk,by rw [zZ0,zM1 1];exact hn',by first | rw [hw] | simp [hw],zA0 ⟨by rw [b1Y,← HL.out.is,if_neg HI0.out],HL.out.inv,HL.out.ct,HL.out.tt,HL.out.fs,HL.out.be,HL.out.bz⟩⟩
   ·have hne:n = g.length:=by omega
    subst hne;have hkl:=b7Y HL.out.inv HL.out.tt HL.out.ct;obtain ⟨Ak,cK,ek⟩:=Kd.a4D HL.out.fs.kn;obtain ⟨K,hK⟩:∃ K,K = s.knots.length:=⟨_,rfl⟩;have hKm:(s.knots.map toI).length = K:=by rw [zO1,hK]
    rw [hKm] at ek;subst ek;obtain ⟨bof,hbof⟩:∃ b,wr.heap.size = b:=⟨_,rfl⟩;obtain ⟨W4,hW4⟩:∃ W4,wr.alloc (.cells (ints g.length (fun _ =>0)) 3) = W4:=⟨_,rfl⟩;obtain ⟨bl,hbl⟩:∃ b,W4.heap.size = b:=⟨_,rfl⟩;obtain ⟨W5,hW5⟩:∃ W5,W4.alloc (.cells (ints K (fun _ =>0)) 3) = W5:=⟨_,rfl⟩;have hmi1:=makeI g.length hgl wr;have hmi2:=makeI K qD0 W4;rw [hbof,hW4] at hmi1;rw [hbl,hW5] at hmi2;have hkc:K≤cK:=by
     obtain ⟨_,h2,_⟩:=Kd.a2U HL.out.fs.kn;exact h2
    have hkF:Kd.F kL wr (fun k =>k < wr.heap.size) Ak s.knots.length (s.knots.map toI):=by
     have h1:=Kd.N_F (Kd.a8C HL.out.fs.kn);rw [hK] at h1;exact Kd.a2X h1 (fun k hk =>hk.2)
    have hba:Below bof wr W5:=by
     rw [← hW5,← hW4,← hbof];exact a0B (a0B (zJ0 _ _) _) _
    have hkm:KM B bof bof bl g.length K s.knots (.slice Ak K cK) (ofAt s.knots 0) (lowAt s.knots 0) W1 W5:=by
     have hlt:wr.heap.size < W4.heap.size:=by rw [← hW4];exact a1K (World.alloc_heap_new wr _)
     rw [hbof,hbl] at hlt;have hz:=HL.out.bz;rw [hbof] at hkF hz;refine ⟨Kd.a1U hkF (by rw [hbof];exact hba),?_,?_,HL.out.be.trans (hba.mono hz),⟨zG0 _,zY1 hlt,hz⟩,Nat.ne_of_lt hlt⟩
     ·rw [← hW5,← hW4,← hbof];exact a0K (World.alloc_heap_new wr _) _
     ·have:lowAt s.knots 0 = fun _ =>0:=by funext x;simp [lowAt]
      rw [this,← hW5,← hbl];exact World.alloc_heap_new _ _
    have HKM:=zA0 hkm;have HBA:=zA0 hba;have HKL:=zA0 hkl;have HKK:=zA0 hK;have hFb:F < bof:=by rw [← hbof];exact a1K HL.out.fs.f
    have HFB:=zA0 hFb;clear hkm hkF hkl hK hKm hba hFb;go_upto_region 11 with (fail)
    have fs4:=HL.out.fs.below (show Below wr.heap.size wr W4 from by rw [← hW4];exact a0B (zJ0 wr.heap.size wr) _);clear ck;have ck:=fs4.cf;go_upto_region 12 with (fail)
    have fs5:=HL.out.fs.below (show Below wr.heap.size wr W5 from by rw [hbof];exact HBA.out);clear ck hmi1 hmi2 fs4;have ck:=fs5.cf;obtain ⟨Wa,hWa⟩:∃ W,W = wr:=⟨_,rfl⟩;have HWA:=zA0 hWa;rw [← hWa] at HBA;have HFS:=zA0 (show FS B F b1 b2 b4 A c g s vs (.slice Ak K cK) Wa from by rw [hWa];exact HL.out.fs);have HIS:=zA0 HL.out.is;have HIV:=zA0 HL.out.inv;have HBZ:=zA0 (show bof = Wa.heap.size from by rw [hWa];exact hbof.symm);clear fs5 hWa hbof hbl hW4 hW5 HL;go_wp2;clear ck;go_loopg [70] K (fun kq v70 w' =>∃ (k:Nat),k + kq = K∧v70 = .int .i64 (k:Nat)∧Hid (Below bof Wa w')∧Hid (KM B bof bof bl g.length K s.knots (.slice Ak K cK) (ofAt s.knots k) (lowAt s.knots k) W1 w'))
    case atStart =>exact ⟨0,by omega,rfl,HBA,HKM⟩
    case round =>
     obtain ⟨k,hk',rfl,HBW,HQ⟩:=hrel;clear HKM HBA;by_cases hk:k < K
     ·obtain ⟨ad,A0,c0,eA,hrow,hle,hF0⟩:=rowA HQ.out.kn k (by rw [← HKK.out];exact hk);have eA':Ak = some ad:=eA;subst eA';obtain ⟨l,hl⟩:∃ l,l = s.knots.getD k []:=⟨_,rfl⟩;have hml:(s.knots.map toI).getD k [] = toI l:=by
       rw [hl,zF0,zF0,List.getElem?_map,zE0 (by rw [← HKK.out];exact hk)];rfl
      rw [hml,a1P] at hrow hle hF0;have hlm:l ∈ s.knots:=by
       rw [hl,zF0,zE0 (by rw [← HKK.out];exact hk)];exact zD1 _
      have hlp:0 < l.length:=List.length_pos_iff.2 (HIV.out.kcl l hlm).1;have hln:∀ x,x ∈ l→x < g.length:=fun x hx =>HIV.out.vlt x ((HIV.out.kmem x).1 ⟨l,hlm,hx⟩).1
      have HLN:=zA0 hln;have HLL:=zA0 hl;have HF0:=zA0 hF0;obtain ⟨ad0,eA0,hz0⟩:=Kd.a1Q (Kd.a5K HF0.out) 0 (Int.le_refl 0) qD0;subst eA0;obtain ⟨x0,hx0⟩:∃ x,x = l.getD 0 0:=⟨_,rfl⟩;have hz1:wr.cell? (ad0.add 0) = some (.int .i64 (x0:Nat)):=by
       rw [show (0:Nat) = (0:Int).toNat from rfl,hz0];unfold rd;rw [show (0:Int).toNat = 0 from rfl,a7A _ _ hlp,hx0,zF0,zE0 hlp];rfl
      have hz2:wr.cell? ad0 = some (.int .i64 (x0:Nat)):=by
       have e:ad0.add 0 = ad0:=by unfold Addr.add;simp
       rwa [e] at hz1
      have zl:=a0O HQ.out.lo k;have zlf:=a0Q HQ.out.lo k;rw [a3B _ hk] at zl;have hw:=pzS k (by have:=HKL.out;have:=HKK.out;omega);have hk0:(0:Int)≤(k:Int):=zI0 k;obtain ⟨k1,rfl⟩:∃ k1,gk = k1 + 1:=⟨gk - 1,by omega⟩;have HX0:=zA0 hx0;clear hl hml hlm hln hF0 hz0 hx0;go_upto_region 16 with (fail)
      have hq1:=HQ.out.setLo k x0;have hlow:Tarj.upd (lowAt s.knots k) k x0 = lowAt s.knots (k + 1):=by rw [b9I,HX0.out,HLL.out]
      rw [hlow] at hq1;have hge:=HQ.out.ge;have hF6:Kd.F kI (wr.setCell ⟨bl,k,none⟩ (.int .i64 (x0:Nat))) (fun q =>q < bof) (some ad0) l.length (toI l):=Kd.a9U (p:=⟨bl,k,none⟩) HF0.out (fun q hq e =>by (have e':q = bl:=e);omega) _;have HF6:=zA0 hF6;have HBW6:=zA0 (HBW.out.setCell (p:=⟨bl,k,none⟩) hge.2.1 (.int .i64 (x0:Nat)));have HQ1:=zA0 (show KM B bof bof bl g.length K s.knots (.slice (some ad) K cK) (ofRow k (l.take 0) (ofAt s.knots k)) (lowAt s.knots (k + 1)) W1 _ from by rw [zN2];exact hq1);clear hq1 hlow hz1 hz2 zl zlf hrow hF6 hge HQ HF0 HBW;generalize wr.setCell ⟨bl,k,none⟩ (.int .i64 (x0:Nat)) = W6 at HQ1 HF6 HBW6 ⊢;go_wp2;go_loopg [83] l.length (fun kq v83 w' =>∃ (j:Nat),j + kq = l.length∧v83 = .int .i64 (j:Nat)∧Hid (Below bof Wa w')∧Hid (Kd.F kI w' (fun q =>q < bof) (some ad0) l.length (toI l))∧Hid (KM B bof bof bl g.length K s.knots (.slice (some ad) K cK) (ofRow k (l.take j) (ofAt s.knots k)) (lowAt s.knots (k + 1)) W1 w'))
      case atStart =>exact ⟨0,by omega,rfl,HBW6,HF6,HQ1⟩
      case round =>
       obtain ⟨j,hj,rfl,HBW7,HF7,HQ7⟩:=hrel;by_cases hlt:j < l.length
       ·obtain ⟨x,hx,hxn⟩:∃ x,x = l[j]∧x < g.length:=⟨_,rfl,HLN.out _ (zD1 hlt)⟩;obtain ⟨ad1,eA1,hz0⟩:=Kd.a1Q (Kd.a5K HF7.out) (j:Int) (zI0 j) (zS1.2 hlt);cases eA1;rw [zM0] at hz0;have hz1:wr.cell? (ad0.add j) = some (.int .i64 (x:Nat)):=by
         rw [hz0];unfold rd;rw [zM0,a7A _ _ hlt,hx]
        have zo:=a0O HQ7.out.of x;have zof:=a0Q HQ7.out.of x;rw [a3B _ hxn] at zo;have hx0:(0:Int)≤(x:Int):=zI0 x;have hlen:=(Kd.a5K HF7.out).2.1;have hwj:wrap64 ((j:Int) + 1) = ((j + 1:Nat):Int):=by simp only [wrap64];omega
        have hge:=HQ7.out.ge;have HF9:=zA0 (Kd.a9U (p:=⟨bof,x,none⟩) HF7.out (fun q hq e =>by (have e':q = bof:=e);omega) (.int .i64 (k:Nat)));have HBW9:=zA0 (HBW7.out.setCell (p:=⟨bof,x,none⟩) (zG0 _) (.int .i64 (k:Nat)));have hq9:=HQ7.out.setOf x k;rw [hx,← b9G k l j hlt,← hx] at hq9;have HQ9:=zA0 hq9;obtain ⟨k2,rfl⟩:∃ k2,gk = k2 + 1:=⟨gk - 1,by omega⟩;have HJ:=zA0 hj;clear hz0 hq9 hge hx hlen HF7 HQ7 HBW7 HX0 HF6 HQ1 HBW6 hk' hj;go_wp2;go_roundg k2
        case measure =>exact zS0 _
        case rel =>exact ⟨j + 1,by rw [zZ0,zM1 1];exact HJ.out,by first | rw [hwj] | simp [hwj],HBW9,HF9,HQ9⟩
       ·have hje:j = l.length:=by omega
        have hq9:=HQ7.out;rw [hje,zH1,HLL.out,← b5H] at hq9;have HQ9:=zA0 hq9;clear hq9 hje;go_wp2;go_roundg k1
        case measure =>exact zS0 _
        case rel =>exact ⟨k + 1,by rw [zZ0,zM1 1];exact hk',by first | rw [hw] | simp [hw],HBW7,HQ9⟩
     ·have hke:K = k:=by omega
      subst hke;have hKN:K≤1000:=by have:=HKL.out;have:=HKK.out;omega
      have hfs8:=HFS.out.below (show Below Wa.heap.size Wa wr from by rw [← HBZ.out];exact HBW.out);have ck:=hfs8.cf;obtain ⟨cls,hcls⟩:∃ f,f = ofAt s.knots K:=⟨_,rfl⟩;obtain ⟨lw,hlw⟩:∃ f,f = lowAt s.knots K:=⟨_,rfl⟩;have hks:s.knots = knotsF (adjF g) g.length:=by rw [HIS.out];rfl
      have hKH:=kh_ok GO.out.adj hks HKK.out;have hq8:=HQ.out;rw [← hcls,← hlw] at hKH hq8;have hge8:=hq8.ge;have hg8:Kd.F kL wr (fun q =>q < wr.heap.size) A g.length g:=Kd.a2X hfs8.gF (fun q hq =>by have:=a1K hq8.of;omega);have hfold:=b8E g GO.out A c bof K cls wr hg8 hq8.of hKN hKH.cl hlc;rw [show (fun i =>cmpN (rowsAt cls (adjF g) g.length i)) = rowK (adjF g) g.length cls from rfl] at hfold;have HFOLD:=zA0 hfold;have HKH:=zA0 hKH;have HQ8:=zA0 hq8;have hlwof:=zA0 (zH3 hq8.of hq8.lo);clear hfold hg8 hq8 hKH hks hfs8 hcls hlw HQ HIS HIV HFS hge8
      go_upto_region 23 with (first
       | (go_at_call 50;(with_reducible refine HFOLD.out.mono ?_;rintro z w8 ⟨bo,rfl,⟨v8,hfd8⟩,hbe8⟩;have HFD8:=zA0 hfd8;have HBE8:=zA0 hbe8;clear hfd8 hbe8)))
      clear ck;have hmay8:=b4S (K:=K) HKH.out.hN HKH.out.cl hKN;obtain ⟨kT,hkT⟩:=gturn_ev _ (a4C hmay8).sm;have hturn:=graph_Turn.calls kT (some ⟨bo,0,none⟩) K (rowsK (adjF g) g.length cls K) _ w8 (by rw [a5Q];exact HFD8.out.reads hKN) (by rw [a5Q];exact zG0 _) (hkT kT (zG0 _));rw [a5Q,turnK_eq HKH.out.hN HKH.out.cl hKN] at hturn;have HTURN:=zA0 hturn;clear hturn hkT hmay8
      go_upto_region 24 with (first
       | (go_at_call 51;(with_reducible refine HTURN.out.mono ?_;rintro z w9 ⟨v9,rfl,hs9,hbe9⟩;have HS9:=zA0 hs9;have HBE9:=zA0 hbe9;clear hs9 hbe9)))
      have hs9l:((List.range K).map fun k =>toI (turnK (adjF g) g.length cls K k)).length = K:=by simp
      obtain ⟨At,cT,et⟩:=Kd.a4D (Kd.S_N HS9.out);rw [hs9l] at et;subst et;have hcT:K≤cT:=by
       obtain ⟨_,h2,_⟩:=Kd.a2U (Kd.S_N HS9.out);exact h2
      have htF:Kd.F kL w9 (fun q =>q < w9.heap.size) At K ((List.range K).map fun k =>toI (turnK (adjF g) g.length cls K k)):=by
       have h1:=Kd.N_F (Kd.a8C (Kd.S_N HS9.out));exact Kd.a2X h1 (fun q hq =>hq.2)
      obtain ⟨blf,hblf⟩:∃ b,w9.heap.size = b:=⟨_,rfl⟩;obtain ⟨w10,hw10⟩:∃ w,w9.alloc (.cells (ints K (fun _ =>0)) 3) = w:=⟨_,rfl⟩;have hmi3:=makeI K hKN w9;rw [hblf,hw10] at hmi3;have hlf10:w10.heap[blf]? = some (.cells (ints K (fun _ =>0)) 3 (0,0)):=by rw [← hw10,← hblf];exact World.alloc_heap_new _ _
      have hbe10:Below w9.heap.size w9 w10:=by rw [← hw10];exact a0B (zJ0 _ _) _
      have HTF:=zA0 htF;have HBE10:=zA0 hbe10;have HLF10:=zA0 hlf10;have HBLF:=zA0 hblf;clear htF hbe10 hlf10 hblf hw10 hs9l;go_upto_region 25 with (fail)
      clear hmi3;go_upto_region 26 with (fail)
      obtain ⟨r,hr⟩:∃ r,r = rowK (adjF g) g.length cls:=⟨_,rfl⟩;obtain ⟨tn,htn⟩:∃ t,t = turnK (adjF g) g.length cls K:=⟨_,rfl⟩;have hkh:=HKH.out;have hfd:=HFD8.out;have htf:=HTF.out;rw [← hr,← htn] at hkh;rw [← hr] at hfd;rw [← htn] at htf;have hz1:=HBE8.out.size;have hz2:=HBE9.out.size;have hbfl:=a1K HQ8.out.of;have hbll:=a1K HQ8.out.lo;have hge:=HQ8.out.ge;have hbl:=HBLF.out;have hb810:Below w8.heap.size w8 w10:=HBE9.out.trans (HBE10.out.mono hz2);have hbr10:Below wr.heap.size wr w10:=HBE8.out.trans (hb810.mono hz1);have hps:=PS.start (a0U HQ8.out.lo hbr10) HLF10.out (HQ8.out.be.trans (hbr10.mono qD0)) (show B≤blf by omega) (show bl≠blf by omega);obtain ⟨R,hR⟩:∃ R,w10.heap.size = R:=⟨_,rfl⟩;obtain ⟨Wr,hWr⟩:∃ w,w10.alloc (.cells #[.slice none 0 0,.slice (some ⟨bl,0,none⟩) K K] 88) = w:=⟨_,rfl⟩;have hbrr:Below w10.heap.size w10 Wr:=by rw [← hWr];exact a0B (zJ0 _ _) _
      rw [hR,hWr,← lfA_zero r] at hps;rw [hR,hWr];have hbo:Wr.heap[bo]? = some (.cells (vals K v8) 43 (0,0)):=a0U (a0U hfd.o hb810) hbrr;have hbol:bo < blf:=zF1 (a1K hfd.o) qD0;have hbofr:Wr.heap[bof]? = some (.cells (ints g.length cls) 3 (0,0)):=a0U (a0U HQ8.out.of hbr10) hbrr;have hv8:∀ i,i < K→∃ A c,v8 i = .slice A (r i).length c:=fun i hi =>by
       obtain ⟨A,c,e⟩:=Kd.a1V (hfd.r i hi);rw [a1P] at e;exact ⟨A,c,e⟩
      have htr:Kd.F kL Wr (fun q =>q < blf) At K ((List.range K).map fun k =>toI (tn k)):=by
       rw [hbl] at htf;exact Kd.a5W htf (fun k hk hlt =>(hbrr.block k (by have:=HBE10.out.size;omega)).trans (HBE10.out.block k hlt))
      have HKH2:=zA0 hkh;have HPS0:=zA0 hps;have HBO:=zA0 (zH3 hbo hbol);have HBOF:=zA0 (zH3 hbofr (show bof < blf by omega));have HV8:=zA0 hv8;have HTR:=zA0 htr;have HBB:=zA0 (show W.heap.size≤bof by have:=HBS.out;have:=HB1.out.size;omega);have HBG:=zA0 (show B≤bof by omega);have HBG2:=zA0 (show W.heap.size≤B by have:=HBS.out;have:=HB1.out.size;omega);clear hkh hfd htf hz1 hz2 hbfl hbll hge hbl hb810 hbr10 hps hbrr hbo hbol hbofr hv8 htr hr htn hR hWr HKH HFD8 HTF HBE8 HBE9 HBE10 HLF10 HBLF HS9 HTURN HFOLD HQ8 hlwof HBW;clear HKK HKL HWA HBZ HFB;go_wp2;go_loopg [111] K (fun kq v111 w' =>∃ (i:Nat) (v:Value) (l:List Nat),i + kq = K∧v111 = .int .i64 (i:Nat)∧Hid (PS B R bl blf K lw v l (lfA r i) W1 Wr w')∧Hid ((∀ k,k ∈ l ↔ k < i∧(r k).length = 0)∧l.Nodup))
      case atStart =>exact ⟨0,_,[],by omega,rfl,HPS0,zA0 ⟨fun k =>⟨fun h =>(by cases h),fun h =>absurd h.1 (zS2 _)⟩,List.nodup_nil⟩⟩
      case round =>
       obtain ⟨i,v,l,hi',rfl,HPS,HLM⟩:=hrel;clear HPS0;by_cases hi:i < K
       ·obtain ⟨A0,c0,e0⟩:=HV8.out i hi;have hzo:wr.heap[bo]? = some (.cells (vals K v8) 43 (0,0)):=(HPS.out.fz bo (by have:=HPS.out.bb;have:=HBO.out.2;omega) (by have:=HBO.out.2;omega)).trans HBO.out.1;have zr:wr.cell? ⟨bo,i,none⟩ = some (.slice A0 (r i).length c0):=by rw [← e0];exact (a0O hzo i).trans (a7O _ hi)
        have zl:wr.cell? ⟨blf,i,none⟩ = some (.int .i64 (lfA r i i:Nat)):=(a0O HPS.out.lf i).trans (a3B _ hi);have zlf:=a0Q HPS.out.lf i;have hw:=pzS i qD0;have hi0:(0:Int)≤(i:Int):=zI0 i;obtain ⟨k1,rfl⟩:∃ k1,gk = k1 + 1:=⟨gk - 1,by omega⟩;clear hzo e0;go_upto_region 30 with (fail)
        have hps6:=HPS.out.setLeft i (r i).length;rw [lfA_succ] at hps6;have HPS6:=zA0 hps6;clear hps6 zr zl zlf;generalize wr.setCell ⟨blf,i,none⟩ (.int .i64 ((r i).length:Nat)) = W6 at HPS6 ⊢;have zl:W6.cell? ⟨blf,i,none⟩ = some (.int .i64 (lfA r (i + 1) i:Nat)):=(a0O HPS6.out.lf i).trans (a3B _ hi);rw [show lfA r (i + 1) i = (r i).length from by unfold lfA;rw [if_pos (zS0 i)]] at zl;by_cases h0:(r i).length = 0
        ·have hib:(((r i).length:Int) == 0) = true:=by rw [h0];rfl
         have hll:l.length≤i:=b0A HLM.out.2 (fun x hx =>((HLM.out.1 x).1 hx).1);have hpush:=b5N HPS6.out.rs HPS6.out.hp i hi qD0 HPS6.out.hz;have HPUSH:=zA0 hpush;have H0:=zA0 h0;clear hpush hll h0
         go_wp2_with (first
          | (go_at_call 52;(with_reducible refine HPUSH.out.mono ?_;rintro z w7 ⟨rfl,v7,l7,hrs7,hpm7,hhp7,hht7⟩;have HRS7:=zA0 hrs7;have HPM7:=zA0 hpm7;have HHP7:=zA0 hhp7;have HHT7:=zA0 hht7;clear hrs7 hpm7 hhp7 hht7 zl)))
         go_roundg k1
         case measure =>exact zS0 _
         case rel =>
          refine ⟨i + 1,v7,l7,by rw [zZ0,zM1 1];exact hi',by first | rw [hw] | simp [hw],zA0 (HPS6.out.ht HRS7.out HHP7.out HHT7.out),zA0 ⟨fun k =>?_,?_⟩⟩
          ·rw [HPM7.out.mem_iff,zU0,zC1,HLM.out.1 k];constructor
           ·rintro (q | rfl)
            ·exact ⟨by omega,q.2⟩
            ·exact ⟨zS0 _,H0.out⟩
           ·rintro ⟨q1,q2⟩;by_cases e:k = i
            ·exact .inr e
            ·exact .inl ⟨by omega,q2⟩
          ·refine HPM7.out.nodup_iff.2 (List.nodup_append.2 ⟨HLM.out.2,by simp,fun a ha b hb e =>?_⟩);rw [zC1.1 hb] at e;have:=((HLM.out.1 a).1 ha).1;omega
        ·have hib:(((r i).length:Int) == 0) = false:=by simpa using h0
         have H0:=zA0 h0;clear h0;go_wp2;go_roundg k1
         case measure =>exact zS0 _
         case rel =>
          refine ⟨i + 1,v,l,by rw [zZ0,zM1 1];exact hi',by first | rw [hw] | simp [hw],HPS6,zA0 ⟨fun k =>?_,HLM.out.2⟩⟩;rw [HLM.out.1 k];exact ⟨fun q =>⟨by omega,q.2⟩,fun q =>⟨by (by_cases e:k = i;· exact absurd (e ▸ q.2) H0.out);omega,q.2⟩⟩
       ·have hie:K = i:=by omega
        subst hie;have hki:=KI.start (l:=l) HKH2.out (left:=lfA r K) (fun k hk =>by unfold lfA;rw [if_pos hk]) HLM.out.1 HLM.out.2;have hnm:=NM.start HPS.out;have hps2:=HPS.out.below (a0B (zJ0 wr.heap.size wr) (.cells (ints K (fun _ =>0)) 3));have hmi4:=makeI K hKN wr;obtain ⟨bn,hbn⟩:∃ b,wr.heap.size = b:=⟨_,rfl⟩;obtain ⟨w12,hw12⟩:∃ w,wr.alloc (.cells (ints K (fun _ =>0)) 3) = w:=⟨_,rfl⟩;rw [hbn,hw12] at hmi4 hnm;rw [hw12] at hps2;have HKI:=zA0 hki;have HNM:=zA0 hnm;have HPS2:=zA0 hps2;clear hki hnm hps2 hbn hw12 HPS HLM;go_upto_region 34 with (fail)
        clear hmi4;go_wp2;go_loopg [18] K (fun kq v18 w' =>∃ (n:Nat) (dn:Nat→Bool) (num left:Nat→Nat) (v:Value) (l:List Nat),n + kq = K∧v18 = .int .i64 (n:Nat)∧Hid (PS B R bl blf K lw v l left W1 Wr w')∧Hid (NM R bn K num v w')∧Hid (KI (adjF g) g.length K cls r n dn num left l))
        case atStart =>exact ⟨0,_,_,_,_,_,by omega,rfl,HPS2,HNM,HKI⟩
        case round =>
         obtain ⟨n,dn,num,left,v,l,hn2,rfl,HPS,HNM,HKI⟩:=hrel;clear HPS2;have hlen:=b6Q HPS.out.rs;have HLEN:=zA0 hlen;have hll:=b0A HKI.out.ln (fun x hx =>HKI.out.num_lt x hx);have hn0:(0:Int)≤(n:Int):=zI0 n;have hnK:=HKI.out.len;have hw:=pzS n qD0;clear hlen;by_cases hl0:0 < l.length
         ·have hgt:(l.length:Int) > 0:=by omega
          have hpop:=hpop_any HPS.out.rs HPS.out.hp hl0 HPS.out.hz;have HPOP:=zA0 hpop;have hta:=tAss;obtain ⟨k1,rfl⟩:∃ k1,gk = k1 + 1:=by
           cases l with
           | nil =>exact absurd hl0 (zX1 0)
           | cons y l' =>
            obtain ⟨q1,q2,_⟩:=(HKI.out.lm y).1 zP0;have h1:=HKI.out.ct;have h2:=nd_in (dn:=dn) q2 (List.nodup_range (n:=K)) (zW0.2 q1);exact ⟨gk - 1,by omega⟩
          clear hpop hl0 hll
          go_upto_region 38 with (first
           | (go_at_call 53;(with_reducible refine HLEN.out.mono ?_;rintro z w2 ⟨rfl,hw2⟩;obtain rfl:wr = w2:=hw2.symm))
           | (go_at_call 54;(with_reducible refine HPOP.out.mono ?_;rintro z w2 ⟨x,v2,l2,rfl,hrs2,hpm2,hhp2,hht2,hmin2⟩;have HRS2:=zA0 hrs2;have HPM2:=zA0 hpm2;have HHP2:=zA0 hhp2;have HHT2:=zA0 hht2;have HMIN2:=zA0 hmin2;clear hrs2 hpm2 hhp2 hht2 hmin2)))
          clear hta hgt;have hxl:x ∈ l:=HPM2.out.mem_iff.1 zP0;have hxK:=HKI.out.num_lt x hxl;have hps2:=HPS.out.ht HRS2.out HHP2.out HHT2.out;have hnm2:=HNM.out.ht (a1K HNM.out.nm) HHT2.out;have hx0:(0:Int)≤(x:Int):=zI0 x;have zn:w2.cell? ⟨bn,x,none⟩ = some (.int .i64 (num x:Nat)):=(a0O hnm2.nm x).trans (a3B _ hxK);have znf:=a0Q hnm2.nm x;have HPS3:=zA0 (hps2.setNum hnm2 x (.int .i64 (n:Nat)));have HNM3:=zA0 (hnm2.set x n);have HXL:=zA0 hxl;clear hps2 hnm2 HRS2 HHP2 HHT2 HPS HNM hxl;go_upto_region 39 with (fail)
          clear zn znf;generalize w2.setCell ⟨bn,x,none⟩ (.int .i64 (n:Nat)) = W3 at HPS3 HNM3 ⊢;obtain ⟨ad,A0,c0,eA,hrow,hle,hF0⟩:=rowA (HPS3.out.old HTR.out) x hxK;subst eA;obtain ⟨t,ht⟩:∃ t,t = tn x:=⟨_,rfl⟩;have hgt3:((List.range K).map fun k =>toI (tn k)).getD x [] = toI t:=by
           rw [ht,zF0,List.getElem?_map,List.getElem?_range hxK];rfl
          rw [hgt3,a1P] at hrow hle hF0;have HF0:=zA0 hF0;have HT:=zA0 ht;have htnd:t.Nodup:=by rw [ht];exact HKH2.out.tnn x hxK
          have HTND:=zA0 htnd;have htK:∀ m,m ∈ t→m < K∧dn m = false∧1≤left m∧m≠x∧m ∉ l:=fun m hm =>HKI.out.told HKH2.out HXL.out (by rw [← ht];exact hm)
          have HTK:=zA0 htK;have hl2n:l2.Nodup:=(List.nodup_cons.1 (HPM2.out.nodup_iff.2 HKI.out.ln)).2;have hl2l:∀ m,m ∈ t→m ∉ l2:=fun m hm q =>(htK m hm).2.2.2.2 (HPM2.out.mem_iff.1 (zQ0 _ q))
          have HL2L:=zA0 hl2l;have hlb:∀ m,m < K→left m≤1000:=fun m hm =>by
           rw [HKI.out.lf m hm];refine zH0 (zZ2 _ _) (zH0 (b0A (K:=K) (HKH2.out.rn m hm) (fun y hy =>?_)) hKN);obtain ⟨_,q,_,_,u,hu,e⟩:=(HKH2.out.rm m hm y).1 hy;exact e ▸ HKH2.out.cl u (HKH2.out.hN q qF1 u hu)
          have HLB:=zA0 hlb;have HKJ0:=zA0 (KJ.start t left hl2n);clear hgt3 hF0 ht htnd htK hl2n hl2l hlb;go_wp2;go_loopg [153] t.length (fun kq v153 w' =>∃ (j:Nat) (left1:Nat→Nat) (v1:Value) (l1:List Nat),j + kq = t.length∧v153 = .int .i64 (j:Nat)∧Hid (Kd.F kI w' (fun q =>q < blf) A0 t.length (toI t))∧Hid (PS B R bl blf K lw v1 l1 left1 W1 Wr w')∧Hid (NM R bn K (Tarj.upd num x n) v1 w')∧Hid (KJ t left l2 j left1 l1))
          case atStart =>exact ⟨0,_,_,_,by omega,rfl,HF0,HPS3,HNM3,HKJ0⟩
          case round =>
           obtain ⟨j,left1,v1,l1,hj,rfl,HF,HPS,HNM,HKJ⟩:=hrel;clear HPS3 HNM3 HKJ0 HF0;by_cases hlt:j < t.length
           ·obtain ⟨m,hm⟩:∃ m,m = t[j]:=⟨_,rfl⟩;have hmt:m ∈ t:=by rw [hm];exact zD1 hlt
            obtain ⟨hmK,hmd,hml,hmx,_⟩:=HTK.out m hmt;obtain ⟨ad1,eA1,hz0⟩:=Kd.a1Q (Kd.a5K HF.out) (j:Int) (zI0 j) (zS1.2 hlt);subst eA1;rw [zM0] at hz0;have hz1:wr.cell? (ad1.add j) = some (.int .i64 (m:Nat)):=by
             rw [hz0];unfold rd;rw [zM0,a7A _ _ hlt,hm]
            have hval:left1 m = left m:=by rw [hm];exact HKJ.out.val HTND.out hlt
            have hl1:1≤left1 m:=by rw [hval];exact hml
            have hlm:left1 m≤1000:=by rw [hval];exact HLB.out m hmK
            have zl:wr.cell? ⟨blf,m,none⟩ = some (.int .i64 (left1 m:Nat)):=(a0O HPS.out.lf m).trans (a3B _ hmK);have zlf:=a0Q HPS.out.lf m;have hm0:(0:Int)≤(m:Int):=zI0 m;have hlen:=(Kd.a5K HF.out).2.1;have hwj:wrap64 ((j:Int) + 1) = ((j + 1:Nat):Int):=by simp only [wrap64];omega
            have hws:wrap64 ((left1 m:Int) - 1) = ((left1 m - 1:Nat):Int):=by simp only [wrap64];omega
            have hml2:m ∉ l2:=HL2L.out m hmt;have HM:=zA0 hm;have HML2:=zA0 hml2;have HJ:=zA0 hj;obtain ⟨k2,rfl⟩:∃ k2,gk = k2 + 1:=⟨gk - 1,by omega⟩;clear hz0 hval hl1 hlm hlen hml hmd hmx hml2 hmt hm hj;go_upto_region 43 with (fail)
            have HPS5:=zA0 (HPS.out.setLeft m (left1 m - 1));have HNM5:=zA0 (HNM.out.setLeft HPS.out.bb.2.1 m (.int .i64 ((left1 m - 1:Nat))));have HF5:=zA0 (Kd.a9U (p:=⟨blf,m,none⟩) HF.out (fun q hq e =>by (have e':q = blf:=e);omega) (.int .i64 ((left1 m - 1:Nat))));clear zl zlf hws hz1;generalize wr.setCell ⟨blf,m,none⟩ (.int .i64 ((left1 m - 1:Nat))) = W5 at HPS5 HNM5 HF5 ⊢;have zl:W5.cell? ⟨blf,m,none⟩ = some (.int .i64 ((left1 m - 1:Nat):Int)):=by
             have:=(a0O HPS5.out.lf m).trans (a3B _ hmK);rw [Tarj.a3U] at this;exact this
            by_cases h0:left1 m - 1 = 0
            ·have hib:(((left1 m - 1:Nat):Int) == 0) = true:=by rw [h0];rfl
             have hml1:m ∉ l1:=by rw [HM.out];exact HKJ.out.new HTND.out hlt (by rw [← HM.out];exact HML2.out)
             have hcn:(m :: l1).length≤K:=b0A (List.nodup_cons.2 ⟨hml1,HKJ.out.ln⟩) (fun y hy =>(zO0.1 hy).elim (fun e =>e ▸ hmK) (fun q =>HPS.out.rs.mem y q));rw [zT0] at hcn;have hpush:=b5N HPS5.out.rs HPS5.out.hp m hmK qD0 HPS5.out.hz;have HPUSH:=zA0 hpush;have H0:=zA0 h0;clear hpush hcn hml1 h0
             go_wp2_with (first
              | (go_at_call 52;(with_reducible refine HPUSH.out.mono ?_;rintro z w7 ⟨rfl,v7,l7,hrs7,hpm7,hhp7,hht7⟩;have HRS7:=zA0 hrs7;have HPM7:=zA0 hpm7;have HHP7:=zA0 hhp7;have HHT7:=zA0 hht7;clear hrs7 hpm7 hhp7 hht7 zl)))
             go_roundg k2
             case measure =>exact zS0 _
             case rel =>
              refine ⟨j + 1,Tarj.upd left1 m (left1 m - 1),v7,l7,by rw [zZ0,zM1 1];exact HJ.out,by first | rw [hwj] | simp [hwj],zA0 (Kd.a5W HF5.out (fun q hq hlt2 =>HHT7.out.be.block q (by have:=HPS5.out.bb;omega))),zA0 (HPS5.out.ht HRS7.out HHP7.out HHT7.out),zA0 (HNM5.out.ht (a1K HNM5.out.nm) HHT7.out),zA0 ?_⟩;have hm:=HM.out;have:=HKJ.out.step HTND.out hlt (by rw [← hm];exact HML2.out) (l1:=l7) (by rw [← hm,if_pos H0.out];exact HPM7.out);rw [← hm] at this;exact this
            ·have hib:(((left1 m - 1:Nat):Int) == 0) = false:=by simpa using h0
             have H0:=zA0 h0;clear h0;go_wp2;go_roundg k2
             case measure =>exact zS0 _
             case rel =>
              refine ⟨j + 1,Tarj.upd left1 m (left1 m - 1),v1,l1,by rw [zZ0,zM1 1];exact HJ.out,by first | rw [hwj] | simp [hwj],HF5,HPS5,HNM5,zA0 ?_⟩;have hm:=HM.out;have:=HKJ.out.step HTND.out hlt (by rw [← hm];exact HML2.out) (l1:=l1) (by rw [← hm,if_neg H0.out]);rw [← hm] at this;exact this
           ·have hje:t.length = j:=by omega
            have hKI2:=HKI.out.next HKH2.out HPM2.out HMIN2.out (left1:=left1) (l1:=l1) (by rw [← HT.out,hje];exact HKJ.out);have HKI2:=zA0 hKI2;clear hKI2 hje;go_wp2;go_roundg k1
            case measure =>exact zS0 _
            case rel =>exact ⟨n + 1,_,_,left1,v1,l1,by rw [zZ0,zM1 1];exact hn2,by first | rw [hw] | simp [hw],HPS,HNM,HKI2⟩
         ·have hln:l = []:=List.eq_nil_of_length_eq_zero qD0;subst hln;have hNmb:=HKI.out.done HKH2.out;have HNMB:=zA0 hNmb;have hgt:¬ (((([]:List Nat).length:Nat):Int) > 0):=by simp
          have hbb:=HPS.out.bb;have hofr:=(HPS.out.fz bof (by have:=HBOF.out.2;omega) (by have:=HBOF.out.2;omega)).trans HBOF.out.1;rw [← c2J num cls] at hofr;have HFIN:=zA0 (show wr.heap[bof]? = some (.cells (ints g.length (mixF num cls 0)) 3 (0,0))∧wr.heap[bn]? = some (.cells (ints K num) 3 (0,0))∧Below B W1 wr from ⟨hofr,HNM.out.nm,HPS.out.be⟩);have HNE:=zA0 (show bof≠bn∧B≤bof from ⟨by have:=HBOF.out.2;have:=HNM.out.nb.1;omega,HBG.out⟩);clear hNmb hl0 hll hbb hofr HPS HNM HKI
          go_upto_region 46 with (first
           | (go_at_call 53;(with_reducible refine HLEN.out.mono ?_;rintro z w2 ⟨rfl,hw2⟩;obtain rfl:wr = w2:=hw2.symm)))
          go_wp2;go_loopg [176] g.length (fun kq v176 w' =>∃ (i:Nat),i + kq = g.length∧v176 = .int .i64 (i:Nat)∧Hid (w'.heap[bof]? = some (.cells (ints g.length (mixF num cls i)) 3 (0,0))∧w'.heap[bn]? = some (.cells (ints K num) 3 (0,0))∧Below B W1 w'))
          case atStart =>exact ⟨0,by omega,rfl,HFIN⟩
          case round =>
           obtain ⟨i,hi',rfl,HI⟩:=hrel;clear HFIN;by_cases hi:i < g.length
           ·have hcK:=HKH2.out.cl i hi;have zo:wr.cell? ⟨bof,i,none⟩ = some (.int .i64 (cls i:Nat)):=by
             have:=(a0O HI.out.1 i).trans (a3B _ hi);rw [mixF_at] at this;exact this
            have zof:=a0Q HI.out.1 i;have zn:wr.cell? ⟨bn,cls i,none⟩ = some (.int .i64 (num (cls i):Nat)):=(a0O HI.out.2.1 (cls i)).trans (a3B _ hcK);have hi0:(0:Int)≤(i:Int):=zI0 i;have hc0:(0:Int)≤(cls i:Int):=zI0 (cls i);have hwi:=pzS i qD0;obtain ⟨k1,rfl⟩:∃ k1,gk = k1 + 1:=⟨gk - 1,by omega⟩
            have HI2:=zA0 (show (wr.setCell ⟨bof,i,none⟩ (.int .i64 (num (cls i):Nat))).heap[bof]? = some (.cells (ints g.length (mixF num cls (i + 1))) 3 (0,0))∧(wr.setCell ⟨bof,i,none⟩ (.int .i64 (num (cls i):Nat))).heap[bn]? = some (.cells (ints K num) 3 (0,0))∧Below B W1 (wr.setCell ⟨bof,i,none⟩ (.int .i64 (num (cls i):Nat))) from
             ⟨by rw [← c2K];exact a3A HI.out.1 i _ (a6Q _ _ _ _),a2F HI.out.2.1 (Ne.symm HNE.out.1) _,HI.out.2.2.setCell (p:=⟨bof,i,none⟩) HNE.out.2 _⟩)
            clear HI;go_wp2;go_roundg k1
            case measure =>exact zS0 _
            case rel =>exact ⟨i + 1,by rw [zZ0,zM1 1];exact hi',by first | rw [hwi] | simp [hwi],HI2⟩
           ·have hie:g.length = i:=by omega
            go_wp2;go_ret;refine ⟨bof,n,_,rfl,HNMB.out,HBB.out,?_,HB1.out.trans (HI.out.2.2.mono HBG2.out)⟩;rw [HI.out.1]
            congr 2
            rw [← hie];unfold ints
            congr 1
            apply List.map_congr_left;intro q hq;rw [zW0] at hq;unfold mixF;rw [if_pos hq]
attribute [local go_sem] Oper.semAt_some a3W a3V a4R a4Q
set_option maxRecDepth 100000
theorem toL_ints (N:Nat) (num:Nat→Nat):(ints N num).toList = (toL N num).map (Value.int .i64):=by
 unfold ints toL;rw [List.map_map];rfl
theorem R_ints {W:World} {b base N:Nat} {num:Nat→Nat} (h:W.heap[b]? = some (.cells (ints N num) 3 (0,0))) (hb:base≤b) (hN:N≤1000):kI.R 3 W base (fun _ =>True) (.slice (some ⟨b,0,none⟩) N N) (toL N num):=by
 refine Kd.a3M ?_ (fun _ _ =>trivial);have hs:(ints N num).size = N:=by unfold ints;simp
 refine ⟨by show ((toL N num).map (Value.int .i64)).length = (toL N num).length * 1;simp,.inr ⟨b,N,ints N num,by rw [a6Z],hb,h,by rw [a6Z];exact zG0 _,zH0 hN qF0,by rw [hs];omega,?_⟩⟩;rw [a6Z,toL_ints,zQ2 (by simp [a6Z])]
 rfl
theorem FD.own {B bo M:Nat} {v:Nat→Value} {r:Nat→List Nat} {W:World} (h:FD B bo M v r W) (hM:M≤1000):Kd.S kL 43 W B (fun _ =>True) (.slice (some ⟨bo,0,none⟩) M M) ((List.range M).map fun i =>toI (r i)):=by
 classical
 let f:Nat→Nat:=fun k =>if q:∃ i,i < M∧(v i).ownBlock = some k then Classical.choose q else 0
 have hf:∀ i,i < M→∀ k,(v i).ownBlock = some k→f k = i:=fun i hi k hk =>by
  have q:∃ i,i < M∧(v i).ownBlock = some k:=⟨i,hi,hk⟩;have e:f k = Classical.choose q:=dif_pos q;obtain ⟨h1,h2⟩:=Classical.choose_spec q;rw [e];apply Classical.byContradiction;intro hne;exact h.d _ i h1 hi hne k h2 hk
 have hs:(vals M v).size = M:=by unfold vals;simp
 refine ⟨f,fun _ _ =>trivial,(List.range M).map v,⟨by show ((List.range M).map v).length = (((List.range M).map fun i =>toI (r i)).zipIdx).length * 1;simp,.inr ⟨bo,M,vals M v,by simp,h.b,h.o,by simp,zH0 hM qF0,by rw [hs];show M = M * 1;omega,?_⟩⟩,⟨by show ((List.range M).map v).length = (((List.range M).map fun i =>toI (r i)).zipIdx).length * 1;simp,fun j p hp =>?_⟩⟩
 ·unfold vals;show ((List.range M).map v).take _ = _;rw [zQ2 (by simp;show M≤M * 1;omega)]
 ·rw [List.getElem?_zipIdx] at hp;obtain ⟨x,hx,rfl⟩:=zE1.1 hp;obtain ⟨hj,rfl⟩:=List.getElem?_eq_some_iff.1 hx;have hj':j < M:=by simpa using hj
  simp only [List.getElem_map,List.getElem_range];refine ⟨v j,?_,?_⟩
  ·show (((List.range M).map v).drop (j * 1)).take 1 = [v j];rw [zB3,zD2 (by simpa using hj'),zE3,zN2];simp
  ·refine Kd.a6J rfl (h.r j hj') (fun k hk =>⟨⟨trivial,fun e =>?_⟩,by rw [hf j hj' k hk];simp⟩);have:k = bo:=by simpa [Value.ownBlock] using e
   exact (h.r j hj').1 k hk this
set_option maxRecDepth 100000 in
set_option maxHeartbeats 8000000 in
theorem of_no (k:Nat) (g:List (List Int)) (A:Option Addr) (c:Nat) (w:World) (hc:g.length≤c) (hC:kL.C w A g.length g) (hm:graph_May.f k g = some false) :
  Calls Tryz.prog 29 #[.slice A g.length c] w fun e w' =>e = .returned (.slice none 0 0)∧Below w.heap.size w w':=by
 have HM:=zA0 (graph_May.calls k A c g false w hC hc hm);clear hC;go_enter Tryz.func29,Tryz.ntmps29
 go_wp2_with (first
  | (go_at_call 28;(with_reducible refine HM.out.mono ?_;rintro z w1 ⟨rfl,hdr⟩;have HB:=zA0 hdr.below;clear hdr)))
 go_ret;exact ⟨rfl,HB.out⟩
theorem b3I (g:List (List Int)) (hm:mayB g = true) (A:Option Addr) (c:Nat) (W:World) (hC:kL.C W A g.length g) (hc:g.length≤c) :
  Calls Tryz.prog 29 #[.slice A g.length c] W fun e W' =>∃ bo,e = .returned (.slice (some ⟨bo,0,none⟩) g.length g.length)∧W.heap.size≤bo∧W'.heap[bo]? = some (.cells (ints g.length (numN g)) 3 (0,0))∧Below W.heap.size W W':=by
 obtain ⟨kM,hk⟩:=b1A g (a4C hm).sm;rw [hm] at hk;refine (of_try g (a4C hm) A c kM W hC hc (hk kM (zG0 _))).mono ?_;rintro e W' ⟨bo,M,num,rfl,h1,h2,h3,h4⟩;refine ⟨bo,rfl,h2,?_,h4⟩;rw [h3];have:=(of_eq hm h1).2.1
 congr 2
 unfold ints
 congr 1
 apply List.map_congr_left;intro x hx;rw [this x (zW0.1 hx)]
theorem of_any (g:List (List Int)) (hs:Sm g) (A:Option Addr) (c:Nat) (W:World) (hC:kL.C W A g.length g) (hc:g.length≤c) :
  Calls Tryz.prog 29 #[.slice A g.length c] W fun e W' =>∃ v,e = .returned v∧kI.R 3 W' W.heap.size (fun _ =>True) v (ofF g)∧Below W.heap.size W W':=by
 by_cases hm:mayB g = true
 ·refine (b3I g hm A c W hC hc).mono ?_;rintro e W' ⟨bo,rfl,h2,h3,h4⟩;refine ⟨_,rfl,?_,h4⟩;unfold ofF;rw [if_pos hm];exact R_ints h3 h2 (a2R hm).1
 ·obtain ⟨kM,hk⟩:=b1A g hs;rw [Bool.eq_false_iff.2 hm] at hk;refine (of_no kM g A c W hc hC (hk kM (zG0 _))).mono ?_;rintro e W' ⟨rfl,h⟩;refine ⟨_,rfl,?_,h⟩;unfold ofF;rw [if_neg hm];exact Kd.a9A _ _ _ _ _
set_option maxRecDepth 100000 in
set_option maxHeartbeats 8000000 in
theorem b7V (g:List (List Int)) (hs:Sm g) (A:Option Addr) (c:Nat) (W:World) (hC:kL.C W A g.length g) (hc:g.length≤c) :
  Calls Tryz.prog 30 #[.slice A g.length c] W fun e W' =>e = .returned (.int .i64 (manyF g))∧Below W.heap.size W W':=by
 have HOF:=zA0 (of_any g hs A c W hC hc);obtain ⟨N,num,hN,hb,hL,hM⟩:∃ N num,N≤1000∧(∀ x,x < N→num x≤1000)∧ofF g = toL N num∧manyF g = ((pmx num N:Nat):Int):=by
  by_cases hm:mayB g = true
  ·have h:=a7H hm;have hml:=b6O hm;have hN:=(a2R hm).1;refine ⟨g.length,numN g,hN,fun x hx =>by have:=h.lt x hx;omega,by unfold ofF;rw [if_pos hm],?_⟩;rw [pmx_all h];rfl
  ·refine ⟨0,fun _ =>0,by omega,fun x hx =>absurd hx (zS2 _),by unfold ofF;rw [if_neg hm];rfl,?_⟩;unfold manyF;rw [c2M hm];rfl
 rw [hL] at HOF;rw [hM];have HBD:=zA0 hb;clear hL hM hC hb;go_enter Tryz.func30,Tryz.ntmps30
 go_upto_region 2 with (fail)
 go_wp2_with (first
  | (go_at_call 29;(with_reducible refine HOF.out.mono ?_;rintro z w1 ⟨v1,rfl,hr1,hb1⟩;obtain ⟨A1,c1,e1⟩:=Kd.a1V hr1;rw [a6Z] at e1;subst e1;have HR1:=zA0 hr1;have HB1:=zA0 hb1;clear hr1 hb1)))
 go_loopg [3,9] N (fun kq v3 v9 w' =>∃ (i:Nat),i + kq = N∧v9 = .int .i64 (i:Nat)∧v3 = .int .i64 (pmx num i:Nat)∧w' = w1)
 case atStart =>exact ⟨0,by omega,rfl,rfl,rfl⟩
 case round =>
  obtain ⟨i,hi',rfl,rfl,rfl⟩:=hrel;by_cases hi:i < N
  ·obtain ⟨A2,c2,e2,_,hC2⟩:=Kd.a3T HR1.out;rw [a6Z] at e2;cases e2;obtain ⟨ad,eA,hz⟩:=Kd.a1Q hC2 (i:Int) (zI0 i) (by rw [a6Z];exact zS1.2 hi);subst eA;rw [zM0,toL_rd hi] at hz;have hi0:(0:Int)≤(i:Int):=zI0 i;have hn:=HBD.out i hi;have hw:=pzS i qD0;have hwn:=pzS (num i) hn;obtain ⟨k1,rfl⟩:∃ k1,gk = k1 + 1:=⟨gk - 1,by omega⟩;clear hC2 hn;by_cases hq:pmx num i < num i + 1
   ·have hq':((pmx num i:Nat):Int) < ((num i:Nat):Int) + 1:=by omega
    have hp:pmx num (i + 1) = num i + 1:=by rw [show pmx num (i + 1) = max (pmx num i) (num i + 1) from rfl];omega
    clear hq;go_wp2;go_roundg k1
    case measure =>exact zS0 _
    case rel =>exact ⟨i + 1,by rw [zZ0,zM1 1];exact hi',by first | rw [hw] | simp [hw],congrArg (Value.int .i64) (by rw [hp];omega),rfl⟩
   ·have hq':¬ ((pmx num i:Nat):Int) < ((num i:Nat):Int) + 1:=by omega
    have hp:pmx num (i + 1) = pmx num i:=by rw [show pmx num (i + 1) = max (pmx num i) (num i + 1) from rfl];omega
    clear hq;go_wp2;go_roundg k1
    case measure =>exact zS0 _
    case rel =>exact ⟨i + 1,by rw [zZ0,zM1 1];exact hi',by first | rw [hw] | simp [hw],congrArg (Value.int .i64) (by rw [hp]),rfl⟩
  ·have hie:i = N:=by omega
   subst hie;go_wp2;go_ret;exact ⟨rfl,HB1.out⟩
theorem b1Z:∀ (a b:List Nat),a.Pairwise (· < ·)→b.Pairwise (· < ·)→(∀ x,x ∈ a ↔ x ∈ b)→a = b
 | [],[],_,_,_ =>rfl
 | [],y :: b,_,_,h =>by cases (h y).2 zP0
 | x :: a,[],_,_,h =>by cases (h x).1 zP0
 | x :: a,y :: b,ha,hb,h =>by
  obtain ⟨a1,a2⟩:=zU2.1 ha;obtain ⟨b1,b2⟩:=zU2.1 hb;have e:x = y:=by
   rcases zO0.1 ((h x).1 zP0) with q | q
   ·exact q
   ·rcases zO0.1 ((h y).2 zP0) with w | w
    ·exact w.symm
    ·have:=b1 x q;have:=a1 y w;omega
  subst e
  congr 1
  refine b1Z a b a2 b2 (fun z =>?_);constructor
  ·intro hz;rcases zO0.1 ((h z).1 (zQ0 _ hz)) with q | q
   ·have:=a1 z hz;omega
   ·exact q
  ·intro hz;rcases zO0.1 ((h z).2 (zQ0 _ hz)) with q | q
   ·have:=b1 z hz;omega
   ·exact q
open Classical in
theorem b2F {g:List (List Int)} (hm:mayB g = true):foldF g = (List.range (manyN g)).map fun i =>toI (rowK (adjF g) g.length (numN g) i):=by
 unfold foldF;apply List.map_congr_left;intro k _;unfold foldR toI
 congr 1
 refine b1Z _ _ ((zN3).filter _) (b2H _) (fun x =>?_);rw [zQ1,zW0,decide_eq_true_iff];unfold rowK;rw [b0E,a6C];constructor
 ·exact fun h =>h.2
 ·rintro ⟨h1,x',hx,e,y,hy,e2⟩;exact ⟨by rw [← e2];exact (a7H hm).lt y ((a4C hm).adj x' hx y hy),h1,x',hx,e,y,hy,e2⟩
set_option maxRecDepth 100000 in
set_option maxHeartbeats 8000000 in
theorem fold_no (k:Nat) (g:List (List Int)) (A:Option Addr) (c:Nat) (w:World) (hc:g.length≤c) (hC:kL.C w A g.length g) (hm:graph_May.f k g = some false) :
  Calls Tryz.prog 31 #[.slice A g.length c] w fun e w' =>e = .returned (.slice none 0 0)∧Below w.heap.size w w':=by
 have HM:=zA0 (graph_May.calls k A c g false w hC hc hm);clear hC;go_enter Tryz.func31,Tryz.ntmps31
 go_wp2_with (first
  | (go_at_call 28;(with_reducible refine HM.out.mono ?_;rintro z w1 ⟨rfl,hdr⟩;have HB:=zA0 hdr.below;clear hdr)))
 go_ret;exact ⟨rfl,HB.out⟩
set_option maxRecDepth 100000 in
set_option maxHeartbeats 8000000 in
theorem fold_yes (k:Nat) (g:List (List Int)) (hm:mayB g = true) (A:Option Addr) (c:Nat) (w:World) (hc:g.length≤c) (hC:kL.C w A g.length g) (hk:graph_May.f k g = some true) :
  Calls Tryz.prog 31 #[.slice A g.length c] w fun e w' =>∃ v,e = .returned v∧Kd.S kL 43 w' w.heap.size (fun _ =>True) v (foldF g)∧Below w.heap.size w w':=by
 have HC:=zA0 hC;have HM:=zA0 (graph_May.calls k A c g true w hC hc hk);have hgo:=a4C hm;have hMN:manyN g≤1000:=zH0 (b6O hm) (a2R hm).1;have HOF:=zA0 (fun (w1:World) (h:kL.C w1 A g.length g) =>b3I g hm A c w1 h hc);have HMN:=zA0 (fun (w1:World) (h:kL.C w1 A g.length g) =>b7V g hgo.sm A c w1 h hc);rw [b2F hm];have emn:manyF g = ((manyN g:Nat):Int):=rfl;have HFD:=zA0 (fun (w3:World) (bof:Nat) (h:Kd.F kL w3 (fun q =>q < w3.heap.size) A g.length g) (ho:w3.heap[bof]? = some (.cells (ints g.length (numN g)) 3 (0,0))) =>b8E g hgo A c bof (manyN g) (numN g) w3 h ho hMN (a7H hm).lt hc);rw [show (fun i =>cmpN (rowsAt (numN g) (adjF g) g.length i)) = rowK (adjF g) g.length (numN g) from rfl] at HFD;rw [emn] at HMN;clear hC hgo emn;have HB:=zA0 (zJ0 w.heap.size w);go_enter Tryz.func31,Tryz.ntmps31
 go_wp2_with (first
  | (go_at_call 28;(with_reducible refine HM.out.mono ?_;rintro z w1 ⟨rfl,hdr⟩;have HB:=zA0 hdr.below;clear hdr))
  | (go_at_call 29;(with_reducible refine (HOF.out _ (Kd.a0I HC.out HB.out)).mono ?_;rintro z w2 ⟨bof,rfl,hlo,hbf,hb2⟩;have HB:=zA0 (a0L HB.out hb2);have HBF:=zA0 hbf;clear hlo hbf hb2))
  | (go_at_call 30;(with_reducible refine (HMN.out _ (Kd.a0I HC.out HB.out)).mono ?_;rintro z w3 ⟨rfl,hb3⟩;have HB:=zA0 (a0L HB.out hb3);have HBF:=zA0 (a0U HBF.out hb3);clear hb3))
  | (go_at_call 50;(with_reducible refine (HFD.out _ _ (Kd.C_F (Kd.a5O 3 (Kd.a8N .i64)) (Kd.a0I HC.out HB.out)) HBF.out).mono ?_;rintro z w4 ⟨bo,rfl,⟨v4,hfd⟩,hb4⟩;have HFR:=zA0 (hfd.own hMN);have HSZ:=zA0 HB.out.size;have HB:=zA0 (a0L HB.out hb4);clear hfd hb4)))
 go_ret;exact ⟨_,rfl,Kd.b1M HFR.out HSZ.out,HB.out⟩
theorem c2Y (g:List (List Int)) (hs:Sm g) (A:Option Addr) (c:Nat) (w:World) (hC:kL.C w A g.length g) (hc:g.length≤c) :
  Calls Tryz.prog 31 #[.slice A g.length c] w fun e w' =>∃ v,e = .returned v∧Kd.S kL 43 w' w.heap.size (fun _ =>True) v (foldF g)∧Below w.heap.size w w':=by
 obtain ⟨kM,hk⟩:=b1A g hs;by_cases hm:mayB g = true
 ·rw [hm] at hk;exact fold_yes kM g hm A c w hc hC (hk kM (zG0 _))
 ·rw [Bool.eq_false_iff.2 hm] at hk;refine (fold_no kM g A c w hc hC (hk kM (zG0 _))).mono ?_;rintro e W' ⟨rfl,h⟩;refine ⟨_,rfl,?_,h⟩;have:foldF g = []:=by unfold foldF;rw [c2M hm];rfl
  rw [this];exact Kd.c3V _ _ _ _ _
open Go.Lib
theorem C_slice {α:Type} {d:Kd α} {w:World} {A:Option Addr} {c:Nat} {xs:List α} {e base:Nat} {ok:Nat→Prop} (h:Kd.R d e w base ok (.slice A xs.length c) xs):d.C w A xs.length xs:=(Kd.a1J h).2.2
def ST9 (W:World) (bw k:Nat) (xs ys:List ByteArray) (s:Nat) (v:Nat→Value) (Z:World):Prop:=match s with
 | 0 =>Below W.heap.size W Z
 | 1 =>Below W.heap.size W Z∧Kd.R Kd.string 9 Z W.heap.size (fun _ =>True) (v 0) xs
 | 2 =>Below W.heap.size W Z∧Kd.R Kd.string 9 Z W.heap.size (fun _ =>True) (v 1) ys
 | _ =>∃ A c Z0,Z = Z0.setCell ⟨bw,k,none⟩ (.slice A ys.length c)∧Below W.heap.size W Z0∧Kd.R Kd.string 9 Z0 W.heap.size (fun _ =>True) (.slice A ys.length c) ys
theorem ST9.below {W Z:World} {bw k s:Nat} {xs ys:List ByteArray} {v:Nat→Value} (hs:s < 3) (h:ST9 W bw k xs ys s v Z):Below W.heap.size W Z:=by
 match s,hs with
 | 0,_ =>exact h
 | 1,_ =>exact h.1
 | 2,_ =>exact h.1
def ST17 (W:World) (bw k:Nat) (ys:List ByteArray) (s:Nat) (v:Nat→Value) (Z:World):Prop:=match s with
 | 0 =>Below W.heap.size W Z
 | 1 =>Below W.heap.size W Z∧Kd.R Kd.string 9 Z W.heap.size (fun _ =>True) (v 0) ys
 | _ =>∃ A c Z0,Z = Z0.setCell ⟨bw,k,none⟩ (.slice A ys.length c)∧Below W.heap.size W Z0∧Kd.R Kd.string 9 Z0 W.heap.size (fun _ =>True) (.slice A ys.length c) ys
theorem ST17.below {W Z:World} {bw k s:Nat} {ys:List ByteArray} {v:Nat→Value} (hs:s < 2) (h:ST17 W bw k ys s v Z):Below W.heap.size W Z:=by
 match s,hs with
 | 0,_ =>exact h
 | 1,_ =>exact h.1
def ST24 (W3 W:World) (bx:Nat) (xs:List ByteArray) (nm:ByteArray) (m:Nat) (out:List S42) (s:Nat) (v:Nat→Value) (Z:World):Prop:=match s with
 | 0 =>Below W.heap.size W Z
 | 1 =>Below W.heap.size W Z∧Kd.R Kd.string 9 Z W.heap.size (fun _ =>True) (v 0) xs
 | 2 =>Below W.heap.size W Z∧Kd.R Kd.string 9 Z W.heap.size (fun _ =>True) (v 0) xs∧v 1 = .agg #[.string nm,.int .i64 (m:Nat),v 0]
 | 3 =>∃ A c Z0,Z = Z0.alloc (.cells #[.string nm,.int .i64 (m:Nat),.slice A xs.length c] 42)∧v 2 = .slice (some ⟨Z0.heap.size,0,none⟩) 1 1∧Below W.heap.size W Z0∧Kd.R Kd.string 9 Z0 W.heap.size (fun _ =>True) (.slice A xs.length c) xs
 | 4 =>Below W3.heap.size W3 Z∧Z.heap[bx]? = W.heap[bx]?∧Kd.N k42 42 Z W3.heap.size (fun q =>W3.heap.size≤q) (v 3) (out ++ [⟨nm,((m:Nat):Int),xs⟩])
 | _ =>Below W3.heap.size W3 Z∧Z.heap[bx]? = W.heap[bx]?∧Kd.N k42 42 Z W3.heap.size (fun q =>W3.heap.size≤q) (v 4) (out ++ [⟨nm,((m:Nat):Int),xs⟩])
theorem ST24.cell {W3 W Z:World} {bx m s:Nat} {xs:List ByteArray} {nm:ByteArray} {out:List S42} {v:Nat→Value} (hbx:bx < W.heap.size) (h3:Below W3.heap.size W3 W) (h:ST24 W3 W bx xs nm m out s v Z):Below W3.heap.size W3 Z∧Z.heap[bx]? = W.heap[bx]?:=by
 have hB:∀ Y,Below W.heap.size W Y→Below W3.heap.size W3 Y∧Y.heap[bx]? = W.heap[bx]?:=fun Y hb =>⟨h3.trans (hb.mono h3.size),hb.block bx hbx⟩
 match s with
 | 0 =>exact hB Z h
 | 1 =>exact hB Z h.1
 | 2 =>exact hB Z h.1
 | 3 =>
  obtain ⟨A,c,Z0,rfl,_,hb,_⟩:=h;exact hB _ (hb.trans ((a0B (zJ0 _ _) _).mono hb.size))
 | 4 =>exact ⟨h.1,h.2.1⟩
 | _ + 5 =>exact ⟨h.1,h.2.1⟩
set_option maxRecDepth 100000 in
set_option maxHeartbeats 16000000 in
theorem b7L (w:World) (fs:List S34) (A:Option Addr) (c:Nat) (hlc:fs.length≤c) (hC:Kd.C k34 w A fs.length fs) (hsm:SmG fs) :
  Calls Tryz.prog 9 #[.agg #[.slice A fs.length c]] w fun e w' =>∃ v,e = .returned v∧Kd.N k42 42 w' w.heap.size (fun k =>w.heap.size≤k) v (sigsF fs)∧Below w.heap.size w w':=by
 have hn:=hsm.n;have HC:=zA0 hC;have HSM:=zA0 hsm;have hb0:Below w.heap.size w (w.alloc (.cells #[.slice A fs.length c] 24)):=a0B (zJ0 _ _) _;have HCALLS:=zA0 (c3Q _ fs A c hlc (Kd.a0I hC hb0) qD0 (fun f hf =>zH0 (hsm.b f hf) qF0));have HB0:=zA0 hb0;have HP0:=zA0 (World.alloc_heap_new w (.cells #[.slice A fs.length c] 24));have hm:=b1G hn;have hgl:(callsF fs).length = fs.length:=by unfold callsF;simp
 have hfin:sigsF fs = (List.range fs.length).map fun i =>⟨(fnAt fs i).f0,(((fnAt fs i).f1.length:Nat):Int),wrB (rowK (adjF (callsF fs)) (callsF fs).length (numN (callsF fs))) (manyN (callsF fs)) (wrA fs (numN (callsF fs)) fs.length) (numN (callsF fs) i)⟩:=rfl
 clear hC hsm hb0;go_enter Tryz.func9,Tryz.ntmps9
 go_upto_region 2 with (first
  | (go_at_call 27;(with_reducible refine HCALLS.out.mono ?_;rintro z w2 ⟨v1,rfl,hs1,hb1⟩;have HS1:=zA0 hs1;have HB1:=zA0 hb1;clear hs1 hb1)))
 have hs1:=HS1.out;generalize callsF fs = g at hm hgl hfin hs1;have HGL:=zA0 hgl;clear HS1 HCALLS hgl;obtain ⟨Ag,cg,eg⟩:=Kd.a4D (Kd.S_N hs1);subst eg;obtain ⟨_,hcg,hCg⟩:=Kd.a2U (Kd.S_N hs1);have hgF:Kd.F kL w2 (fun q =>q < w2.heap.size) Ag g.length g:=Kd.a2X (Kd.N_F (Kd.a8C (Kd.S_N hs1))) (fun q hq =>hq.2);have hgo:=a4C hm;obtain ⟨kM,hkM⟩:=b1A g hgo.sm;rw [hm] at hkM;have HMAY:=zA0 (graph_May.calls kM Ag cg g true w2 hCg hcg (hkM kM (zG0 _)));have hb2:Below w.heap.size w w2:=HB0.out.trans (HB1.out.mono HB0.out.size);have hp2:=a0U HP0.out HB1.out;have HGF:=zA0 hgF;have HB2:=zA0 hb2;have HP2:=zA0 hp2;clear hs1 hCg hgF hkM hb2 hp2 HB0 HB1 HP0
 go_upto_region 4 with (first
  | (go_at_call 28;(with_reducible refine HMAY.out.mono ?_;rintro z w3 ⟨rfl,hdr⟩;have HB3:=zA0 hdr.below;clear hdr)))
 have hgF3:=Kd.a1U HGF.out HB3.out;have HOF:=zA0 (b3I g hm Ag cg w3 (Kd.a5K hgF3) hcg);have HGF3:=zA0 hgF3;have HP3:=zA0 (a0U HP2.out HB3.out);have HBB3:=zA0 (HB2.out.trans (HB3.out.mono HB2.out.size));have HSZ3:=zA0 HB3.out.size;clear hgF3 HMAY HGF HP2 HB2 HB3
 go_upto_region 5 with (first
  | (go_at_call 29;(with_reducible refine HOF.out.mono ?_;rintro z w4 ⟨bo,rfl,hbo1,hbo2,hb4⟩;have HBO:=zA0 hbo2;have HB4:=zA0 hb4;clear hbo1 hbo2 hb4)))
 have hgF4:=Kd.a1U HGF3.out HB4.out;have HMANY:=zA0 (b7V g hgo.sm Ag cg w4 (Kd.a5K hgF4) hcg);have emn:manyF g = ((manyN g:Nat):Int):=rfl;rw [emn] at HMANY;have hK:manyN g≤1000:=zH0 (b6O hm) (a2R hm).1;have hnum:∀ x,x < fs.length→numN g x < manyN g:=fun x hx =>(a7H hm).lt x (by have:=HGL.out;omega)
 have HFOLD:=zA0 (fun (W:World) (h:kL.C W Ag g.length g) =>c2Y g hgo.sm Ag cg W h hcg);rw [b2F hm] at HFOLD;have htlt:∀ k m,m ∈ rowK (adjF g) g.length (numN g) k→m < manyN g:=fun k m hmm =>c1B hgo.adj (fun x hx =>(a7H hm).lt x hx) hmm
 have HGF4:=zA0 hgF4;have HP4:=zA0 (a0U HP3.out HB4.out);have HBB4:=zA0 (HBB3.out.trans (HB4.out.mono HBB3.out.size));have HLT:=zA0 (show w3.heap.size≤w4.heap.size∧w2.heap.size≤w3.heap.size from ⟨HB4.out.size,HSZ3.out⟩);clear hgF4 emn HOF HGF3 HP3 HBB3 HB4 HSZ3 hm hgo;obtain ⟨K,hKe⟩:∃ K,K = manyN g:=⟨_,rfl⟩;obtain ⟨num,hnumE⟩:∃ n,n = numN g:=⟨_,rfl⟩;obtain ⟨tr,htrE⟩:∃ t,t = rowK (adjF g) g.length (numN g):=⟨_,rfl⟩;rw [← htrE] at HFOLD hfin htlt;rw [← hnumE] at hfin hnum HBO;rw [← hKe] at hfin hnum HMANY hK HFOLD htlt;have HTLT:=zA0 htlt;have HNUM:=zA0 hnum;have HFIN:=zA0 hfin;clear hKe hnumE htrE hfin hnum htlt;have hmk:=makeLS K hK
 go_upto_region 6 with (first
  | (go_at_call 30;(with_reducible refine HMANY.out.mono ?_;rintro z w5 ⟨rfl,hb5⟩;have HB5:=zA0 hb5;clear hb5)))
 clear hmk HMANY;have hw0:=WR.start (K:=K) (B:=w.heap.size) (W0:=w) (W:=w5) (zH0 HBB4.out.size HB5.out.size) (HBB4.out.trans (HB5.out.mono HBB4.out.size));obtain ⟨bw,hbw⟩:∃ b,w5.heap.size = b:=⟨_,rfl⟩;obtain ⟨Ws,hWs⟩:∃ W,w5.alloc (.cells (vals K (fun _ =>.slice none 0 0)) 25) = W:=⟨_,rfl⟩;have hbs:Below w5.heap.size w5 Ws:=by rw [← hWs];exact a0B (zJ0 _ _) _
 rw [hbw,hWs] at hw0;rw [hbw,hWs];have hbo5:Ws.heap[bo]? = some (.cells (ints g.length num) 3 (0,0)):=a0U (a0U HBO.out HB5.out) hbs;have hbol:bo < bw:=by rw [← hbw];exact a1K (a0U HBO.out HB5.out)
 have hp5:Ws.heap[w.heap.size]? = some (.cells #[.slice A fs.length c] 24 (0,0)):=a0U (a0U HP4.out HB5.out) hbs;have hpl:w.heap.size < bw:=by rw [← hbw];exact a1K (a0U HP4.out HB5.out)
 have hgF5:Kd.F kL Ws (fun q =>q < bw) Ag g.length g:=Kd.a2X (Kd.a1U (Kd.a1U HGF4.out HB5.out) hbs) (fun q hq =>by have h1:=HLT.out;have h2:=HB5.out.size;omega);have HW0:=zA0 hw0;have HBO5:=zA0 (zH3 hbo5 hbol);have HP5:=zA0 (zH3 hp5 hpl);have HGF5:=zA0 hgF5;have zp:Ws.cell? ⟨w.heap.size,0,none⟩ = some (.slice A fs.length c):=(a0O hp5 0).trans rfl;clear hw0 hbs hbo5 hbol hp5 hpl hgF5 hbw hWs HBO HB5 HGF4 HP4 HBB4 HLT;go_upto_region 7 with (fail)
 clear zp;go_loopg [28] fs.length (fun kq v28 w' =>∃ (i:Nat) (v:Nat→Value),i + kq = fs.length∧v28 = .int .i64 (i:Nat)∧Hid (WR w.heap.size bw K v (wrA fs num i) w Ws w'))
 case atStart =>exact ⟨0,_,by omega,rfl,HW0⟩
 case round =>
  obtain ⟨i,v,hi',rfl,HW⟩:=hrel;clear HW0;by_cases hi:i < fs.length
  ·obtain ⟨ad,A1,c1,A2,c2,eA,x0,x1,x2,l1,g1,l2,g2⟩:=a6I (Kd.a0I HC.out HW.out.be) (i:Int) (zI0 i) (zS1.2 hi);subst eA;rw [zM0] at x0 x1 x2;obtain ⟨f,hf⟩:∃ f,f = a1C fs (i:Int):=⟨_,rfl⟩;rw [← hf] at x0 x1 x2 l1 g1 l2 g2;have hfm:f ∈ fs:=by rw [hf];exact b3Q hi
   have hi0:(0:Int)≤(i:Int):=zI0 i;have hw:=pz i qD0;have hnK:=HNUM.out i hi;obtain ⟨k1,rfl⟩:∃ k1,gk = k1 + 1:=⟨gk - 1,by omega⟩;have hba:Below wr.heap.size wr (wr.alloc (.cells #[.string f.f0,.slice A1 f.f1.length c1,.slice A2 f.f2.length c2] 34)):=a0B (zJ0 _ _) _;have HFM:=zA0 hfm;have HFE:=zA0 hf;have G2:=zA0 (Kd.a0I g2 hba);have HWA:=zA0 (HW.out.below hba);have hnew:=World.alloc_heap_new wr (.cells #[.string f.f0,.slice A1 f.f1.length c1,.slice A2 f.f2.length c2] 34);have HNB:=zA0 hnew;clear hba g1 g2 hfm hf hnew;go_upto_region 9 with (fail)
   clear x0 x1 x2;generalize hbx:wr.heap.size = bx at HNB ⊢;clear hbx;generalize wr.alloc (.cells #[.string f.f0,.slice A1 f.f1.length c1,.slice A2 f.f2.length c2] 34) = Wa at G2 HWA HNB ⊢;have zb0:Wa.cell? ⟨bx,0,none⟩ = some (.string f.f0):=(a0O HNB.out 0).trans rfl;have zb1:Wa.cell? ⟨bx,1,none⟩ = some (.slice A1 f.f1.length c1):=(a0O HNB.out 1).trans rfl;have zb2:Wa.cell? ⟨bx,2,none⟩ = some (.slice A2 f.f2.length c2):=(a0O HNB.out 2).trans rfl;have hboW:Wa.heap[bo]? = some (.cells (ints g.length num) 3 (0,0)):=(HWA.out.fz bo HBO5.out.2).trans HBO5.out.1;have hig:i < g.length:=Nat.lt_of_lt_of_eq hi HGL.out.symm;have zo:Wa.cell? ⟨bo,i,none⟩ = some (.int .i64 (num i:Nat)):=(a0O hboW i).trans (a3B _ hig);obtain ⟨Ar,cr,zw,zwf,hFr⟩:=HWA.out.cell hnK;have hn0:(0:Int)≤(num i:Int):=zI0 _;have HFR:=zA0 hFr;have HBWL:=zA0 (show bw < Wa.heap.size from a1K HWA.out.o);have hin:=(c0D (fs:=fs) num i (zY1 hi));have HLN:=zA0 (zH0 (hin.len (num i)) HSM.out.u);have HLO:=zA0 (show (ownF f).length≤1050000 from zH0 (a8T _ _ (a8W f).nodup (fun x hx =>by have:=b3E hi x;rw [show fnAt fs i = f from HFE.out.symm] at this;exact this hx)) HSM.out.u);clear hFr hin hboW;refine (wpIn_wide (n:=5)).1 ?_;refine wpIn_region_any mixedO ?_;refine a3G _ (fun _ =>undef) (fun done val Z =>TF 17 [13,14,16] (fun ix_ =>match ix_ with | 0 =>.slice (some ⟨bw,0,none⟩) K K | 1 =>.slice (some ⟨bo,0,none⟩) g.length g.length | 2 =>.int .i64 (i:Nat) | 3 =>.pointer (some ⟨bo,i,none⟩) | 4 =>.int .i64 (num i:Nat) | 5 =>.slice (some ⟨bw,0,none⟩) K K | 6 =>.slice (some ⟨bo,0,none⟩) g.length g.length | 7 =>.int .i64 (i:Nat) | 8 =>.pointer (some ⟨bo,i,none⟩) | 9 =>.int .i64 (num i:Nat) | 10 =>.pointer (some ⟨bw,num i,none⟩) | 11 =>.slice Ar (wrA fs num i (num i)).length cr | 12 =>.agg #[.string f.f0,.slice A1 f.f1.length c1,.slice A2 f.f2.length c2] | 15 =>.pointer (some ⟨bw,num i,none⟩) | _ =>undef) (ST9 Wa bw (num i) (ownF f) (unionF (wrA fs num i (num i)) (ownF f))) done val Z) rfl qH0 _ ?hz9 ?st9 ?en9
   case hz9 =>exact TF.start qF0 qF0 (a1X (zJ0 _ _))
   case st9 =>
    intro i_ o done val a Z ho hdn hdep hag hS K2 hK2;have hm:i_ < 17:=by
     by_cases h:i_ < 17
     ·exact h
     ·rw [Array.getElem?_eq_none qA1] at ho;cases ho
    obtain rfl | rfl | rfl | rfl | rfl | rfl | rfl | rfl | rfl | rfl | rfl | rfl | rfl | rfl | rfl | rfl | rfl:i_ = 0∨i_ = 1∨i_ = 2∨i_ = 3∨i_ = 4∨i_ = 5∨i_ = 6∨i_ = 7∨i_ = 8∨i_ = 9∨i_ = 10∨i_ = 11∨i_ = 12∨i_ = 13∨i_ = 14∨i_ = 15∨i_ = 16:=by omega
    ·cases ho;have e5:a.eval (.tmp 5) = .slice (some ⟨bw,0,none⟩) K K:=hag.keep 5 rfl;refine a0F (i:=0) (r:=.slice (some ⟨bw,0,none⟩) K K) (w':=Z) rfl rfl (fun c h =>by cases h) rfl ?_ (hK2 _ _ (hS.const qF0 hdn qF0 rfl));have ec:∀ v,a.eval (.const v) = v:=fun _ =>rfl
     generalize a.eval = ev at *;simp [execOp,go_sem,ec,e5]
    ·cases ho;have e4:a.eval (.tmp 4) = .slice (some ⟨bo,0,none⟩) g.length g.length:=hag.keep 4 rfl;refine a0F (i:=1) (r:=.slice (some ⟨bo,0,none⟩) g.length g.length) (w':=Z) rfl rfl (fun c h =>by cases h) rfl ?_ (hK2 _ _ (hS.const qF0 hdn qF0 rfl));have ec:∀ v,a.eval (.const v) = v:=fun _ =>rfl
     generalize a.eval = ev at *;simp [execOp,go_sem,ec,e4]
    ·cases ho;have e6:a.eval (.tmp 6) = .int .i64 (i:Nat):=hag.keep 6 rfl;refine a0F (i:=2) (r:=.int .i64 (i:Nat)) (w':=Z) rfl rfl (fun c h =>by cases h) rfl ?_ (hK2 _ _ (hS.const qF0 hdn qF0 rfl));have ec:∀ v,a.eval (.const v) = v:=fun _ =>rfl
     generalize a.eval = ev at *;simp [execOp,go_sem,ec,e6]
    ·cases ho;have e34:=(hag.val_ (j:=1) (t:=34) rfl (hdep ⟨1,.data⟩ qG0 rfl)).trans (hS.vv 1 (hdep ⟨1,.data⟩ qG0 rfl) qF0)
     try dsimp only at e34
     have e35:=(hag.val_ (j:=2) (t:=35) rfl (hdep ⟨2,.data⟩ qG0 rfl)).trans (hS.vv 2 (hdep ⟨2,.data⟩ qG0 rfl) qF0)
     try dsimp only at e35
     refine a0F (i:=3) (r:=.pointer (some ⟨bo,i,none⟩)) (w':=Z) rfl rfl (fun c h =>by cases h) ?_ ?_ (hK2 _ _ (hS.const qF0 hdn qF0 rfl))
     ·generalize a.eval = ev at *;simp [Oper.about,resolve,Target.leads,Sem.run_pure,go_sem,e34,e35,zI1.2 hig]
     ·have ec:∀ v,a.eval (.const v) = v:=fun _ =>rfl
      generalize a.eval = ev at *;simp [execOp,go_sem,ec,e34,e35,zI1.2 hig]
    ·cases ho;have e36:=(hag.val_ (j:=3) (t:=36) rfl (hdep ⟨3,.data⟩ qG0 rfl)).trans (hS.vv 3 (hdep ⟨3,.data⟩ qG0 rfl) qF0)
     try dsimp only at e36
     obtain ⟨s_,hs_,hst_⟩:=hS.some (i:=4) qF0 hdn qF0;have hb:=ST9.below qX2 hst_;have zz0:=a2L zo hb;refine a0F (i:=4) (r:=.int .i64 (num i:Nat)) (w':=Z) rfl rfl (fun c h =>by cases h) rfl ?_ (hK2 _ _ (hS.const qF0 hdn qF0 rfl));have ec:∀ v,a.eval (.const v) = v:=fun _ =>rfl
     generalize a.eval = ev at *;simp [execOp,go_sem,ec,e36,zz0]
    ·cases ho;have e5:a.eval (.tmp 5) = .slice (some ⟨bw,0,none⟩) K K:=hag.keep 5 rfl;refine a0F (i:=5) (r:=.slice (some ⟨bw,0,none⟩) K K) (w':=Z) rfl rfl (fun c h =>by cases h) rfl ?_ (hK2 _ _ (hS.const qF0 hdn qF0 rfl));have ec:∀ v,a.eval (.const v) = v:=fun _ =>rfl
     generalize a.eval = ev at *;simp [execOp,go_sem,ec,e5]
    ·cases ho;have e4:a.eval (.tmp 4) = .slice (some ⟨bo,0,none⟩) g.length g.length:=hag.keep 4 rfl;refine a0F (i:=6) (r:=.slice (some ⟨bo,0,none⟩) g.length g.length) (w':=Z) rfl rfl (fun c h =>by cases h) rfl ?_ (hK2 _ _ (hS.const qF0 hdn qF0 rfl));have ec:∀ v,a.eval (.const v) = v:=fun _ =>rfl
     generalize a.eval = ev at *;simp [execOp,go_sem,ec,e4]
    ·cases ho;have e6:a.eval (.tmp 6) = .int .i64 (i:Nat):=hag.keep 6 rfl;refine a0F (i:=7) (r:=.int .i64 (i:Nat)) (w':=Z) rfl rfl (fun c h =>by cases h) rfl ?_ (hK2 _ _ (hS.const qF0 hdn qF0 rfl));have ec:∀ v,a.eval (.const v) = v:=fun _ =>rfl
     generalize a.eval = ev at *;simp [execOp,go_sem,ec,e6]
    ·cases ho;have e39:=(hag.val_ (j:=6) (t:=39) rfl (hdep ⟨6,.data⟩ qG0 rfl)).trans (hS.vv 6 (hdep ⟨6,.data⟩ qG0 rfl) qF0)
     try dsimp only at e39
     have e40:=(hag.val_ (j:=7) (t:=40) rfl (hdep ⟨7,.data⟩ qG0 rfl)).trans (hS.vv 7 (hdep ⟨7,.data⟩ qG0 rfl) qF0)
     try dsimp only at e40
     refine a0F (i:=8) (r:=.pointer (some ⟨bo,i,none⟩)) (w':=Z) rfl rfl (fun c h =>by cases h) ?_ ?_ (hK2 _ _ (hS.const qF0 hdn qF0 rfl))
     ·generalize a.eval = ev at *;simp [Oper.about,resolve,Target.leads,Sem.run_pure,go_sem,e39,e40,zI1.2 hig]
     ·have ec:∀ v,a.eval (.const v) = v:=fun _ =>rfl
      generalize a.eval = ev at *;simp [execOp,go_sem,ec,e39,e40,zI1.2 hig]
    ·cases ho;have e41:=(hag.val_ (j:=8) (t:=41) rfl (hdep ⟨8,.data⟩ qG0 rfl)).trans (hS.vv 8 (hdep ⟨8,.data⟩ qG0 rfl) qF0)
     try dsimp only at e41
     obtain ⟨s_,hs_,hst_⟩:=hS.some (i:=9) qF0 hdn qF0;have hb:=ST9.below qX2 hst_;have zz0:=a2L zo hb;refine a0F (i:=9) (r:=.int .i64 (num i:Nat)) (w':=Z) rfl rfl (fun c h =>by cases h) rfl ?_ (hK2 _ _ (hS.const qF0 hdn qF0 rfl));have ec:∀ v,a.eval (.const v) = v:=fun _ =>rfl
     generalize a.eval = ev at *;simp [execOp,go_sem,ec,e41,zz0]
    ·cases ho;have e38:=(hag.val_ (j:=5) (t:=38) rfl (hdep ⟨5,.data⟩ qG0 rfl)).trans (hS.vv 5 (hdep ⟨5,.data⟩ qG0 rfl) qF0)
     try dsimp only at e38
     have e42:=(hag.val_ (j:=9) (t:=42) rfl (hdep ⟨9,.data⟩ qG0 rfl)).trans (hS.vv 9 (hdep ⟨9,.data⟩ qG0 rfl) qF0)
     try dsimp only at e42
     refine a0F (i:=10) (r:=.pointer (some ⟨bw,num i,none⟩)) (w':=Z) rfl rfl (fun c h =>by cases h) ?_ ?_ (hK2 _ _ (hS.const qF0 hdn qF0 rfl))
     ·generalize a.eval = ev at *;simp [Oper.about,resolve,Target.leads,Sem.run_pure,go_sem,e38,e42,zI1.2 hnK]
     ·have ec:∀ v,a.eval (.const v) = v:=fun _ =>rfl
      generalize a.eval = ev at *;simp [execOp,go_sem,ec,e38,e42,zI1.2 hnK]
    ·cases ho;have e43:=(hag.val_ (j:=10) (t:=43) rfl (hdep ⟨10,.data⟩ qG0 rfl)).trans (hS.vv 10 (hdep ⟨10,.data⟩ qG0 rfl) qF0)
     try dsimp only at e43
     obtain ⟨s_,hs_,hst_⟩:=hS.some (i:=11) qF0 hdn qF0;have hb:=ST9.below qX2 hst_;have zz0:=a2L zw hb;refine a0F (i:=11) (r:=.slice Ar (wrA fs num i (num i)).length cr) (w':=Z) rfl rfl (fun c h =>by cases h) rfl ?_ (hK2 _ _ (hS.const qF0 hdn qF0 rfl));have ec:∀ v,a.eval (.const v) = v:=fun _ =>rfl
     generalize a.eval = ev at *;simp [execOp,go_sem,ec,e43,zz0]
    ·cases ho;have e7:a.eval (.tmp 7) = .pointer (some ⟨bx,0,none⟩):=hag.keep 7 rfl;obtain ⟨s_,hs_,hst_⟩:=hS.some (i:=12) qF0 hdn qF0;have hb:=ST9.below qX2 hst_;have zz0:=a2L zb0 hb;have zz1:=a2L zb1 hb;have zz2:=a2L zb2 hb;refine a0F (i:=12) (r:=.agg #[.string f.f0,.slice A1 f.f1.length c1,.slice A2 f.f2.length c2]) (w':=Z) rfl rfl (fun c h =>by cases h) rfl ?_ (hK2 _ _ (hS.const qF0 hdn qF0 rfl));have ec:∀ v,a.eval (.const v) = v:=fun _ =>rfl
     generalize a.eval = ev at *;simp [execOp,go_sem,ec,e7,zz0,zz1,zz2]
    ·cases ho;have e45:=(hag.val_ (j:=12) (t:=45) rfl (hdep ⟨12,.data⟩ qG0 rfl)).trans (hS.vv 12 (hdep ⟨12,.data⟩ qG0 rfl) qF0)
     try dsimp only at e45
     have hst:Below Wa.heap.size Wa Z:=hS.get 0 qF0 hdn (.inl rfl);have hown:=b6I Z f A1 A2 c1 c2 l2 (Kd.a0I G2.out hst) (HSM.out.b f HFM.out);refine a6G (i:=13) (f:=11) rfl rfl rfl (fun _ _ =>rfl) (R:=fun e w' =>∃ v,e = .returned v∧Kd.R Kd.string 9 w' Z.heap.size (fun _ =>True) v (ownF f)∧Below Z.heap.size Z w') ?_ ?_
     ·simp only [zA3,zE2,zV2,e45];exact hown
     ·rintro e' w2 ⟨v2,rfl,hr,hb2⟩;refine ⟨v2,rfl,hK2 _ _ (hS.next 0 qF0 hdn (.inl rfl) (fun h =>absurd h qF0) (fun v' hv _ =>?_))⟩;exact ⟨hst.trans (hb2.mono hst.size),by rw [hv];exact Kd.a2W hr hst.size⟩
    ·cases ho;have e44:=(hag.val_ (j:=11) (t:=44) rfl (hdep ⟨11,.data⟩ qG0 rfl)).trans (hS.vv 11 (hdep ⟨11,.data⟩ qG0 rfl) qF0)
     try dsimp only at e44
     have e46:=hag.val_ (j:=13) (t:=46) rfl (hdep ⟨13,.data⟩ qG0 rfl);have hst:=hS.get 1 qF0 hdn (.inr (hdep ⟨13,.data⟩ qG0 rfl));obtain ⟨hb,hr1⟩:=hst;obtain ⟨Ao,co,ev0⟩:=Kd.a1V hr1;have ev1:val 13 = .slice Ao (ownF f).length co:=ev0;rw [ev1] at e46;rw [ev0] at hr1;have hun:=a8E (wrA fs num i (num i)) (ownF f) HLN.out HLO.out Ar Ao cr co Z (Kd.a0I (Kd.a5K HFR.out) hb) (C_slice hr1);refine a6G (i:=14) (f:=15) rfl rfl rfl (fun _ _ =>rfl) (R:=fun e w' =>∃ v,e = .returned v∧Kd.R Kd.string 9 w' Z.heap.size (fun _ =>True) v (unionF (wrA fs num i (num i)) (ownF f))∧Below Z.heap.size Z w') ?_ ?_
     ·simp only [zA3,zE2,zV2,e44,e46];exact hun
     ·rintro e' w2 ⟨v2,rfl,hr,hb2⟩;refine ⟨v2,rfl,hK2 _ _ (hS.next 1 qF0 hdn (.inr (hdep ⟨13,.data⟩ qG0 rfl)) (fun h =>absurd h qF0) (fun v' hv _ =>?_))⟩;exact ⟨hb.trans (hb2.mono hb.size),by rw [hv];exact Kd.a2W hr hb.size⟩
    ·cases ho;have e33:=(hag.val_ (j:=0) (t:=33) rfl (hdep ⟨0,.data⟩ qG0 rfl)).trans (hS.vv 0 (hdep ⟨0,.data⟩ qG0 rfl) qF0)
     try dsimp only at e33
     have e37:=(hag.val_ (j:=4) (t:=37) rfl (hdep ⟨4,.data⟩ qG0 rfl)).trans (hS.vv 4 (hdep ⟨4,.data⟩ qG0 rfl) qF0)
     try dsimp only at e37
     refine a0F (i:=15) (r:=.pointer (some ⟨bw,num i,none⟩)) (w':=Z) rfl rfl (fun c h =>by cases h) ?_ ?_ (hK2 _ _ (hS.const qF0 hdn qF0 rfl))
     ·generalize a.eval = ev at *;simp [Oper.about,resolve,Target.leads,Sem.run_pure,go_sem,e33,e37,zI1.2 hnK]
     ·have ec:∀ v,a.eval (.const v) = v:=fun _ =>rfl
      generalize a.eval = ev at *;simp [execOp,go_sem,ec,e33,e37,zI1.2 hnK]
    ·cases ho;have e48:=(hag.val_ (j:=15) (t:=48) rfl (hdep ⟨15,.data⟩ qG0 rfl)).trans (hS.vv 15 (hdep ⟨15,.data⟩ qG0 rfl) qF0)
     try dsimp only at e48
     have e47:=hag.val_ (j:=14) (t:=47) rfl (hdep ⟨14,.data⟩ qG0 rfl);have hst:=hS.get 2 qF0 hdn (.inr (hdep ⟨14,.data⟩ qG0 rfl));obtain ⟨hb,hr1⟩:=hst;obtain ⟨Ao,co,ev0⟩:=Kd.a1V hr1;have ev1:val 14 = .slice Ao (unionF (wrA fs num i (num i)) (ownF f)).length co:=ev0;rw [ev1] at e47;rw [ev0] at hr1;have zz0:=a2L zw hb;have zzf:=a0Q (a0U HWA.out.o hb) (num i)
     refine a3C (i:=16) rfl rfl (fun c h =>by cases h) rfl (w':=Z.setCell ⟨bw,num i,none⟩ (.slice Ao (unionF (wrA fs num i (num i)) (ownF f)).length co)) ?_ (hK2 _ _ (hS.next 2 qF0 hdn (.inr (hdep ⟨14,.data⟩ qG0 rfl)) (fun _ i_ hi hni =>by
      match i_,hi with
      | 0,_ =>exact hdep ⟨0,.phase⟩ qG0 rfl
      | 1,_ =>exact hdep ⟨1,.phase⟩ qG0 rfl
      | 2,_ =>exact hdep ⟨2,.phase⟩ qG0 rfl
      | 3,_ =>exact hdep ⟨3,.phase⟩ qG0 rfl
      | 4,_ =>exact hdep ⟨4,.phase⟩ qG0 rfl
      | 5,_ =>exact hdep ⟨5,.phase⟩ qG0 rfl
      | 6,_ =>exact hdep ⟨6,.phase⟩ qG0 rfl
      | 7,_ =>exact hdep ⟨7,.phase⟩ qG0 rfl
      | 8,_ =>exact hdep ⟨8,.phase⟩ qG0 rfl
      | 9,_ =>exact hdep ⟨9,.phase⟩ qG0 rfl
      | 10,_ =>exact hdep ⟨10,.phase⟩ qG0 rfl
      | 11,_ =>exact hdep ⟨11,.phase⟩ qG0 rfl
      | 12,_ =>exact hdep ⟨12,.phase⟩ qG0 rfl
      | 13,_ =>exact absurd qF0 hni
      | 14,_ =>exact absurd qF0 hni
      | 15,_ =>exact hdep ⟨15,.data⟩ qG0 rfl
      | 16,_ =>exact absurd qF0 hni
      | q_ + 17,h =>omega) (fun v' _ _ =>⟨_,_,Z,rfl,hb,hr1⟩)))
     have ec:∀ v,a.eval (.const v) = v:=fun _ =>rfl
     generalize a.eval = ev at *;simp [execOp,go_sem,ec,e48,e47,zz0,zzf]
   case en9 =>
    intro Z done val hdn hS;simp only [putTmps,dstOf,zV1,zT0,zN1,Nat.reduceAdd,zB2,zK1,zT1,zK0,zN0,zX0,zY0];obtain ⟨A3,c3,Z0,rfl,hb9,hr9⟩:=hS.last (hdn 16 qF0);have hw10:=(HWA.out.below hb9).put HBWL.out hnK hr9;clear hS hdn zb0 zb1 zb2 zo zw zwf;have ews:Tarj.upd (wrA fs num i) (num i) (unionF (wrA fs num i (num i)) (ownF f)) = wrA fs num (i + 1):=by rw [a9W,show fnAt fs i = f from HFE.out.symm]
    rw [ews] at hw10;have HW10:=zA0 hw10;clear hw10 ews hb9 hr9;go_wp2;go_roundg k1
    case measure =>exact zS0 _
    case rel =>exact ⟨i + 1,_,by rw [zZ0,zM1 1];exact hi',by first | rw [hw] | simp [hw],HW10⟩
  ·have hie:i = fs.length:=by omega
   have hwA:=HW.out;rw [hie] at hwA;obtain ⟨r1,hr1⟩:∃ r,r = wrA fs num fs.length:=⟨_,rfl⟩;have hin1:InU (allOwn fs) r1:=by rw [hr1];exact c0D num fs.length (zG0 _)
   have hfin:=HFIN.out;rw [← hr1] at hwA hfin;have hgFr:Kd.F kL wr (fun q =>q < bw) Ag g.length g:=Kd.a5W HGF5.out (fun k hk _ =>hwA.fz k hk);have HFO:=zA0 (HFOLD.out wr (Kd.a5K hgFr));obtain ⟨L,hL⟩:∃ L,L = (List.range K).map fun k =>toI (tr k):=⟨_,rfl⟩
   have hLl:L.length = K:=by rw [hL];simp
   have hLg:∀ k,k < K→L.getD k [] = toI (tr k):=fun k hk =>by rw [hL,zF0,List.getElem?_map,List.getElem?_range hk];rfl
   rw [← hL] at HFO;have HWA:=zA0 hwA;have HBWR:=zA0 (a1K hwA.o);have HIN1:=zA0 hin1;have HFIN2:=zA0 hfin;have HLG:=zA0 hLg;clear hwA hgFr hin1 hfin hLg HW HFIN HFOLD hL hi
   go_upto_region 12 with (first
    | (go_at_call 31;(refine HFO.out.mono ?_;rintro z wF ⟨vF,rfl,hsF,hbF⟩;obtain ⟨AF,cF,eF⟩:=Kd.a4D (Kd.S_N hsF);rw [hLl] at eF;subst eF;have hFF:Kd.F kL wF (fun q =>q≠bw) AF K L:=Kd.N_F (Kd.a3F (Kd.S_N (Kd.a8Z hsF)) (fun k hk =>by have h1:=hk.2.1;have h2:=HBWR.out;omega));have HFF:=zA0 hFF;have HWF:=zA0 (HWA.out.below hbF);clear hsF hbF hFF)))
   go_loopg [53] K (fun kq v53 w' =>∃ (k:Nat) (v:Nat→Value),k + kq = K∧v53 = .int .i64 (k:Nat)∧Hid (WR w.heap.size bw K v (wrB tr k r1) w Ws w')∧Hid (Kd.F kL w' (fun q =>q≠bw) AF K L))
   case atStart =>exact ⟨0,_,by omega,rfl,HWF,HFF⟩
   case round =>
    obtain ⟨k,v,hk',rfl,HW,HFL⟩:=hrel;clear HWF HFF HWA;by_cases hk:k < K
    ·obtain ⟨ad,A0,c0,eA,hrow,hle,hF0⟩:=rowA HFL.out k hk;subst eA;obtain ⟨t,ht⟩:∃ t,t = tr k:=⟨_,rfl⟩;rw [HLG.out k hk,← ht,a1P] at hrow hle hF0;have hk0:(0:Int)≤(k:Int):=zI0 k;have hw:=pzS k qD0;obtain ⟨k1,rfl⟩:∃ k1,gk = k1 + 1:=⟨gk - 1,by omega⟩;obtain ⟨rk,hrk⟩:∃ r,r = wrB tr k r1:=⟨_,rfl⟩;have hW0:=HW.out;rw [← hrk] at hW0;have HT:=zA0 ht;have HRK:=zA0 hrk;have HF0:=zA0 hF0;have HWI:=zA0 (show WR w.heap.size bw K v (wrRow k (t.take 0) rk) w Ws wr from by rw [zN2];exact hW0);have HINK:=zA0 (show InU (allOwn fs) rk from by rw [hrk];exact c0B tr HIN1.out k);clear ht hrk hF0 hW0 HW;go_wp2;clear hrow;go_loopg [60] t.length (fun kq v60 w' =>∃ (j:Nat) (v:Nat→Value),j + kq = t.length∧v60 = .int .i64 (j:Nat)∧Hid (WR w.heap.size bw K v (wrRow k (t.take j) rk) w Ws w')∧Hid (Kd.F kL w' (fun q =>q≠bw) (some ad) K L)∧Hid (Kd.F kI w' (fun q =>q≠bw) A0 t.length (toI t)))
     case atStart =>exact ⟨0,_,by omega,rfl,HWI,HFL,HF0⟩
     case round =>
      obtain ⟨j,v,hj,rfl,HW,HFL,HFT⟩:=hrel;clear HWI HF0;by_cases hlt:j < t.length
      ·obtain ⟨m,hm⟩:∃ m,m = t[j]:=⟨_,rfl⟩;have hmK:m < K:=HTLT.out k m (by rw [hm,← HT.out];exact zD1 hlt);obtain ⟨ad1,eA1,hz0⟩:=Kd.a1Q (Kd.a5K HFT.out) (j:Int) (zI0 j) (zS1.2 hlt);subst eA1;rw [zM0] at hz0;have hz1:wr.cell? (ad1.add j) = some (.int .i64 (m:Nat)):=by
        rw [hz0];unfold rd;rw [zM0,a7A _ _ hlt,hm]
       have hm0:(0:Int)≤(m:Int):=zI0 m;have hlen:=(Kd.a5K HFT.out).2.1;have hwj:wrap64 ((j:Int) + 1) = ((j + 1:Nat):Int):=by simp only [wrap64];omega
       have HM:=zA0 hm;have HJ:=zA0 hj;obtain ⟨k2,rfl⟩:∃ k2,gk = k2 + 1:=⟨gk - 1,by omega⟩;clear hz0 hm hlen hj;go_upto_region 17 with (fail)
       clear hz1;obtain ⟨Ak,ck,zk,zkf,hFk⟩:=HW.out.cell hk;obtain ⟨Am,cm,zm,zmf,hFm⟩:=HW.out.cell hmK;have HFk:=zA0 hFk;have HFm:=zA0 hFm;have HBWL:=zA0 (show bw < wr.heap.size from a1K HW.out.o);have hin:=b2N k (t.take j) rk HINK.out;have HLK:=zA0 (zH0 (hin.len k) HSM.out.u);have HLM:=zA0 (zH0 (hin.len m) HSM.out.u);clear hFk hFm hin;refine (wpIn_wide (n:=5)).1 ?_;refine wpIn_region_any mixedO ?_;refine a3G _ (fun _ =>undef) (fun done val Z =>TF 13 [10,12] (fun ix_ =>match ix_ with | 0 =>.slice (some ⟨bw,0,none⟩) K K | 1 =>.int .i64 (k:Nat) | 2 =>.slice (some ⟨bw,0,none⟩) K K | 3 =>.int .i64 (k:Nat) | 4 =>.pointer (some ⟨bw,k,none⟩) | 5 =>.slice Ak (wrRow k (t.take j) rk k).length ck | 6 =>.slice (some ⟨bw,0,none⟩) K K | 7 =>.int .i64 (m:Nat) | 8 =>.pointer (some ⟨bw,m,none⟩) | 9 =>.slice Am (wrRow k (t.take j) rk m).length cm | 11 =>.pointer (some ⟨bw,k,none⟩) | _ =>undef) (ST17 wr bw k (unionF (wrRow k (t.take j) rk k) (wrRow k (t.take j) rk m))) done val Z) rfl qH0 _ ?hz17 ?st17 ?en17
       case hz17 =>exact TF.start qF0 qF0 (a1X (zJ0 _ _))
       case st17 =>
        intro i_ o done val a Z ho hdn hdep hag hS K2 hK2;have hm:i_ < 13:=by
         by_cases h:i_ < 13
         ·exact h
         ·rw [Array.getElem?_eq_none qA1] at ho;cases ho
        obtain rfl | rfl | rfl | rfl | rfl | rfl | rfl | rfl | rfl | rfl | rfl | rfl | rfl:i_ = 0∨i_ = 1∨i_ = 2∨i_ = 3∨i_ = 4∨i_ = 5∨i_ = 6∨i_ = 7∨i_ = 8∨i_ = 9∨i_ = 10∨i_ = 11∨i_ = 12:=by omega
        ·cases ho;have e5:a.eval (.tmp 5) = .slice (some ⟨bw,0,none⟩) K K:=hag.keep 5 rfl;refine a0F (i:=0) (r:=.slice (some ⟨bw,0,none⟩) K K) (w':=Z) rfl rfl (fun c h =>by cases h) rfl ?_ (hK2 _ _ (hS.const qF0 hdn qF0 rfl));have ec:∀ v,a.eval (.const v) = v:=fun _ =>rfl
         generalize a.eval = ev at *;simp [execOp,go_sem,ec,e5]
        ·cases ho;have e8:a.eval (.tmp 8) = .int .i64 (k:Nat):=hag.keep 8 rfl;refine a0F (i:=1) (r:=.int .i64 (k:Nat)) (w':=Z) rfl rfl (fun c h =>by cases h) rfl ?_ (hK2 _ _ (hS.const qF0 hdn qF0 rfl));have ec:∀ v,a.eval (.const v) = v:=fun _ =>rfl
         generalize a.eval = ev at *;simp [execOp,go_sem,ec,e8]
        ·cases ho;have e5:a.eval (.tmp 5) = .slice (some ⟨bw,0,none⟩) K K:=hag.keep 5 rfl;refine a0F (i:=2) (r:=.slice (some ⟨bw,0,none⟩) K K) (w':=Z) rfl rfl (fun c h =>by cases h) rfl ?_ (hK2 _ _ (hS.const qF0 hdn qF0 rfl));have ec:∀ v,a.eval (.const v) = v:=fun _ =>rfl
         generalize a.eval = ev at *;simp [execOp,go_sem,ec,e5]
        ·cases ho;have e8:a.eval (.tmp 8) = .int .i64 (k:Nat):=hag.keep 8 rfl;refine a0F (i:=3) (r:=.int .i64 (k:Nat)) (w':=Z) rfl rfl (fun c h =>by cases h) rfl ?_ (hK2 _ _ (hS.const qF0 hdn qF0 rfl));have ec:∀ v,a.eval (.const v) = v:=fun _ =>rfl
         generalize a.eval = ev at *;simp [execOp,go_sem,ec,e8]
        ·cases ho;have e66:=(hag.val_ (j:=2) (t:=66) rfl (hdep ⟨2,.data⟩ qG0 rfl)).trans (hS.vv 2 (hdep ⟨2,.data⟩ qG0 rfl) qF0)
         try dsimp only at e66
         have e67:=(hag.val_ (j:=3) (t:=67) rfl (hdep ⟨3,.data⟩ qG0 rfl)).trans (hS.vv 3 (hdep ⟨3,.data⟩ qG0 rfl) qF0)
         try dsimp only at e67
         refine a0F (i:=4) (r:=.pointer (some ⟨bw,k,none⟩)) (w':=Z) rfl rfl (fun c h =>by cases h) ?_ ?_ (hK2 _ _ (hS.const qF0 hdn qF0 rfl))
         ·generalize a.eval = ev at *;simp [Oper.about,resolve,Target.leads,Sem.run_pure,go_sem,e66,e67,zI1.2 hk]
         ·have ec:∀ v,a.eval (.const v) = v:=fun _ =>rfl
          generalize a.eval = ev at *;simp [execOp,go_sem,ec,e66,e67,zI1.2 hk]
        ·cases ho;have e68:=(hag.val_ (j:=4) (t:=68) rfl (hdep ⟨4,.data⟩ qG0 rfl)).trans (hS.vv 4 (hdep ⟨4,.data⟩ qG0 rfl) qF0)
         try dsimp only at e68
         obtain ⟨s_,hs_,hst_⟩:=hS.some (i:=5) qF0 hdn qF0;have hb:=ST17.below qX2 hst_;have zz0:=a2L zk hb;refine a0F (i:=5) (r:=.slice Ak (wrRow k (t.take j) rk k).length ck) (w':=Z) rfl rfl (fun c h =>by cases h) rfl ?_ (hK2 _ _ (hS.const qF0 hdn qF0 rfl));have ec:∀ v,a.eval (.const v) = v:=fun _ =>rfl
         generalize a.eval = ev at *;simp [execOp,go_sem,ec,e68,zz0]
        ·cases ho;have e5:a.eval (.tmp 5) = .slice (some ⟨bw,0,none⟩) K K:=hag.keep 5 rfl;refine a0F (i:=6) (r:=.slice (some ⟨bw,0,none⟩) K K) (w':=Z) rfl rfl (fun c h =>by cases h) rfl ?_ (hK2 _ _ (hS.const qF0 hdn qF0 rfl));have ec:∀ v,a.eval (.const v) = v:=fun _ =>rfl
         generalize a.eval = ev at *;simp [execOp,go_sem,ec,e5]
        ·cases ho;have e11:a.eval (.tmp 11) = .int .i64 (m:Nat):=hag.keep 11 rfl;refine a0F (i:=7) (r:=.int .i64 (m:Nat)) (w':=Z) rfl rfl (fun c h =>by cases h) rfl ?_ (hK2 _ _ (hS.const qF0 hdn qF0 rfl));have ec:∀ v,a.eval (.const v) = v:=fun _ =>rfl
         generalize a.eval = ev at *;simp [execOp,go_sem,ec,e11]
        ·cases ho;have e70:=(hag.val_ (j:=6) (t:=70) rfl (hdep ⟨6,.data⟩ qG0 rfl)).trans (hS.vv 6 (hdep ⟨6,.data⟩ qG0 rfl) qF0)
         try dsimp only at e70
         have e71:=(hag.val_ (j:=7) (t:=71) rfl (hdep ⟨7,.data⟩ qG0 rfl)).trans (hS.vv 7 (hdep ⟨7,.data⟩ qG0 rfl) qF0)
         try dsimp only at e71
         refine a0F (i:=8) (r:=.pointer (some ⟨bw,m,none⟩)) (w':=Z) rfl rfl (fun c h =>by cases h) ?_ ?_ (hK2 _ _ (hS.const qF0 hdn qF0 rfl))
         ·generalize a.eval = ev at *;simp [Oper.about,resolve,Target.leads,Sem.run_pure,go_sem,e70,e71,zI1.2 hmK]
         ·have ec:∀ v,a.eval (.const v) = v:=fun _ =>rfl
          generalize a.eval = ev at *;simp [execOp,go_sem,ec,e70,e71,zI1.2 hmK]
        ·cases ho;have e72:=(hag.val_ (j:=8) (t:=72) rfl (hdep ⟨8,.data⟩ qG0 rfl)).trans (hS.vv 8 (hdep ⟨8,.data⟩ qG0 rfl) qF0)
         try dsimp only at e72
         obtain ⟨s_,hs_,hst_⟩:=hS.some (i:=9) qF0 hdn qF0;have hb:=ST17.below qX2 hst_;have zz0:=a2L zm hb;refine a0F (i:=9) (r:=.slice Am (wrRow k (t.take j) rk m).length cm) (w':=Z) rfl rfl (fun c h =>by cases h) rfl ?_ (hK2 _ _ (hS.const qF0 hdn qF0 rfl));have ec:∀ v,a.eval (.const v) = v:=fun _ =>rfl
         generalize a.eval = ev at *;simp [execOp,go_sem,ec,e72,zz0]
        ·cases ho;have e69:=(hag.val_ (j:=5) (t:=69) rfl (hdep ⟨5,.data⟩ qG0 rfl)).trans (hS.vv 5 (hdep ⟨5,.data⟩ qG0 rfl) qF0)
         try dsimp only at e69
         have e73:=(hag.val_ (j:=9) (t:=73) rfl (hdep ⟨9,.data⟩ qG0 rfl)).trans (hS.vv 9 (hdep ⟨9,.data⟩ qG0 rfl) qF0)
         try dsimp only at e73
         have hst:=hS.get 0 qF0 hdn (.inl rfl);have hb:Below wr.heap.size wr Z:=hst;have hun:=a8E (wrRow k (t.take j) rk k) (wrRow k (t.take j) rk m) HLK.out HLM.out Ak Am ck cm Z (Kd.a0I (Kd.a5K HFk.out) hb) (Kd.a0I (Kd.a5K HFm.out) hb);refine a6G (i:=10) (f:=15) rfl rfl rfl (fun _ _ =>rfl) (R:=fun e w' =>∃ v,e = .returned v∧Kd.R Kd.string 9 w' Z.heap.size (fun _ =>True) v (unionF (wrRow k (t.take j) rk k) (wrRow k (t.take j) rk m))∧Below Z.heap.size Z w') ?_ ?_
         ·simp only [zA3,zE2,zV2,e69,e73];exact hun
         ·rintro e' w2 ⟨v2,rfl,hr,hb2⟩;refine ⟨v2,rfl,hK2 _ _ (hS.next 0 qF0 hdn (.inl rfl) (fun h =>absurd h qF0) (fun v' hv _ =>?_))⟩;exact ⟨hb.trans (hb2.mono hb.size),by rw [hv];exact Kd.a2W hr hb.size⟩
        ·cases ho;have e64:=(hag.val_ (j:=0) (t:=64) rfl (hdep ⟨0,.data⟩ qG0 rfl)).trans (hS.vv 0 (hdep ⟨0,.data⟩ qG0 rfl) qF0)
         try dsimp only at e64
         have e65:=(hag.val_ (j:=1) (t:=65) rfl (hdep ⟨1,.data⟩ qG0 rfl)).trans (hS.vv 1 (hdep ⟨1,.data⟩ qG0 rfl) qF0)
         try dsimp only at e65
         refine a0F (i:=11) (r:=.pointer (some ⟨bw,k,none⟩)) (w':=Z) rfl rfl (fun c h =>by cases h) ?_ ?_ (hK2 _ _ (hS.const qF0 hdn qF0 rfl))
         ·generalize a.eval = ev at *;simp [Oper.about,resolve,Target.leads,Sem.run_pure,go_sem,e64,e65,zI1.2 hk]
         ·have ec:∀ v,a.eval (.const v) = v:=fun _ =>rfl
          generalize a.eval = ev at *;simp [execOp,go_sem,ec,e64,e65,zI1.2 hk]
        ·cases ho;have e75:=(hag.val_ (j:=11) (t:=75) rfl (hdep ⟨11,.data⟩ qG0 rfl)).trans (hS.vv 11 (hdep ⟨11,.data⟩ qG0 rfl) qF0)
         try dsimp only at e75
         have e74:=hag.val_ (j:=10) (t:=74) rfl (hdep ⟨10,.data⟩ qG0 rfl);have hst:=hS.get 1 qF0 hdn (.inr (hdep ⟨10,.data⟩ qG0 rfl));obtain ⟨hb,hr1⟩:=hst;obtain ⟨Ao,co,ev0⟩:=Kd.a1V hr1;have ev1:val 10 = .slice Ao (unionF (wrRow k (t.take j) rk k) (wrRow k (t.take j) rk m)).length co:=ev0;rw [ev1] at e74;rw [ev0] at hr1;have zz0:=a2L zk hb;have zzf:=a0Q (a0U HW.out.o hb) (k)
         refine a3C (i:=12) rfl rfl (fun c h =>by cases h) rfl (w':=Z.setCell ⟨bw,k,none⟩ (.slice Ao (unionF (wrRow k (t.take j) rk k) (wrRow k (t.take j) rk m)).length co)) ?_ (hK2 _ _ (hS.next 1 qF0 hdn (.inr (hdep ⟨10,.data⟩ qG0 rfl)) (fun _ i_ hi hni =>by
          match i_,hi with
          | 0,_ =>exact hdep ⟨0,.phase⟩ qG0 rfl
          | 1,_ =>exact hdep ⟨1,.phase⟩ qG0 rfl
          | 2,_ =>exact hdep ⟨2,.phase⟩ qG0 rfl
          | 3,_ =>exact hdep ⟨3,.phase⟩ qG0 rfl
          | 4,_ =>exact hdep ⟨4,.phase⟩ qG0 rfl
          | 5,_ =>exact hdep ⟨5,.phase⟩ qG0 rfl
          | 6,_ =>exact hdep ⟨6,.phase⟩ qG0 rfl
          | 7,_ =>exact hdep ⟨7,.phase⟩ qG0 rfl
          | 8,_ =>exact hdep ⟨8,.phase⟩ qG0 rfl
          | 9,_ =>exact hdep ⟨9,.phase⟩ qG0 rfl
          | 10,_ =>exact absurd qF0 hni
          | 11,_ =>exact hdep ⟨11,.data⟩ qG0 rfl
          | 12,_ =>exact absurd qF0 hni
          | q_ + 13,h =>omega) (fun v' _ _ =>⟨_,_,Z,rfl,hb,hr1⟩)))
         have ec:∀ v,a.eval (.const v) = v:=fun _ =>rfl
         generalize a.eval = ev at *;simp [execOp,go_sem,ec,e75,e74,zz0,zzf]
       case en17 =>
        intro Z done val hdn hS;simp only [putTmps,dstOf,zV1,zT0,zN1,Nat.reduceAdd,zB2,zK1,zT1,zK0,zN0,zX0,zY0];obtain ⟨A3,c3,Z0,rfl,hb9,hr9⟩:=hS.last (hdn 12 qF0);have hw10:=(HW.out.below hb9).put HBWL.out hk hr9;have HFL9:=zA0 (Kd.a1U HFL.out hb9);have HFT9:=zA0 (Kd.a1U HFT.out hb9);clear hS hdn zk zkf zm zmf hb9 hr9;have ew:=b8P k t j hlt;rw [← HM.out] at ew;rw [← ew] at hw10;have HW10:=zA0 hw10;have HFL10:=zA0 (Kd.a9U (p:=⟨bw,k,none⟩) HFL9.out (fun _ hq =>hq) (.slice A3 (unionF (wrRow k (t.take j) rk k) (wrRow k (t.take j) rk m)).length c3));have HFT10:=zA0 (Kd.a9U (p:=⟨bw,k,none⟩) HFT9.out (fun _ hq =>hq) (.slice A3 (unionF (wrRow k (t.take j) rk k) (wrRow k (t.take j) rk m)).length c3));clear hw10 ew;go_wp2;go_roundg k2
        case measure =>exact zS0 _
        case rel =>exact ⟨j + 1,_,by rw [zZ0,zM1 1];exact HJ.out,by first | rw [hwj] | simp [hwj],HW10,HFL10,HFT10⟩
      ·have hje:j = t.length:=by omega
       have hw10:=HW.out;rw [hje,zH1,HT.out,HRK.out,← a9V] at hw10;have HW10:=zA0 hw10;clear hw10;go_wp2;go_roundg k1
       case measure =>exact zS0 _
       case rel =>exact ⟨k + 1,_,by rw [zZ0,zM1 1];exact hk',by first | rw [hw] | simp [hw],HW10,HFL⟩
    ·have hke:k = K:=by omega
     have hwF:=HW.out;rw [hke] at hwF;obtain ⟨rF,hrF⟩:∃ r,r = wrB tr K r1:=⟨_,rfl⟩;have hinF:InU (allOwn fs) rF:=by rw [hrF];exact c0B tr HIN1.out K
     have hfin:=HFIN2.out;rw [← hrF] at hwF hfin;have hp6:wr.heap[w.heap.size]? = some (.cells #[.slice A fs.length c] 24 (0,0)):=(hwF.fz _ HP5.out.2).trans HP5.out.1;have zp:wr.cell? ⟨w.heap.size,0,none⟩ = some (.slice A fs.length c):=(a0O hp6 0).trans rfl;have HWF:=zA0 hwF;have HINF:=zA0 hinF;have HFIN3:=zA0 hfin;clear hwF hinF hfin hp6 HW HFL HFIN2 hke;go_upto_region 22 with (fail)
     clear zp;obtain ⟨W3,hW3⟩:∃ W,W = wr:=⟨_,rfl⟩;have hwr3:Below W3.heap.size W3 wr:=by rw [hW3];exact zJ0 _ _
     rw [← hW3] at HWF;have HBE:=zA0 hwr3;clear hwr3 hW3;go_loopg [12,81] fs.length (fun kq v12 v81 w' =>∃ (i:Nat) (o:Value),i + kq = fs.length∧o = v12∧v81 = .int .i64 (i:Nat)∧Hid (Below W3.heap.size W3 w')∧Hid (Kd.N k42 42 w' W3.heap.size (fun q =>W3.heap.size≤q) o ((sigsF fs).take i)))
     case atStart =>exact ⟨0,_,by omega,rfl,rfl,HBE,zA0 (by rw [zN2];exact Kd.b9V _ _ _ _ _)⟩
     case round =>
      obtain ⟨i,v12,hi',rfl,rfl,HB,HN⟩:=hrel;clear HBE;by_cases hi:i < fs.length
      ·obtain ⟨ad,A1,c1,A2,c2,eA,x0,x1,x2,l1,g1,l2,g2⟩:=a6I (Kd.a0I HC.out (HWF.out.be.trans (HB.out.mono HWF.out.be.size))) (i:Int) (zI0 i) (zS1.2 hi);subst eA;rw [zM0] at x0 x1 x2;obtain ⟨f,hf⟩:∃ f,f = a1C fs (i:Int):=⟨_,rfl⟩;rw [← hf] at x0 x1 x2 l1 g1 l2 g2;have hi0:(0:Int)≤(i:Int):=zI0 i;have hw:=pz i qD0;have hnK:=HNUM.out i hi;obtain ⟨k1,rfl⟩:∃ k1,gk = k1 + 1:=⟨gk - 1,by omega⟩;have hba:Below wr.heap.size wr (wr.alloc (.cells #[.string f.f0,.slice A1 f.f1.length c1,.slice A2 f.f2.length c2] 34)):=a0B (zJ0 _ _) _;have HFE:=zA0 hf;have HB3:=zA0 (HB.out.trans (hba.mono HB.out.size));have HNA:=zA0 (Kd.a2J HN.out hba);have HNB:=zA0 (World.alloc_heap_new wr (.cells #[.string f.f0,.slice A1 f.f1.length c1,.slice A2 f.f2.length c2] 34));have HL1:=zA0 l1;clear hba g1 g2 l1 l2 hf HB HN;go_upto_region 24 with (fail)
       clear x0 x1 x2;generalize hbx:wr.heap.size = bx at HNB ⊢;clear hbx;generalize wr.alloc (.cells #[.string f.f0,.slice A1 f.f1.length c1,.slice A2 f.f2.length c2] 34) = Wa at HNA HB3 HNB ⊢;have zb0:Wa.cell? ⟨bx,0,none⟩ = some (.string f.f0):=(a0O HNB.out 0).trans rfl;have zb1:Wa.cell? ⟨bx,1,none⟩ = some (.slice A1 f.f1.length c1):=(a0O HNB.out 1).trans rfl;have hbo3:W3.heap[bo]? = some (.cells (ints g.length num) 3 (0,0)):=(HWF.out.fz bo HBO5.out.2).trans HBO5.out.1;have hig:i < g.length:=Nat.lt_of_lt_of_eq hi HGL.out.symm;have zo:W3.cell? ⟨bo,i,none⟩ = some (.int .i64 (num i:Nat)):=(a0O hbo3 i).trans (a3B _ hig);obtain ⟨Ar,cr,zw,zwf,hFr⟩:=HWF.out.cell hnK;have hn0:(0:Int)≤(num i:Int):=zI0 _;have HFR:=zA0 (Kd.a5D hFr);have HLN:=zA0 (zH0 (HINF.out.len (num i)) HSM.out.u);have HBX:=zA0 (a1K HNB.out);have hbx43:=HNB.out;have HBXC:=zA0 (show ∀ (Z:World) (q:Nat) (x:Value),Z.heap[bx]? = Wa.heap[bx]?→Wa.cell? ⟨bx,q,none⟩ = some x→Z.cell? ⟨bx,q,none⟩ = some x from fun Z q x h1 h2 =>(a0O (h1.trans hbx43) q).trans ((a0O hbx43 q).symm.trans h2))
       have HTS:=zA0 (show (sigsF fs).take (i + 1) = (sigsF fs).take i ++ [⟨f.f0,((f.f1.length:Nat):Int),rF (num i)⟩] from by
        have h1:i < (sigsF fs).length:=by rw [HFIN3.out];simpa using hi
        rw [zV0 h1]
        congr 2
        have h2:(sigsF fs)[i]? = some ⟨f.f0,((f.f1.length:Nat):Int),rF (num i)⟩:=by
         rw [HFIN3.out,List.getElem?_map,List.getElem?_range hi];rw [HFE.out];rfl
        rw [zE0 h1] at h2
        exact zD0 h2)
       have hi1:i≤1000:=zH0 (zY1 hi) hn;have HLO:=zA0 (zH0 (List.length_take_le i (sigsF fs)) hi1);clear hi1;obtain ⟨out,hout⟩:∃ o,o = (sigsF fs).take i:=⟨_,rfl⟩;rw [← hout] at HNA HTS HLO;have HNS:=HNA.out;clear hFr hbo3 hbx43 hout;refine (wpIn_wide (n:=5)).1 ?_;refine wpIn_region_any mixedO ?_;refine b2R _ (fun _ =>undef) (fun done val Z =>TF 18 [13,14,15,16,17] (fun ix_ =>match ix_ with | 0 =>v12 | 1 =>.pointer (some ⟨bx,0,none⟩) | 2 =>.string f.f0 | 3 =>.pointer (some ⟨bx,1,none⟩) | 4 =>.slice A1 f.f1.length c1 | 5 =>.int .i64 (f.f1.length:Nat) | 6 =>.slice (some ⟨bw,0,none⟩) K K | 7 =>.slice (some ⟨bo,0,none⟩) g.length g.length | 8 =>.int .i64 (i:Nat) | 9 =>.pointer (some ⟨bo,i,none⟩) | 10 =>.int .i64 (num i:Nat) | 11 =>.pointer (some ⟨bw,num i,none⟩) | 12 =>.slice Ar (rF (num i)).length cr | _ =>undef) (ST24 W3 Wa bx (rF (num i)) f.f0 f.f1.length out) done val Z) rfl qH0 _ ?hz24 ?st24 ?en24
       case hz24 =>exact TF.start qF0 qF0 (a1X (zJ0 _ _))
       case st24 =>
        intro i_ o done val a Z ho hdn hdep hag hun hS K2 hK2;have hm:i_ < 18:=by
         by_cases h:i_ < 18
         ·exact h
         ·rw [Array.getElem?_eq_none qA1] at ho;cases ho
        obtain rfl | rfl | rfl | rfl | rfl | rfl | rfl | rfl | rfl | rfl | rfl | rfl | rfl | rfl | rfl | rfl | rfl | rfl:i_ = 0∨i_ = 1∨i_ = 2∨i_ = 3∨i_ = 4∨i_ = 5∨i_ = 6∨i_ = 7∨i_ = 8∨i_ = 9∨i_ = 10∨i_ = 11∨i_ = 12∨i_ = 13∨i_ = 14∨i_ = 15∨i_ = 16∨i_ = 17:=by omega
        ·cases ho;have e12:a.eval (.tmp 12) = v12:=hun.at 12 17 (hS.al 0 qF0 hdn qF0) rfl;refine a0F (i:=0) (r:=v12) (w':=Z) rfl rfl (fun c h =>by cases h) rfl ?_ (hK2 _ _ (hS.const qF0 hdn qF0 rfl));have ec:∀ v,a.eval (.const v) = v:=fun _ =>rfl
         generalize a.eval = ev at *;simp [execOp,go_sem,ec,e12]
        ·cases ho;have e14:a.eval (.tmp 14) = .pointer (some ⟨bx,0,none⟩):=hag.keep 14 rfl;refine a0F (i:=1) (r:=.pointer (some ⟨bx,0,none⟩)) (w':=Z) rfl rfl (fun c h =>by cases h) rfl ?_ (hK2 _ _ (hS.const qF0 hdn qF0 rfl));have ec:∀ v,a.eval (.const v) = v:=fun _ =>rfl
         generalize a.eval = ev at *;simp [execOp,go_sem,ec,e14]
        ·cases ho;have e87:=(hag.val_ (j:=1) (t:=87) rfl (hdep ⟨1,.data⟩ qG0 rfl)).trans (hS.vv 1 (hdep ⟨1,.data⟩ qG0 rfl) qF0)
         try dsimp only at e87
         obtain ⟨s_,hs_,hst_⟩:=hS.some (i:=2) qF0 hdn qF0;have hb:=ST24.cell HBX.out HB3.out hst_;have zz0:=HBXC.out Z 0 _ hb.2 zb0;refine a0F (i:=2) (r:=.string f.f0) (w':=Z) rfl rfl (fun c h =>by cases h) rfl ?_ (hK2 _ _ (hS.const qF0 hdn qF0 rfl));have ec:∀ v,a.eval (.const v) = v:=fun _ =>rfl
         generalize a.eval = ev at *;simp [execOp,go_sem,ec,e87,zz0]
        ·cases ho;have e14:a.eval (.tmp 14) = .pointer (some ⟨bx,0,none⟩):=hag.keep 14 rfl;refine a0F (i:=3) (r:=.pointer (some ⟨bx,1,none⟩)) (w':=Z) rfl rfl (fun c h =>by cases h) rfl ?_ (hK2 _ _ (hS.const qF0 hdn qF0 rfl));have ec:∀ v,a.eval (.const v) = v:=fun _ =>rfl
         generalize a.eval = ev at *;simp [execOp,go_sem,ec,e14]
        ·cases ho;have e89:=(hag.val_ (j:=3) (t:=89) rfl (hdep ⟨3,.data⟩ qG0 rfl)).trans (hS.vv 3 (hdep ⟨3,.data⟩ qG0 rfl) qF0)
         try dsimp only at e89
         obtain ⟨s_,hs_,hst_⟩:=hS.some (i:=4) qF0 hdn qF0;have hb:=ST24.cell HBX.out HB3.out hst_;have zz0:=HBXC.out Z 1 _ hb.2 zb1;refine a0F (i:=4) (r:=.slice A1 f.f1.length c1) (w':=Z) rfl rfl (fun c h =>by cases h) rfl ?_ (hK2 _ _ (hS.const qF0 hdn qF0 rfl));have ec:∀ v,a.eval (.const v) = v:=fun _ =>rfl
         generalize a.eval = ev at *;simp [execOp,go_sem,ec,e89,zz0]
        ·cases ho;have e90:=(hag.val_ (j:=4) (t:=90) rfl (hdep ⟨4,.data⟩ qG0 rfl)).trans (hS.vv 4 (hdep ⟨4,.data⟩ qG0 rfl) qF0)
         try dsimp only at e90
         refine a0F (i:=5) (r:=.int .i64 (f.f1.length:Nat)) (w':=Z) rfl rfl (fun c h =>by cases h) rfl ?_ (hK2 _ _ (hS.const qF0 hdn qF0 rfl));have ec:∀ v,a.eval (.const v) = v:=fun _ =>rfl
         generalize a.eval = ev at *;simp [execOp,go_sem,ec,e90]
        ·cases ho;have e5:a.eval (.tmp 5) = .slice (some ⟨bw,0,none⟩) K K:=hag.keep 5 rfl;refine a0F (i:=6) (r:=.slice (some ⟨bw,0,none⟩) K K) (w':=Z) rfl rfl (fun c h =>by cases h) rfl ?_ (hK2 _ _ (hS.const qF0 hdn qF0 rfl));have ec:∀ v,a.eval (.const v) = v:=fun _ =>rfl
         generalize a.eval = ev at *;simp [execOp,go_sem,ec,e5]
        ·cases ho;have e4:a.eval (.tmp 4) = .slice (some ⟨bo,0,none⟩) g.length g.length:=hag.keep 4 rfl;refine a0F (i:=7) (r:=.slice (some ⟨bo,0,none⟩) g.length g.length) (w':=Z) rfl rfl (fun c h =>by cases h) rfl ?_ (hK2 _ _ (hS.const qF0 hdn qF0 rfl));have ec:∀ v,a.eval (.const v) = v:=fun _ =>rfl
         generalize a.eval = ev at *;simp [execOp,go_sem,ec,e4]
        ·cases ho;have e13:a.eval (.tmp 13) = .int .i64 (i:Nat):=hag.keep 13 rfl;refine a0F (i:=8) (r:=.int .i64 (i:Nat)) (w':=Z) rfl rfl (fun c h =>by cases h) rfl ?_ (hK2 _ _ (hS.const qF0 hdn qF0 rfl));have ec:∀ v,a.eval (.const v) = v:=fun _ =>rfl
         generalize a.eval = ev at *;simp [execOp,go_sem,ec,e13]
        ·cases ho;have e93:=(hag.val_ (j:=7) (t:=93) rfl (hdep ⟨7,.data⟩ qG0 rfl)).trans (hS.vv 7 (hdep ⟨7,.data⟩ qG0 rfl) qF0)
         try dsimp only at e93
         have e94:=(hag.val_ (j:=8) (t:=94) rfl (hdep ⟨8,.data⟩ qG0 rfl)).trans (hS.vv 8 (hdep ⟨8,.data⟩ qG0 rfl) qF0)
         try dsimp only at e94
         refine a0F (i:=9) (r:=.pointer (some ⟨bo,i,none⟩)) (w':=Z) rfl rfl (fun c h =>by cases h) ?_ ?_ (hK2 _ _ (hS.const qF0 hdn qF0 rfl))
         ·generalize a.eval = ev at *;simp [Oper.about,resolve,Target.leads,Sem.run_pure,go_sem,e93,e94,zI1.2 hig]
         ·have ec:∀ v,a.eval (.const v) = v:=fun _ =>rfl
          generalize a.eval = ev at *;simp [execOp,go_sem,ec,e93,e94,zI1.2 hig]
        ·cases ho;have e95:=(hag.val_ (j:=9) (t:=95) rfl (hdep ⟨9,.data⟩ qG0 rfl)).trans (hS.vv 9 (hdep ⟨9,.data⟩ qG0 rfl) qF0)
         try dsimp only at e95
         obtain ⟨s_,hs_,hst_⟩:=hS.some (i:=10) qF0 hdn qF0;have hb:=ST24.cell HBX.out HB3.out hst_;have zz0:=a2L zo hb.1;refine a0F (i:=10) (r:=.int .i64 (num i:Nat)) (w':=Z) rfl rfl (fun c h =>by cases h) rfl ?_ (hK2 _ _ (hS.const qF0 hdn qF0 rfl));have ec:∀ v,a.eval (.const v) = v:=fun _ =>rfl
         generalize a.eval = ev at *;simp [execOp,go_sem,ec,e95,zz0]
        ·cases ho;have e92:=(hag.val_ (j:=6) (t:=92) rfl (hdep ⟨6,.data⟩ qG0 rfl)).trans (hS.vv 6 (hdep ⟨6,.data⟩ qG0 rfl) qF0)
         try dsimp only at e92
         have e96:=(hag.val_ (j:=10) (t:=96) rfl (hdep ⟨10,.data⟩ qG0 rfl)).trans (hS.vv 10 (hdep ⟨10,.data⟩ qG0 rfl) qF0)
         try dsimp only at e96
         refine a0F (i:=11) (r:=.pointer (some ⟨bw,num i,none⟩)) (w':=Z) rfl rfl (fun c h =>by cases h) ?_ ?_ (hK2 _ _ (hS.const qF0 hdn qF0 rfl))
         ·generalize a.eval = ev at *;simp [Oper.about,resolve,Target.leads,Sem.run_pure,go_sem,e92,e96,zI1.2 hnK]
         ·have ec:∀ v,a.eval (.const v) = v:=fun _ =>rfl
          generalize a.eval = ev at *;simp [execOp,go_sem,ec,e92,e96,zI1.2 hnK]
        ·cases ho;have e97:=(hag.val_ (j:=11) (t:=97) rfl (hdep ⟨11,.data⟩ qG0 rfl)).trans (hS.vv 11 (hdep ⟨11,.data⟩ qG0 rfl) qF0)
         try dsimp only at e97
         obtain ⟨s_,hs_,hst_⟩:=hS.some (i:=12) qF0 hdn qF0;have hb:=ST24.cell HBX.out HB3.out hst_;have zz0:=a2L zw hb.1;refine a0F (i:=12) (r:=.slice Ar (rF (num i)).length cr) (w':=Z) rfl rfl (fun c h =>by cases h) rfl ?_ (hK2 _ _ (hS.const qF0 hdn qF0 rfl));have ec:∀ v,a.eval (.const v) = v:=fun _ =>rfl
         generalize a.eval = ev at *;simp [execOp,go_sem,ec,e97,zz0]
        ·cases ho;have e98:=(hag.val_ (j:=12) (t:=98) rfl (hdep ⟨12,.data⟩ qG0 rfl)).trans (hS.vv 12 (hdep ⟨12,.data⟩ qG0 rfl) qF0)
         try dsimp only at e98
         have hst:Below Wa.heap.size Wa Z:=hS.get 0 qF0 hdn (.inl rfl);have hb3:Below W3.heap.size W3 Z:=HB3.out.trans (hst.mono HB3.out.size);have hcl:=c3L (rF (num i)) Ar cr Z (Kd.a5K (Kd.a5W HFR.out (fun q hq hlt =>hb3.block q hlt))) (zH0 HLN.out qF0);refine a6G (i:=13) (f:=32) rfl rfl rfl (fun _ _ =>rfl) (R:=fun e w' =>∃ v,e = .returned v∧w'.ownsRow Z.heap.size 9 1 v (rF (num i)).length ((rF (num i)).map Value.string)∧Below Z.heap.size Z w') ?_ ?_
         ·simp only [zA3,zE2,zV2,e98];exact hcl
         ·rintro e' w2 ⟨v2,rfl,hr,hb2⟩;have hr2:Kd.R Kd.string 9 w2 Z.heap.size (fun _ =>True) v2 (rF (num i)):=Kd.a3M hr (fun _ _ =>trivial);refine ⟨v2,rfl,hK2 _ _ (hS.next 0 qF0 hdn (.inl rfl) (fun h =>absurd h qF0) (fun v' hv _ =>?_))⟩;exact ⟨hst.trans (hb2.mono hst.size),by rw [hv];exact Kd.a2W hr2 hst.size⟩
        ·cases ho;have e88:=(hag.val_ (j:=2) (t:=88) rfl (hdep ⟨2,.data⟩ qG0 rfl)).trans (hS.vv 2 (hdep ⟨2,.data⟩ qG0 rfl) qF0)
         try dsimp only at e88
         have e91:=(hag.val_ (j:=5) (t:=91) rfl (hdep ⟨5,.data⟩ qG0 rfl)).trans (hS.vv 5 (hdep ⟨5,.data⟩ qG0 rfl) qF0)
         try dsimp only at e91
         have e99:=hag.val_ (j:=13) (t:=99) rfl (hdep ⟨13,.data⟩ qG0 rfl);obtain ⟨hb,hr1⟩:=hS.get 1 qF0 hdn (.inr (hdep ⟨13,.data⟩ qG0 rfl));obtain ⟨Ao,co,ev0⟩:=Kd.a1V hr1;have ev1:val 13 = .slice Ao (rF (num i)).length co:=ev0;rw [ev1] at e99;refine a0F (i:=14) (r:=.agg #[.string f.f0,.int .i64 (f.f1.length:Nat),.slice Ao (rF (num i)).length co]) (w':=Z) rfl rfl (fun c h =>by cases h) rfl ?_ (hK2 _ _ (hS.next 1 qF0 hdn (.inr (hdep ⟨13,.data⟩ qG0 rfl)) (fun h =>absurd h qF0) (fun v' hv hlt =>?_)))
         ·have ec:∀ v,a.eval (.const v) = v:=fun _ =>rfl
          generalize a.eval = ev at *;simp [execOp,go_sem,ec,e88,e91,e99]
         ·have e0:v' 0 = val 13:=hlt 0 qF0;exact ⟨hb,by rw [e0];exact hr1,by rw [hv,e0,ev1]⟩
        ·cases ho;have e100:=hag.val_ (j:=14) (t:=100) rfl (hdep ⟨14,.data⟩ qG0 rfl);obtain ⟨hb,hr1,hv1⟩:=hS.get 2 qF0 hdn (.inr (hdep ⟨14,.data⟩ qG0 rfl));obtain ⟨Ao,co,ev0⟩:=Kd.a1V hr1;rw [ev0] at hr1 hv1;have ev1:val 14 = .agg #[.string f.f0,.int .i64 (f.f1.length:Nat),.slice Ao (rF (num i)).length co]:=hv1;rw [ev1] at e100;refine a0F (i:=15) (r:=.slice (some ⟨Z.heap.size,0,none⟩) 1 1) (w':=Z.alloc (.cells #[.string f.f0,.int .i64 (f.f1.length:Nat),.slice Ao (rF (num i)).length co] 42)) rfl rfl (fun c h =>by cases h) rfl ?_ (hK2 _ _ (hS.next 2 qF0 hdn (.inr (hdep ⟨14,.data⟩ qG0 rfl)) (fun h =>absurd h qF0) (fun v' hv _ =>⟨Ao,co,Z,rfl,hv,hb,hr1⟩)));have ec:∀ v,a.eval (.const v) = v:=fun _ =>rfl
         generalize a.eval = ev at *;simp [execOp,go_sem,ec,e100]
        ·cases ho;have e86:=(hag.val_ (j:=0) (t:=86) rfl (hdep ⟨0,.data⟩ qG0 rfl)).trans (hS.vv 0 (hdep ⟨0,.data⟩ qG0 rfl) qF0)
         try dsimp only at e86
         have e101:=hag.val_ (j:=15) (t:=101) rfl (hdep ⟨15,.data⟩ qG0 rfl);obtain ⟨Ao,co,Z0,hZ,ev2,hb,hr1⟩:=hS.get 3 qF0 hdn (.inr (hdep ⟨15,.data⟩ qG0 rfl));subst hZ;have ev3:val 15 = .slice (some ⟨Z0.heap.size,0,none⟩) 1 1:=ev2;rw [ev3] at e101;have hr2:Kd.F Kd.string Z0 (fun k =>Wa.heap.size≤k) Ao (rF (num i)).length (rF (num i)):=Kd.N_F (Kd.R_N (Kd.a6J rfl hr1 (fun k hk =>a2G (Kd.a2Y hr1) k hk)));have hfk:=k42_mkF Z0 (fun k =>Wa.heap.size≤k) (⟨f.f0,((f.f1.length:Nat):Int),rF (num i)⟩:S42) (c2:=co) (Kd.a1J hr1).2.1 hr2;have hno:=Kd.a2J HNS hb;have hob:Below W3.heap.size W3 Z0:=HB3.out.trans (hb.mono HB3.out.size);have hown:∀ k,v12.ownBlock = some k→k < Wa.heap.size:=fun k hk =>by obtain ⟨_,rows,_,hR,_⟩:=HNS;obtain ⟨_,ho⟩:=Kd.c3Z hR;exact a7E ho k hk
         refine a7G (i:=16) (s:=.tmp 86) (x:=.tmp 101) (t:=28) (t':=28) rfl rfl rfl ?_;refine Kd.b4B k42 W3.heap.size (w0:=W3) rfl (.tmp 86) (.tmp 101) 28 42 (.agg #[(.string ⟨#[]⟩),(.int .i64 0),(.slice none 0 0)]) 48 rfl Tryz.underlying28 info42 rfl qF0 qF0 v12 out ⟨f.f0,((f.f1.length:Nat):Int),rF (num i)⟩ [.string f.f0,.int .i64 ((f.f1.length:Nat):Int),.slice Ao (rF (num i)).length co] (fun q =>W3.heap.size≤q) (fun k =>Wa.heap.size≤k) e86 e101 hfk (fun k hk =>⟨zH0 HB3.out.size hk,fun e =>absurd (hown k e.symm) (zG3.2 hk)⟩) (fun k hk =>zH0 hob.size hk) hno hob hob.size (by have:=HLO.out;omega) ?_;intro v1 w1 hn1 hb1 hg1 _;refine hK2 v1 w1 (hS.next 3 qF0 hdn (.inr (hdep ⟨15,.data⟩ qG0 rfl)) (fun h =>absurd h qF0) (fun v' hv _ =>⟨hb1,?_,by rw [hv];exact hn1⟩));have hne:some bx≠v12.ownBlock:=Kd.N_ne HNS HNB.out qF0;rw [hg1.block bx (zF1 HBX.out hb.size) hne];exact hb.block bx HBX.out
        ·cases ho;have e102:=hag.val_ (j:=16) (t:=102) rfl (hdep ⟨16,.data⟩ qG0 rfl);have hst:=hS.get 4 qF0 hdn (.inr (hdep ⟨16,.data⟩ qG0 rfl));obtain ⟨hb,hbxx,hn1⟩:=hst
         refine a0F (i:=17) (r:=val 16) (w':=Z) rfl rfl (fun c h =>by cases h) rfl ?_ (hK2 _ _ (hS.next 4 qF0 hdn (.inr (hdep ⟨16,.data⟩ qG0 rfl)) (fun _ i_ hi hni =>by
           match i_,hi with
           | 0,_ =>exact hdep ⟨0,.phase⟩ qG0 rfl
           | 1,_ =>exact hdep ⟨1,.phase⟩ qG0 rfl
           | 2,_ =>exact hdep ⟨2,.phase⟩ qG0 rfl
           | 3,_ =>exact hdep ⟨3,.phase⟩ qG0 rfl
           | 4,_ =>exact hdep ⟨4,.phase⟩ qG0 rfl
           | 5,_ =>exact hdep ⟨5,.phase⟩ qG0 rfl
           | 6,_ =>exact hdep ⟨6,.phase⟩ qG0 rfl
           | 7,_ =>exact hdep ⟨7,.phase⟩ qG0 rfl
           | 8,_ =>exact hdep ⟨8,.phase⟩ qG0 rfl
           | 9,_ =>exact hdep ⟨9,.phase⟩ qG0 rfl
           | 10,_ =>exact hdep ⟨10,.phase⟩ qG0 rfl
           | 11,_ =>exact hdep ⟨11,.phase⟩ qG0 rfl
           | 12,_ =>exact hdep ⟨12,.phase⟩ qG0 rfl
           | 13,_ =>exact absurd qF0 hni
           | 14,_ =>exact absurd qF0 hni
           | 15,_ =>exact absurd qF0 hni
           | 16,_ =>exact absurd qF0 hni
           | 17,_ =>exact absurd qF0 hni
           | q_ + 18,h =>omega) (fun v' hv _ =>⟨hb,hbxx,by rw [hv];exact hn1⟩)))
         have ec:∀ v,a.eval (.const v) = v:=fun _ =>rfl
         generalize a.eval = ev at *;simp [execOp,go_sem,ec,e102]
       case en24 =>
        intro Z done val hdn hS;simp only [putTmps,dstOf,zV1,zT0,zN1,Nat.reduceAdd,zB2,zK1,zT1,zK0,zN0,zX0,zY0];have hst:=hS.last (hdn 17 qF0);obtain ⟨hb9,_,hn9⟩:=hst;have HB9:=zA0 hb9;have HN9:=zA0 hn9;clear hS hdn zb0 zb1 zo zw zwf hb9 hn9;go_wp2;go_roundg k1
        case measure =>exact zS0 _
        case rel =>exact ⟨i + 1,_,by rw [zZ0,zM1 1];exact hi',rfl,by first | rw [hw] | simp [hw],HB9,by rw [HTS.out];exact HN9⟩
      ·have hie:i = fs.length:=by omega
       have hn9:=HN.out;have hl9:(sigsF fs).length = fs.length:=by rw [HFIN3.out];simp
       rw [hie,← hl9,zH1] at hn9;have hB9:Below w.heap.size w wr:=HWF.out.be.trans (HB.out.mono HWF.out.be.size);have hn10:=Kd.a3F (ok':=fun q =>w.heap.size≤q) (Kd.a9C hn9 HWF.out.be.size) (fun q hq =>zH0 HWF.out.be.size hq);have HN10:=zA0 hn10;have dJ:=zA0 hB9;clear hn9 hn10 hB9 HN HB hl9;go_wp2
       first
        | exact ⟨_,rfl,HN10.out,dJ.out⟩
        | exact ⟨_,rfl,_,rfl,HN10.out,dJ.out⟩
        | (go_ret;exact ⟨_,rfl,HN10.out,dJ.out⟩)
        | exact (0:Nat)
end Go.Proofs.YthhgfncliffggaaGreat.Man
namespace Go.Proofs.YthhgfncliffggaaGreat.Pr
open Go.RowKit Go.Proofs.YthhgfncliffggaaGreatW.PrintWords Go.Proofs.YthhgfncliffggaaGreatW.PrintLast Go.Proofs.YthhgfncliffggaaGreatW.PrintMore
attribute [local go_sem] a3W a3V a4R a4Q a3Q a3P a4J a4I   -- for this text's walks alone
open Classical in
noncomputable def effects_Sigs.f (aC:List (S34)):Option ((List (S42))):=if Man.SmG aC then some (Man.sigsF aC) else none
theorem effects_Sigs.calls (aQ:Option Addr) (aN:Nat) (aC:List (S34)) (r:List (S42)) (w:World) (bT:Kd.C k34 w aQ aC.length aC) (bU:aC.length≤aN) (h:effects_Sigs.f aC = some r) :
  Calls Tryz.prog 9 #[.agg #[.slice aQ aC.length aN]] w fun e w' =>∃ v0_:Value,e = .returned (v0_)∧Kd.N k42 42 w' w.heap.size (fun k_ =>(w.heap.size≤k_)) v0_ r∧Below w.heap.size w w' :=
 by
 unfold effects_Sigs.f at h
 split at h
 ·next hN =>
  cases h;exact Man.b7L w aC aQ aN bU bT hN
 ·cases h
def r14_Texts.l0:Nat→List ByteArray→List ByteArray→Int→Option (Bool)
 | 0,_,_,_ =>none
 | k + 1,x0,x1,x5 =>if x5 < (x0.length:Int) then (if 0≤x5 then (if x5 < (x1.length:Int) then (if (rdOf ByteArray.empty x0 x5).toList = (rdOf ByteArray.empty x1 x5).toList then (r14_Texts.l0 k x0 x1 (wrap64 (x5 + 1))) else (some false)) else (none)) else (none)) else (some true)
def r14_Texts.f (k:Nat) (l0:List ByteArray) (l1:List ByteArray):Option (Bool):=if (l0.length:Int) = (l1.length:Int) then (r14_Texts.l0 k l0 l1 0) else (some false)
set_option maxHeartbeats 8000000 in
set_option maxRecDepth 100000 in
theorem r14_Texts.calls (k:Nat) (A0:Option Addr) (c0:Nat) (l0:List ByteArray) (A1:Option Addr) (c1:Nat) (l1:List ByteArray) (r:Bool) (w:World) (hr0:Kd.C Kd.string w A0 l0.length l0) (hc0:l0.length≤c0) (hr1:Kd.C Kd.string w A1 l1.length l1) (hc1:l1.length≤c1) (h:r14_Texts.f k l0 l1 = some r) :
    Calls Tryz.prog 10 #[.slice A0 l0.length c0,.slice A1 l1.length c1] w fun e w' =>e = .returned (.bool r)∧a0Z w w':=by
 have HR0:=a0C.mk hr0;have HC0:=a0C.mk hc0;clear hr0 hc0;have HR1:=a0C.mk hr1;have HC1:=a0C.mk hc1;clear hr1 hc1;have H:(if (l0.length:Int) = (l1.length:Int) then (r14_Texts.l0 k l0 l1 0) else (some false)) = some r:=h;clear h;by_cases c3:(l0.length:Int) = (l1.length:Int)
 ·rw [if_pos c3] at H;have c3b0:((l0.length:Int) == (l1.length:Int)) = true:=beq_iff_eq.mpr c3;have c3b1:((l0.length:Int) != (l1.length:Int)) = false:=bne_eq_false_iff_eq.mpr c3;have c3b2:(l0.length == l1.length) = true:=by first | simpa using c3 | (simp at c3 ⊢;omega)
  clear c3;have H':=a0C.mk H;clear H;go_enter Tryz.func10,Tryz.ntmps10
  go_wp2
  repeat (go_quiet (fail);try go_wp2)
  go_loopg [5] k (fun kq v5 w' =>∃ (aM:Int),v5 = .int .i64 aM∧a0C (r14_Texts.l0 kq l0 l1 aM = some r)∧a0C (kq≤k)∧a0Z w w')
  case atStart =>exact ⟨(0),qE0,H',⟨zG0 _⟩,by repeat (first | exact a0Z.refl _ | apply a0Z.step)⟩
  case round =>
   clear H';obtain ⟨aM,rfl,HA,HK1,⟨m1,rfl⟩⟩:=hrel;cases gk with
   | zero =>exact absurd HA.out (by simp [r14_Texts.l0])
   | succ k1 =>
    have H:=HA.out;clear HA;simp only [r14_Texts.l0] at H;by_cases c4:aM < (l0.length:Int)
    ·rw [if_pos c4] at H;have c4b0:decide (aM < (l0.length:Int)) = true:=zC0 c4;clear c4;by_cases c5:0≤aM
     ·rw [if_pos c5] at H;have c5b0:decide (0≤aM) = true:=zC0 c5;clear c5;by_cases c6:aM < (l1.length:Int)
      ·rw [if_pos c6] at H;have c6b0:decide (aM < (l1.length:Int)) = true:=zC0 c6;clear c6;by_cases c7:(rdOf ByteArray.empty l0 aM).toList = (rdOf ByteArray.empty l1 aM).toList
       ·rw [if_pos c7] at H;have c7b0:((rdOf ByteArray.empty l0 aM).toList == (rdOf ByteArray.empty l1 aM).toList) = true:=beq_iff_eq.mpr c7;have c7b1:((rdOf ByteArray.empty l0 aM).toList != (rdOf ByteArray.empty l1 aM).toList) = false:=bne_eq_false_iff_eq.mpr c7;clear c7;have H':=a0C.mk H;clear H;have p371:0≤(aM:Int):=zB0 qA0;have q371:aM < (l0.length:Int):=zB0 qA0;obtain ⟨ad371,e371,cO⟩:=Kd.a2D HR0.out aM p371 q371;cases e371;replace p371:=eq_true p371;replace q371:=eq_true q371;have p372:0≤(aM:Int):=zB0 qA0;have q372:aM < (l1.length:Int):=zB0 qA0;obtain ⟨ad372,e372,cQ⟩:=Kd.a2D HR1.out aM p372 q372;cases e372;replace p372:=eq_true p372;replace q372:=eq_true q372;go_wp2
        repeat (go_quiet (fail);try go_wp2)
        go_roundg k1
        case measure =>have:=HK1.out;omega
        case rel =>exact ⟨(wrap64 (aM + 1)),qE0,H',⟨by have:=HK1.out;omega⟩,by repeat (first | exact a0Z.refl _ | apply a0Z.step)⟩
       ·rw [if_neg c7] at H;have c7b0:((rdOf ByteArray.empty l0 aM).toList == (rdOf ByteArray.empty l1 aM).toList) = false:=beq_eq_false_iff_ne.mpr c7;have c7b1:((rdOf ByteArray.empty l0 aM).toList != (rdOf ByteArray.empty l1 aM).toList) = true:=bne_iff_ne.mpr c7;obtain rfl:=zD0 H;have p371:0≤(aM:Int):=zB0 qA0;have q371:aM < (l0.length:Int):=zB0 qA0;obtain ⟨ad371,e371,cO⟩:=Kd.a2D HR0.out aM p371 q371;cases e371;replace p371:=eq_true p371;replace q371:=eq_true q371;have p372:0≤(aM:Int):=zB0 qA0;have q372:aM < (l1.length:Int):=zB0 qA0;obtain ⟨ad372,e372,cQ⟩:=Kd.a2D HR1.out aM p372 q372;cases e372;replace p372:=eq_true p372;replace q372:=eq_true q372;go_wp2
        repeat (go_quiet (fail);try go_wp2)
        go_ret;exact qN3
      ·rw [if_neg c6] at H;exact absurd H qG0
     ·rw [if_neg c5] at H;exact absurd H qG0
    ·rw [if_neg c4] at H;have c4b0:decide (aM < (l0.length:Int)) = false:=zL0 c4;clear c4;obtain rfl:=zD0 H;go_wp2
     repeat (go_quiet (fail);try go_wp2)
     go_ret;exact qN3
 ·rw [if_neg c3] at H;have c3b0:((l0.length:Int) == (l1.length:Int)) = false:=beq_eq_false_iff_ne.mpr c3;have c3b1:((l0.length:Int) != (l1.length:Int)) = true:=bne_iff_ne.mpr c3;have c3b2:(l0.length == l1.length) = false:=by first | simpa using c3 | (simp at c3 ⊢;omega)
  obtain rfl:=zD0 H;go_enter Tryz.func10,Tryz.ntmps10
  go_wp2
  repeat (go_quiet (fail);try go_wp2)
  go_ret;exact qN3
end Go.Proofs.YthhgfncliffggaaGreat.Pr
namespace Go.Proofs.YthhgfncliffggaaGreat.Man
open Go.RowKit Go.Proofs.YthhgfncliffggaaGreat.Pr Go.Proofs.YthhgfncliffggaaGreatW.PrintWords
theorem pz14 (n:Nat) (h:n≤8000000000000):wrap64 ((n:Int) + 1) = ((n + 1:Nat):Int):=by simp only [wrap64];omega
theorem rd14 (l:List ByteArray) {i:Nat} (h:i < l.length):rdOf ByteArray.empty l (i:Int) = l[i]:=by
 unfold rdOf;rw [zM0,zF0,zE0 h];rfl
theorem c0J (l:List ByteArray) (hl:l.length≤8000000000000):Ev (fun k =>r14_Texts.f k l l) true:=by
 suffices h:∀ m i:Nat,i + m = l.length→Ev (fun k =>r14_Texts.l0 k l l (i:Int)) true by
  have:=h l.length 0 qD0;simpa [r14_Texts.f] using this
 intro m
 induction m with
 | zero =>
  intro i hi;have hnl:¬ ((i:Int) < (l.length:Int)):=by rw [show i = l.length from hi];exact zY3 _
  refine Ev.step ?_;simp only [r14_Texts.l0,if_neg hnl];exact Ev.const true
 | succ m ih =>
  intro i hi;have hil:i < l.length:=by omega
  have c1:(0:Int)≤(i:Int):=zI0 i;have c2:(i:Int) < (l.length:Int):=zS1.2 hil;have hw:=pz14 i (zH0 (zY1 hil) hl);refine Ev.step ?_;simp only [r14_Texts.l0,if_pos c1,if_pos c2,if_true,hw];exact ih (i + 1) qD0
def a4O (s:ByteArray):Bool→List ByteArray→List ByteArray
 | laid,[] =>if laid = true then [] else [s]
 | true,x :: r =>x :: a4O s true r
 | false,x :: r =>if Op.bytesLess s.toList x.toList = true then s :: x :: a4O s true r else if s.toList = x.toList then x :: a4O s true r else x :: a4O s false r
theorem b1V (s:ByteArray):∀ l:List ByteArray,a4O s true l = l
 | [] =>rfl
 | x :: r =>by rw [a4O,b1V s r]
theorem b0H (s : ByteArray) : ∀ l : List ByteArray, RisB l → RisB (a4O s false l) ∧ ∀ y, y ∈ a4O s false l ↔ y ∈ l ∨ y = s
  | [], _ => ⟨List.pairwise_singleton _ _, fun y => by simp [a4O]⟩
  | x :: r, h => by
    have h0 := h;unfold RisB at h;rw [zE2] at h;obtain ⟨hx, hr⟩ := zU2.1 h;have e1 : (Op.bytesLess s.toList x.toList = true) ↔ s.data.toList < x.data.toList := by rw [bytesLess_eq, Lib.toList_data, Lib.toList_data]; simp
    rw [a4O, b1V];by_cases h1 : Op.bytesLess s.toList x.toList = true
    · rw [if_pos h1]
      refine ⟨?_, fun y => by simp only [zO0]; constructor
                              · rintro (e | e | e)
                                · exact .inr e
                                · exact .inl (.inl e)
                                · exact .inl (.inr e)
                              · rintro ((e | e) | e)
                                · exact .inr (.inl e)
                                · exact .inr (.inr e)
                                · exact .inl e⟩
      unfold RisB;rw [zE2, zE2];refine zU2.2 ⟨fun y hy => ?_, h⟩;rcases zO0.1 hy with rfl | hy
      · exact e1.1 h1
      · exact List.lt_trans (e1.1 h1) (hx y hy)
    · rw [if_neg h1];by_cases h2 : s.toList = x.toList
      · rw [if_pos h2];have e : s = x := b1H (by rw [← Lib.toList_data, ← Lib.toList_data, h2]);refine ⟨h0, fun y => by rw [e, zO0]; exact ⟨.inl, fun h => h.elim id .inl⟩⟩
      · rw [if_neg h2];obtain ⟨i1, i2⟩ := b0H s r hr;refine ⟨?_, fun y => by rw [zO0, zO0, i2 y, or_assoc]⟩;unfold RisB;rw [zE2];refine zU2.2 ⟨fun y hy => ?_, i1⟩;obtain ⟨z, hz, rfl⟩ := zC2.1 hy;rcases (i2 z).1 hz with hz | rfl
        · exact hx _ (zC2.2 ⟨z, hz, rfl⟩)
        · have n1 : ¬ z.data.toList < x.data.toList := fun h => h1 (e1.2 h)
          have n2 : z.data.toList ≠ x.data.toList := fun h => h2 (by rw [Lib.toList_data, Lib.toList_data, h])
          rcases List.le_iff_lt_or_eq.1 (List.not_lt.1 n1) with h | h
          · exact h
          · exact absurd h.symm n2
theorem b9W (xs:List ByteArray) (s:ByteArray):a4O s false (capB xs) = capB (xs ++ [s]):=by
 obtain ⟨h1,h2⟩:=b0H s (capB xs) (a4G xs);exact h1.ext (a4G _) (fun y =>by rw [h2,a5H,a5H,zU0,zC1])
theorem c1K (l:List ByteArray) (j:Nat) (hj:j < l.length):l.drop j = rdOf ByteArray.empty l (j:Int) :: l.drop (j + 1):=by
 rw [rd14 l hj];exact zD2 hj
theorem with14 (l:List ByteArray) (s:ByteArray) (hl:l.length≤8000000000000):Ev (fun k =>r14_With.f k l s) (a4O s false l):=by
 suffices h:∀ (m j:Nat) (acc:List ByteArray) (laid:Bool),j + m = l.length→acc.length≤j + (if laid = true then 1 else 0)→Ev (fun k =>r14_With.l0 k l s acc laid (j:Int)) (acc ++ a4O s laid (l.drop j)) by
  have:=h l.length 0 [] false qD0 qG0;simpa [r14_With.f] using this
 intro m
 induction m with
 | zero =>
  intro j acc laid hj ha;have hje:j = l.length:=hj;have hnl:¬ ((j:Int) < (l.length:Int)):=by rw [hje];exact zY3 _
  have ha':acc.length≤l.length + 1:=by
   rw [← hje];refine zH0 ha ?_;split <;> omega
  have hcap:acc.length < 8796093022208:=by omega
  refine Ev.step ?_;rw [hje,zL2 (zG0 _)];rw [hje] at hnl;cases laid with
  | true =>simp only [r14_With.l0,if_neg hnl,if_true];simpa [a4O] using Ev.const acc
  | false =>simp only [r14_With.l0,if_neg hnl,Bool.false_eq_true,if_false,if_pos hcap];simpa [a4O] using Ev.const (acc ++ [s])
 | succ m ih =>
  intro j acc laid hj ha;have hjl:j < l.length:=by omega
  have c1:(0:Int)≤(j:Int):=zI0 j;have c2:(j:Int) < (l.length:Int):=zS1.2 hjl;have hw:=pz14 j (zH0 (zY1 hjl) hl);have hd:=c1K l j hjl;obtain ⟨x,hx⟩:∃ x,x = rdOf ByteArray.empty l (j:Int):=⟨_,rfl⟩;rw [hd,← hx];refine Ev.step (Ev.step ?_);cases laid with
  | true =>
   have ha0:acc.length≤j + 1:=by simpa using ha
   have hcap:acc.length < 8796093022208:=by omega
   have h2:=ih (j + 1) (acc ++ [x]) true qD0 qA1;rw [show acc ++ a4O s true (x :: l.drop (j + 1)) = (acc ++ [x]) ++ a4O s true (l.drop (j + 1)) by simp [a4O]];by_cases e:s.toList = x.toList
   ·simp only [r14_With.l0,r14_With.j1,if_pos c1,if_pos c2,if_true,Bool.false_eq_true,if_false,if_pos hcap,← hx,hw,if_pos e];exact h2
   ·simp only [r14_With.l0,r14_With.j1,if_pos c1,if_pos c2,if_true,Bool.false_eq_true,if_false,if_pos hcap,← hx,hw,if_neg e];exact h2
  | false =>
   have ha0:acc.length≤j:=by simpa using ha
   have hcap:acc.length < 8796093022208:=by omega
   have hcap2:(acc ++ [s]).length < 8796093022208:=by simp;omega
   by_cases h1:Op.bytesLess s.toList x.toList = true
   ·have h2:=ih (j + 1) (acc ++ [s] ++ [x]) true qD0 qA1;rw [show acc ++ a4O s false (x :: l.drop (j + 1)) = (acc ++ [s] ++ [x]) ++ a4O s true (l.drop (j + 1)) by simp [a4O,h1]];by_cases e:s.toList = x.toList
    ·simp only [r14_With.l0,r14_With.j1,if_pos c1,if_pos c2,if_true,Bool.false_eq_true,if_false,if_pos hcap,if_pos hcap2,← hx,hw,h1,zK0,if_pos e];exact h2
    ·simp only [r14_With.l0,r14_With.j1,if_pos c1,if_pos c2,if_true,Bool.false_eq_true,if_false,if_pos hcap,if_pos hcap2,← hx,hw,h1,zK0,if_neg e];exact h2
   ·by_cases e:s.toList = x.toList
    ·have h2:=ih (j + 1) (acc ++ [x]) true qD0 qA1;rw [show acc ++ a4O s false (x :: l.drop (j + 1)) = (acc ++ [x]) ++ a4O s true (l.drop (j + 1)) by rw [a4O,if_neg h1,if_pos e];simp];simp only [r14_With.l0,r14_With.j1,if_pos c1,if_pos c2,Bool.false_eq_true,if_false,if_pos hcap,← hx,hw,if_neg h1,if_pos e];exact h2
    ·have h2:=ih (j + 1) (acc ++ [x]) false qD0 qA1;rw [show acc ++ a4O s false (x :: l.drop (j + 1)) = (acc ++ [x]) ++ a4O s false (l.drop (j + 1)) by rw [a4O,if_neg h1,if_neg e];simp];simp only [r14_With.l0,r14_With.j1,if_pos c1,if_pos c2,Bool.false_eq_true,if_false,if_pos hcap,← hx,hw,if_neg h1,if_neg e];exact h2
theorem b7G (xs:List ByteArray) (s:ByteArray) (hl:xs.length≤8000000000000):Ev (fun k =>r14_With.f k (capB xs) s) (capB (xs ++ [s])):=by
 rw [← b9W];exact with14 _ _ (zH0 (capB_len xs) hl)
theorem b1X (l:List ByteArray) (i:Nat) (hi:i < l.length):l.take (i + 1) = l.take i ++ [rdOf ByteArray.empty l (i:Int)]:=by
 rw [rd14 l hi,zV0 hi]
theorem c1M (a b:List ByteArray) (ha:a.length≤1000000000) (hb:b.length≤1000000000):Ev (fun k =>r14_Union.f k a b) (unionF a b):=by
 have L1:∀ m i:Nat,i + m = b.length→Ev (fun k =>r14_Union.l1 k b (capB (a ++ b.take i)) (i:Int)) (unionF a b):=by
  intro m
  induction m with
  | zero =>
   intro i hi;have hnl:¬ ((i:Int) < (b.length:Int)):=by rw [show i = b.length from hi];exact zY3 _
   refine Ev.step ?_;simp only [r14_Union.l1,if_neg hnl];rw [show i = b.length from hi,zH1];exact Ev.const _
  | succ m ih =>
   intro i hi;have hil:i < b.length:=by omega
   have c1:(0:Int)≤(i:Int):=zI0 i;have c2:(i:Int) < (b.length:Int):=zS1.2 hil;have hw:=pz14 i qD0;refine Ev.step ?_;simp only [r14_Union.l1,if_pos c1,if_pos c2,hw];refine Ev.bind (b7G _ _ (by rw [zR0,zG1];omega)) ?_;rw [zR2,← b1X b i hil];exact ih (i + 1) qD0
 have L0:∀ m i:Nat,i + m = a.length→Ev (fun k =>r14_Union.l0 k a b (capB (a.take i)) (i:Int)) (unionF a b):=by
  intro m
  induction m with
  | zero =>
   intro i hi;have hnl:¬ ((i:Int) < (a.length:Int)):=by rw [show i = a.length from hi];exact zY3 _
   refine Ev.step ?_;simp only [r14_Union.l0,if_neg hnl];rw [show i = a.length from hi,zH1];have:=L1 b.length 0 qD0;rwa [zN2,zO2] at this
  | succ m ih =>
   intro i hi;have hil:i < a.length:=by omega
   have c1:(0:Int)≤(i:Int):=zI0 i;have c2:(i:Int) < (a.length:Int):=zS1.2 hil;have hw:=pz14 i qD0;refine Ev.step ?_;simp only [r14_Union.l0,if_pos c1,if_pos c2,hw];refine Ev.bind (b7G _ _ (by rw [zG1];omega)) ?_;rw [← b1X a i hil];exact ih (i + 1) qD0
 have:=L0 a.length 0 qD0;rw [zN2] at this;unfold r14_Union.f;have e:capB ([]:List ByteArray) = []:=(a4G _).ext RisB.nil (fun x =>a5H);rw [e] at this;exact this
theorem capB_nil:capB ([]:List ByteArray) = []:=(a4G _).ext RisB.nil (fun x =>a5H)
theorem c0G (xs ys:List ByteArray):unionF (capB xs) ys = capB (xs ++ ys):=(a4B _ _).ext (a4G _) (fun x =>by rw [a5P,a5H,a5H,zU0])
theorem c1V (L:List S65):(L.flatMap ownG).length≤L.length:=by
 induction L with
 | nil =>exact zG0 _
 | cons s r ih =>
  have:=b3G s;simp only [List.flatMap_cons,zR0,zT0];omega
theorem a9O (fs:List S34):(allOwn fs).length≤total fs:=by
 unfold allOwn total
 induction fs with
 | nil =>exact zG0 _
 | cons f r ih =>
  have:=c1V (flat f.f2);simp only [List.flatMap_cons,zR0];omega
theorem smG_of {fs:List S34} (hl:LowP fs) (hn:fs.length≤1000) (ht:total fs≤1048576):SmG fs:=by
 refine ⟨hn,fun f hf =>?_,zH0 (a9O fs) qD0⟩;refine zH0 ?_ (zH0 ht qD0);obtain ⟨a,b,rfl⟩:=List.append_of_mem hf;unfold total;simp only [List.flatMap_append,List.flatMap_cons,zR0];omega
def ownI (fs:List S34) (x:Int):List ByteArray:=ownF (a1C fs x)
section
variable {fs:List S34}
theorem ownI_len (hs:SmG fs) {z:Nat} (hz:z < fs.length):(ownI fs (z:Int)).length≤1050000 :=
 zH0 (a8T _ _ (a8W _).nodup (b3E hz)) hs.u
theorem b9Y (hs:SmG fs) {i:Nat} (hi:i < fs.length):(wrF fs (numN (callsF fs) i)).length≤(allOwn fs).length :=
 a8T _ _ (b9X _).nodup (fun x hx =>by
  obtain ⟨z,hz,_,hx⟩:=(b2O hs.n hi).1 hx
  exact b3E hz x hx)
end
attribute [local go_sem] Oper.semAt_some
open Go.Proofs.YthhgfncliffggaaGreat.Tarj
theorem sizePR:(Tryz.prog.info? 24).map (·.size) = some 1:=by kernel_rfl
theorem sizeFT:(Tryz.prog.info? 52).map (·.size) = some 2:=by kernel_rfl
theorem p14_lay (w:World):Calls Tryz.prog 26 #[.string a3D] w fun x w' =>∃ A c,x = .returned (.tuple #[.agg #[.slice A 3 c],.agg #[.int .i64 0,.int .i64 0]])∧3≤c∧Kd.F k34 w' (fun k =>w.heap.size≤k) A 3 a1W∧Below w.heap.size w w' :=
 (c1S w).mono fun e w' ⟨v,he,hR,hb⟩ =>by
  obtain ⟨A,c,rfl,h1,h2⟩:=hR.tell;exact ⟨A,c,he,h1,h2,hb⟩
theorem c3P:callsF a1W = [[1],[0],[]]:=by
 simp [callsF,callsOf,a1W,flat,applies,coll,calledBy,funIx,firstIx,allIx,srt,Lib.compact,List.range_succ]
 <;> (refine ⟨?_,?_,?_⟩ <;> first | rfl | decide)
def b2B:Nat→List ByteArray
 | 0 =>[(⟨#[112]⟩:ByteArray)]
 | 1 =>[(⟨#[113]⟩:ByteArray)]
 | _ =>[]
theorem a6F (z:Nat) (hz:z < 3) (x:ByteArray):x ∈ ownF (fnAt a1W z) ↔ x ∈ b2B z:=by
 rw [b3H]
 match z,hz with
 | 0,_ =>simp [b2B,fnAt,a1C,a1W,flat,ownG]
 | 1,_ =>simp [b2B,fnAt,a1C,a1W,flat,ownG]
 | 2,_ =>simp [b2B,fnAt,a1C,a1W,flat,ownG]
theorem adj14:adjF (callsF a1W) 0 = [1]∧adjF (callsF a1W) 1 = [0]∧adjF (callsF a1W) 2 = []:=by
 rw [c3P];exact ⟨rfl,rfl,rfl⟩
theorem rch14 {i z:Nat} (r:Rch (adjF (callsF a1W)) i z) (hi:i < 3):(i = 2→z = 2)∧(i < 2→z < 2):=by
 obtain ⟨a0,a1,a2⟩:=adj14;constructor
 ·rintro rfl;exact r.closed (fun v =>v = 2) (fun v hv y hy =>by rw [hv,a2] at hy;cases hy) rfl
 ·intro h;refine r.closed (fun v =>v < 2) (fun v hv y hy =>?_) h
  match v,hv with
  | 0,_ =>rw [a0] at hy;simp at hy;omega
  | 1,_ =>rw [a1] at hy;simp at hy;omega
def wr14:Nat→List ByteArray
 | 0 =>[(⟨#[112]⟩:ByteArray),(⟨#[113]⟩:ByteArray)]
 | 1 =>[(⟨#[112]⟩:ByteArray),(⟨#[113]⟩:ByteArray)]
 | _ =>[]
theorem wrF14 (i:Nat) (hi:i < 3):wrF a1W (numN (callsF a1W) i) = wr14 i:=by
 obtain ⟨a0,a1,a2⟩:=adj14;have r01:Rch (adjF (callsF a1W)) 0 1:=.one (by rw [a0];simp);have r10:Rch (adjF (callsF a1W)) 1 0:=.one (by rw [a1];simp);refine RisB.ext (b9X _) ?_ (fun x =>?_)
 ·match i,hi with
  | 0,_ =>unfold RisB;decide
  | 1,_ =>unfold RisB;decide
  | 2,_ =>exact RisB.nil
 ·rw [b2O qF0 (show i < a1W.length from hi)];constructor
  ·rintro ⟨z,hz,r,hx⟩;rw [a6F z hz] at hx;have h:=rch14 r hi
   match i,hi,z,hz with
   | 0,_,0,_ =>exact zO0.2 (.inl (by simpa [b2B] using hx))
   | 0,_,1,_ =>exact zQ0 _ hx
   | 1,_,0,_ =>exact zO0.2 (.inl (by simpa [b2B] using hx))
   | 1,_,1,_ =>exact zQ0 _ hx
   | 0,_,2,_ =>cases hx
   | 1,_,2,_ =>cases hx
   | 2,_,2,_ =>cases hx
   | 2,_,0,_ =>exact absurd (h.1 rfl) qF0
   | 2,_,1,_ =>exact absurd (h.1 rfl) qF0
  ·intro hx
   match i,hi with
   | 0,_ =>
    rcases zO0.1 hx with e | e
    ·exact ⟨0,by decide,.refl _,(a6F 0 qF0 x).2 (by rw [e];exact zP0)⟩
    ·exact ⟨1,by decide,r01,(a6F 1 qF0 x).2 e⟩
   | 1,_ =>
    rcases zO0.1 hx with e | e
    ·exact ⟨0,by decide,r10,(a6F 0 qF0 x).2 (by rw [e];exact zP0)⟩
    ·exact ⟨1,by decide,.refl _,(a6F 1 qF0 x).2 e⟩
   | 2,_ =>cases hx
def a8H:List S42:=[⟨(⟨#[102]⟩:ByteArray),1,[(⟨#[112]⟩:ByteArray),(⟨#[113]⟩:ByteArray)]⟩,⟨(⟨#[103]⟩:ByteArray),0,[(⟨#[112]⟩:ByteArray),(⟨#[113]⟩:ByteArray)]⟩,⟨(⟨#[104]⟩:ByteArray),0,[]⟩]
theorem sig14:sigsF a1W = a8H:=by
 unfold sigsF;rw [show List.range a1W.length = [0,1,2] from rfl];simp only [zE2,zV2];rw [wrF14 0 qF0,wrF14 1 qF0,wrF14 2 qF0]
 rfl
theorem sm14:SmG a1W:=by
 refine ⟨by decide,fun f hf =>?_,?_⟩
 ·simp only [a1W,zO0,List.not_mem_nil,or_false] at hf;rcases hf with rfl | rfl | rfl <;> simp [flat]
 ·simp [allOwn,a1W,flat,ownG]
theorem sigs14 (A:Option Addr) (c:Nat) (w:World) (hc:3≤c) (hC:Kd.C k34 w A 3 a1W):Calls Tryz.prog 9 #[.agg #[.slice A 3 c]] w fun e w' =>∃ A c,e = .returned (.slice A 3 c)∧3≤c∧Kd.C k42 w' A 3 a8H∧Below w.heap.size w w':=by
 refine (b7L w a1W A c hc hC sm14).mono ?_;rintro e w' ⟨v,rfl,hN,hb⟩;rw [sig14] at hN;obtain ⟨A',c',rfl⟩:=Kd.a4D hN;obtain ⟨_,h1,h2⟩:=Kd.a2U hN;exact ⟨A',c',rfl,h1,h2,hb⟩
theorem b4R {w:World} {A:Option Addr} (h:Kd.C k42 w A 3 a8H):∃ ad V d,A = some ad∧w.cell? ((ad.add 0).add 1) = some (.int .i64 1)∧w.cell? ((ad.add 0).add 2) = some (.slice V 2 d)∧2≤d∧Kd.C Kd.string w V 2 [(⟨#[112]⟩:ByteArray),(⟨#[113]⟩:ByteArray)]:=by
 obtain ⟨ad,V,d,e,y0,y1,y2,m,n⟩:=a9M h 0 qF0 qF0;exact ⟨ad,V,d,e,y1,y2,m,n⟩
theorem c0T {w:World} {A:Option Addr} (h:Kd.C k42 w A 3 a8H):∃ ad V d,A = some ad∧w.cell? ((ad.add 3).add 1) = some (.int .i64 0)∧w.cell? ((ad.add 3).add 2) = some (.slice V 2 d)∧2≤d∧Kd.C Kd.string w V 2 [(⟨#[112]⟩:ByteArray),(⟨#[113]⟩:ByteArray)]:=by
 obtain ⟨ad,V,d,e,y0,y1,y2,m,n⟩:=a9M h 1 qF0 qF0;exact ⟨ad,V,d,e,y1,y2,m,n⟩
theorem c0S {w:World} {A:Option Addr} (h:Kd.C k42 w A 3 a8H):∃ ad V d,A = some ad∧w.cell? ((ad.add 6).add 1) = some (.int .i64 0)∧w.cell? ((ad.add 6).add 2) = some (.slice V 0 d)∧0≤d∧Kd.C Kd.string w V 0 []:=by
 obtain ⟨ad,V,d,e,y0,y1,y2,m,n⟩:=a9M h 2 qF0 qF0;exact ⟨ad,V,d,e,y1,y2,m,n⟩
theorem own14_is:ownF (a1C a1W 0) = [(⟨#[112]⟩:ByteArray)] :=
 RisB.ext (a8W _) (by unfold RisB;decide) (fun x =>a6F 0 qF0 x)
theorem own14 (A1 A2:Option Addr) (c1 c2:Nat) (w:World) (l2:(a1C a1W 0).f2.length≤c2) (g2:Kd.C k65 w A2 (a1C a1W 0).f2.length (a1C a1W 0).f2) :
  Calls Tryz.prog 11 #[.agg #[.string (a1C a1W 0).f0,.slice A1 (a1C a1W 0).f1.length c1,.slice A2 (a1C a1W 0).f2.length c2]] w fun e w' =>∃ A c,e = .returned (.slice A 1 c)∧1≤c∧Kd.C Kd.string w' A 1 [(⟨#[112]⟩:ByteArray)]∧Below w.heap.size w w':=by
 refine (b6I w (a1C a1W 0) A1 A2 c1 c2 l2 g2 (sm14.b _ zP0)).mono ?_;rintro e w' ⟨v,rfl,ho,hb⟩;rw [own14_is] at ho;obtain ⟨A,c,rfl,h1,h2⟩:=Kd.a3T ho;exact ⟨A,c,rfl,h1,h2,hb⟩
theorem all14 (A:Option Addr) (c:Nat) (w:World) (hC:Kd.C k42 w A 3 a8H):Calls Tryz.prog 17 #[.slice A 3 c] w fun e w' =>∃ A c,e = .returned (.slice A 2 c)∧2≤c∧Kd.C Kd.string w' A 2 [(⟨#[112]⟩:ByteArray),(⟨#[113]⟩:ByteArray)]∧Below w.heap.size w w':=by
 refine (c3U a8H A c w hC qF0 qF0).mono ?_;rintro e w' ⟨v,rfl,ho,hb⟩
 have e1:allF a8H = [(⟨#[112]⟩:ByteArray),(⟨#[113]⟩:ByteArray)]:=RisB.ext (a4B _ _) (by unfold RisB;decide) (fun x =>by
  unfold allF;rw [a5P];simp [a8H]
  try grind)
 rw [e1] at ho;obtain ⟨A,c,rfl,h1,h2⟩:=Kd.a3T ho;exact ⟨A,c,rfl,h1,h2,hb⟩
theorem addr14 (a:Addr):a.add 0 = a:=by
 unfold Addr.add;simp
theorem b6P {w:World} {g:Nat} {a b:ByteArray} (h:w.heap[g]? = some (.cells #[.string a,.string b] 9 (0,0))):Kd.C Kd.string w (some ⟨g,0,none⟩) 2 [a,b]:=by
 refine Kd.a6K (d:=ByteArray.empty) ⟨rfl,by decide,fun _ =>⟨_,rfl,fun j hj =>?_⟩⟩;rw [a5J,zG2,a0O h j]
 match j,hj with
 | 0,_ =>rfl
 | 1,_ =>rfl
theorem lit14_1 {w:World} {g:Nat} {a:ByteArray} (h:w.heap[g]? = some (.cells #[.string a] 9 (0,0))):Kd.C Kd.string w (some ⟨g,0,none⟩) 1 [a]:=by
 refine Kd.a6K (d:=ByteArray.empty) ⟨rfl,by decide,fun _ =>⟨_,rfl,fun j hj =>?_⟩⟩;rw [a5J,zG2,a0O h j]
 match j,hj with
 | 0,_ =>rfl
set_option maxRecDepth 100000 in
set_option maxHeartbeats 16000000 in
theorem c3D (w:World):Calls Tryz.prog 8 #[] w fun e w' =>e = .returned (.bool true)∧Below w.heap.size w w':=by
 have HB:=zA0 (zJ0 w.heap.size w);go_enter Tryz.func8,Tryz.ntmps8
 go_wp2_with (first
  | (go_at_call 26;(with_reducible refine (a3Y (args':=#[.string a3D]) ?hs (p14_lay _)).mono ?_);(case hs =>rfl);rintro x w1 ⟨AP,cP,rfl,hcc,hF,hb⟩;have HB:=hs_ HB hb;obtain ⟨loP,hlo⟩:∃ lo,lo = w1.heap.size:=⟨_,rfl⟩;have FP:=zA0 (Kd.a2X (ok':=fun k =>k < loP) (Kd.a5D hF) (fun k hk =>by rw [hlo];exact hk.2));have HLOP:=zA0 (show loP≤w1.heap.size by rw [hlo];exact zG0 _);have HCP:=zA0 hcc;clear hcc hF hlo;clear hb)
  | ((with_reducible refine a0V (N:=1) rfl ?_);refine bx_ 1 #[.slice none 0 0] 24 (h:=?_);intro g1 hg w1 hx hb;have G1:=gz_ hg HB;have UP_1:=zA0 (show loP≤g1 by rw [hg];exact HLOP.out);have FP:=zA0 (Kd.a1U FP.out hb);have HLOP:=zA0 (zH0 HLOP.out hb.size);have HB:=hs_ HB hb;have B1:=zA0 (One.mk hx);clear hx hb hg;have k1:=B1.out.q)
  | ((with_reducible refine a0V (N:=2) rfl ?_);refine bx_ 2 #[.int .i64 0,.int .i64 0] 52 (h:=?_);intro g2 hg w1 hx hb;clear k1;have dO:=zA0 (a0H B1.out.b hg);have G2:=gz_ hg HB;have UP_2:=zA0 (show loP≤g2 by rw [hg];exact HLOP.out);have FP:=zA0 (Kd.a1U FP.out hb);have HLOP:=zA0 (zH0 HLOP.out hb.size);have B1:=zA0 (B1.out.below hb);have HB:=hs_ HB hb;have B2:=zA0 (Two.mk hx);clear hx hb hg;have k1:=B1.out.q;have k2:=B2.out.q)
  | ((with_reducible refine a0Y (t:=24) (p:=1) rfl ?_);refine sx_ [.slice AP 3 cP] B1.out.b sizePR (h:=?_);intro w1 hx hp;clear k1;clear k2;have B2:=zA0 (B2.out.far' hp (Ne.symm dO.out));have FP:=zA0 (a2O FP.out hp (zG3.2 UP_1.out));have HB:=zA0 (hp.below _ G1.out HB.out);have B1:=zA0 (One.mk hx);clear hx hp;have k1:=B1.out.q;have k2:=B2.out.q)
  | ((with_reducible refine a0Y (t:=52) (p:=2) rfl ?_);refine sx_ [.int .i64 0,.int .i64 0] B2.out.b sizeFT (h:=?_);intro w1 hx hp;clear k1;clear k2;have B1:=zA0 (B1.out.far' hp (dO.out));have FP:=zA0 (a2O FP.out hp (zG3.2 UP_2.out));have HB:=zA0 (hp.below _ G2.out HB.out);have B2:=zA0 (Two.mk hx);clear hx hp;have k1:=B1.out.q;have k2:=B2.out.q)
  | (go_at_call 9;with_reducible refine (sigs14 AP cP _ HCP.out (Kd.a5K FP.out)).mono ?_;rintro x w1 ⟨AS,cS,rfl,hcS,hS,hb⟩;clear k1;clear k2;have FP:=zA0 (Kd.a1U FP.out hb);have B1:=zA0 (B1.out.below hb);have B2:=zA0 (B2.out.below hb);have HB:=hs_ HB hb;have KS:=zA0 hS;have HCS:=zA0 hcS;clear hS hcS;((obtain ⟨ad0,V0,d0,eS0,y10,y20,m0,n0⟩:=b4R KS.out;cases eS0;simp [Addr.add] at y10 y20;have HCL0:=zA0 m0;have KL0:=zA0 n0;clear m0 n0;skip));clear hb;have k1:=B1.out.q;have k2:=B2.out.q)
  | ((with_reducible refine a0V (N:=23) rfl ?_);refine a2T qZ2 ?_;refine a4K rfl (N:=23) rfl (n:=2) (cs:=#[.string (⟨#[112]⟩:ByteArray),.string (⟨#[113]⟩:ByteArray)]) (t:=9) ?hr ?_;(case hr =>first | (go_simp;done) | (go_simp;rfl));intro g23 hg w1 hx hb;clear k1;clear k2;have FP:=zA0 (Kd.a1U FP.out hb);have B1:=zA0 (B1.out.below hb);have B2:=zA0 (B2.out.below hb);have KS:=zA0 (Kd.a0I KS.out hb);have KL0:=zA0 (Kd.a0I KL0.out hb);have HB:=hs_ HB hb;have B23:=zA0 (RowB.mk hx);clear hx hb hg;have k1:=B1.out.q;have k2:=B2.out.q)
  | (go_at_call 10;((have hL:=b6P B23.out.b));(refine (a3Y ?ha (r14_Texts.calls 40 V0 d0 [(⟨#[112]⟩:ByteArray),(⟨#[113]⟩:ByteArray)] (some ⟨g23,0,none⟩) 2 [(⟨#[112]⟩:ByteArray),(⟨#[113]⟩:ByteArray)] true _ KL0.out HCL0.out hL qF0 qH0)).mono ?_);(case ha =>(simp;done));((rintro x w1 ⟨rfl,hd⟩;have hb:=hd.below;clear hd hL;clear k1;clear k2;have FP:=zA0 (Kd.a1U FP.out hb);have B1:=zA0 (B1.out.below hb);have B2:=zA0 (B2.out.below hb);have KS:=zA0 (Kd.a0I KS.out hb);have KL0:=zA0 (Kd.a0I KL0.out hb);have B23:=zA0 (B23.out.below hb);have HB:=hs_ HB hb;clear hb;(obtain ⟨ad1,V1,d1,eS1,y11,y21,m1,n1⟩:=c0T KS.out;cases eS1;simp [Addr.add] at y11 y21;have HCL1:=zA0 m1;have KL1:=zA0 n1;clear m1 n1;skip);have k1:=B1.out.q;have k2:=B2.out.q)))
  | ((with_reducible refine a0V (N:=31) rfl ?_);refine a2T qZ2 ?_;refine a4K rfl (N:=31) rfl (n:=2) (cs:=#[.string (⟨#[112]⟩:ByteArray),.string (⟨#[113]⟩:ByteArray)]) (t:=9) ?hr ?_;(case hr =>first | (go_simp;done) | (go_simp;rfl));intro g31 hg w1 hx hb;clear k1;clear k2;have FP:=zA0 (Kd.a1U FP.out hb);have B1:=zA0 (B1.out.below hb);have B2:=zA0 (B2.out.below hb);have KS:=zA0 (Kd.a0I KS.out hb);have KL0:=zA0 (Kd.a0I KL0.out hb);have B23:=zA0 (B23.out.below hb);have KL1:=zA0 (Kd.a0I KL1.out hb);have HB:=hs_ HB hb;have B31:=zA0 (RowB.mk hx);clear hx hb hg;have k1:=B1.out.q;have k2:=B2.out.q)
  | (go_at_call 10;((have hL:=b6P B31.out.b));(refine (a3Y ?ha (r14_Texts.calls 40 V1 d1 [(⟨#[112]⟩:ByteArray),(⟨#[113]⟩:ByteArray)] (some ⟨g31,0,none⟩) 2 [(⟨#[112]⟩:ByteArray),(⟨#[113]⟩:ByteArray)] true _ KL1.out HCL1.out hL qF0 qH0)).mono ?_);(case ha =>(simp;done));((rintro x w1 ⟨rfl,hd⟩;have hb:=hd.below;clear hd hL;clear k1;clear k2;have FP:=zA0 (Kd.a1U FP.out hb);have B1:=zA0 (B1.out.below hb);have B2:=zA0 (B2.out.below hb);have KS:=zA0 (Kd.a0I KS.out hb);have KL0:=zA0 (Kd.a0I KL0.out hb);have B23:=zA0 (B23.out.below hb);have KL1:=zA0 (Kd.a0I KL1.out hb);have B31:=zA0 (B31.out.below hb);have HB:=hs_ HB hb;clear hb;(obtain ⟨ad2,V2,d2,eS2,y12,y22,m2,n2⟩:=c0S KS.out;cases eS2;simp [Addr.add] at y12 y22;have HCL2:=zA0 m2;have KL2:=zA0 n2;clear m2 n2;obtain ⟨ad3,V3,d3,eS3,y13,y23,m3,n3⟩:=b4R KS.out;cases eS3;simp [Addr.add] at y13 y23;have HCL3:=zA0 m3;have KL3:=zA0 n3;clear m3 n3;obtain ⟨adF,A1,c1,A2,c2,eF,x0,x1,x2,l1,g1,l2,g2⟩:=a6I (Kd.a5K FP.out) 0 qF0 qF0;subst eF;simp only [Int.toNat_zero,Nat.zero_mul,addr14] at x0 x1 x2;have L1:=zA0 l1;have K1:=zA0 g1;have L2:=zA0 l2;have K2:=zA0 g2;clear l1 g1 l2 g2;skip);have k1:=B1.out.q;have k2:=B2.out.q)))
  | (go_at_call 11;with_reducible refine (a3Y ?ha (own14 A1 A2 c1 c2 _ L2.out K2.out)).mono ?_;(case ha =>(simp;done));rintro x w1 ⟨Av,cv,rfl,hcv,hC,hb⟩;clear k1;clear k2;have FP:=zA0 (Kd.a1U FP.out hb);have B1:=zA0 (B1.out.below hb);have B2:=zA0 (B2.out.below hb);have KS:=zA0 (Kd.a0I KS.out hb);have KL0:=zA0 (Kd.a0I KL0.out hb);have B23:=zA0 (B23.out.below hb);have KL1:=zA0 (Kd.a0I KL1.out hb);have B31:=zA0 (B31.out.below hb);have HB:=hs_ HB hb;clear x0 x1 x2;have KV:=zA0 hC;have HCV:=zA0 hcv;clear hC hcv;clear hb;have k1:=B1.out.q;have k2:=B2.out.q)
  | ((with_reducible refine a0V (N:=55) rfl ?_);refine a2T qZ2 ?_;refine a4K rfl (N:=55) rfl (n:=1) (cs:=#[.string (⟨#[112]⟩:ByteArray)]) (t:=9) ?hr ?_;(case hr =>first | (go_simp;done) | (go_simp;rfl));intro g55 hg w1 hx hb;clear k1;clear k2;have FP:=zA0 (Kd.a1U FP.out hb);have B1:=zA0 (B1.out.below hb);have B2:=zA0 (B2.out.below hb);have KS:=zA0 (Kd.a0I KS.out hb);have KL0:=zA0 (Kd.a0I KL0.out hb);have B23:=zA0 (B23.out.below hb);have KL1:=zA0 (Kd.a0I KL1.out hb);have B31:=zA0 (B31.out.below hb);have KV:=zA0 (Kd.a0I KV.out hb);have HB:=hs_ HB hb;have B55:=zA0 (RowB.mk hx);clear hx hb hg;have k1:=B1.out.q;have k2:=B2.out.q)
  | (go_at_call 10;((have hL:=lit14_1 B55.out.b));(refine (a3Y ?ha (r14_Texts.calls 40 Av cv [(⟨#[112]⟩:ByteArray)] (some ⟨g55,0,none⟩) 1 [(⟨#[112]⟩:ByteArray)] true _ KV.out HCV.out hL qF0 qH0)).mono ?_);(case ha =>(simp;done));((rintro x w1 ⟨rfl,hd⟩;have hb:=hd.below;clear hd hL;clear k1;clear k2;have FP:=zA0 (Kd.a1U FP.out hb);have B1:=zA0 (B1.out.below hb);have B2:=zA0 (B2.out.below hb);have KS:=zA0 (Kd.a0I KS.out hb);have KL0:=zA0 (Kd.a0I KL0.out hb);have B23:=zA0 (B23.out.below hb);have KL1:=zA0 (Kd.a0I KL1.out hb);have B31:=zA0 (B31.out.below hb);have KV:=zA0 (Kd.a0I KV.out hb);have B55:=zA0 (B55.out.below hb);have HB:=hs_ HB hb;clear hb;have k1:=B1.out.q;have k2:=B2.out.q)))
  | (go_at_call 17;with_reducible refine (all14 _ cS _ KS.out).mono ?_;rintro x w1 ⟨Aw,cw,rfl,hcw,hC,hb⟩;clear k1;clear k2;have FP:=zA0 (Kd.a1U FP.out hb);have B1:=zA0 (B1.out.below hb);have B2:=zA0 (B2.out.below hb);have KS:=zA0 (Kd.a0I KS.out hb);have KL0:=zA0 (Kd.a0I KL0.out hb);have B23:=zA0 (B23.out.below hb);have KL1:=zA0 (Kd.a0I KL1.out hb);have B31:=zA0 (B31.out.below hb);have KV:=zA0 (Kd.a0I KV.out hb);have B55:=zA0 (B55.out.below hb);have HB:=hs_ HB hb;have KW:=zA0 hC;have HCW:=zA0 hcw;clear hC hcw;clear hb;have k1:=B1.out.q;have k2:=B2.out.q)
  | ((with_reducible refine a0V (N:=61) rfl ?_);refine a2T qZ2 ?_;refine a4K rfl (N:=61) rfl (n:=2) (cs:=#[.string (⟨#[112]⟩:ByteArray),.string (⟨#[113]⟩:ByteArray)]) (t:=9) ?hr ?_;(case hr =>first | (go_simp;done) | (go_simp;rfl));intro g61 hg w1 hx hb;clear k1;clear k2;have FP:=zA0 (Kd.a1U FP.out hb);have B1:=zA0 (B1.out.below hb);have B2:=zA0 (B2.out.below hb);have KS:=zA0 (Kd.a0I KS.out hb);have KL0:=zA0 (Kd.a0I KL0.out hb);have B23:=zA0 (B23.out.below hb);have KL1:=zA0 (Kd.a0I KL1.out hb);have B31:=zA0 (B31.out.below hb);have KV:=zA0 (Kd.a0I KV.out hb);have B55:=zA0 (B55.out.below hb);have KW:=zA0 (Kd.a0I KW.out hb);have HB:=hs_ HB hb;have B61:=zA0 (RowB.mk hx);clear hx hb hg;have k1:=B1.out.q;have k2:=B2.out.q)
  | (go_at_call 10;((have hL:=b6P B61.out.b));(refine (a3Y ?ha (r14_Texts.calls 40 Aw cw [(⟨#[112]⟩:ByteArray),(⟨#[113]⟩:ByteArray)] (some ⟨g61,0,none⟩) 2 [(⟨#[112]⟩:ByteArray),(⟨#[113]⟩:ByteArray)] true _ KW.out HCW.out hL qF0 qH0)).mono ?_);(case ha =>(simp;done));((rintro x w1 ⟨rfl,hd⟩;have hb:=hd.below;clear hd hL;clear k1;clear k2;have FP:=zA0 (Kd.a1U FP.out hb);have B1:=zA0 (B1.out.below hb);have B2:=zA0 (B2.out.below hb);have KS:=zA0 (Kd.a0I KS.out hb);have KL0:=zA0 (Kd.a0I KL0.out hb);have B23:=zA0 (B23.out.below hb);have KL1:=zA0 (Kd.a0I KL1.out hb);have B31:=zA0 (B31.out.below hb);have KV:=zA0 (Kd.a0I KV.out hb);have B55:=zA0 (B55.out.below hb);have KW:=zA0 (Kd.a0I KW.out hb);have B61:=zA0 (B61.out.below hb);have HB:=hs_ HB hb;clear hb;have k1:=B1.out.q;have k2:=B2.out.q))))
 go_ret;exact ⟨rfl,HB.out⟩
end Go.Proofs.YthhgfncliffggaaGreat.Man
namespace Go.Proofs.YthhgfncliffggaaGreat.Pr
open Go.RowKit Go.Proofs.YthhgfncliffggaaGreatW.PrintWords Go.Proofs.YthhgfncliffggaaGreatW.PrintLast Go.Proofs.YthhgfncliffggaaGreatW.PrintMore
attribute [local go_sem] a3W a3V a4R a4Q a3Q a3P a4J a4I   -- for this text's walks alone
open Classical in
noncomputable def w14_fixed.f :Option (Bool):=some true
theorem w14_fixed.calls  (r:Bool) (w:World) (h:w14_fixed.f  = some r) :
  Calls Tryz.prog 8 #[] w fun e w' =>e = .returned (.bool r)∧Below w.heap.size w w' :=
 by
 cases h;exact Man.c3D w
mutual
noncomputable def w14_EffectsKnots.j0:Nat→Bool→List (S34)→Option (Bool)
 | 0,_,_ =>none
 | k + 1,x15,x493000 =>if x15 = true then ((w14_fixed.f).bind fun t494 =>(some t494)) else ((effects_Sigs.f x493000).bind fun t495 =>((r12_Calls.f k x493000).bind fun t498 =>((r13_Of.f k t498).bind fun t501 =>((w14_fixed.f).bind fun t504 =>(if t504 = true then (w14_EffectsKnots.j1 k t495 t501 ((t495.length:Int) != (t501.length:Int)) x493000) else (w14_EffectsKnots.j1 k t495 t501 true x493000))))))
noncomputable def w14_EffectsKnots.j1:Nat→List (S42)→List Int→Bool→List (S34)→Option (Bool)
 | 0,_,_,_,_ =>none
 | k + 1,x3,x4,x30,x493000 =>if x30 = true then (some false) else (w14_EffectsKnots.l0 k x3 x4 (([]:List ByteArray)) 0 x493000)
noncomputable def w14_EffectsKnots.l0:Nat→List (S42)→List Int→List ByteArray→Int→List (S34)→Option (Bool)
 | 0,_,_,_,_,_ =>none
 | k + 1,x3,x4,x5,x6,x493000 =>if x6 < (x3.length:Int) then (if 0≤x6 then (if x6 < (x493000.length:Int) then ((effects_Own.f ((a1C x493000 x6).f0) ((a1C x493000 x6).f1) ((a1C x493000 x6).f2)).bind fun t513 =>((r14_Union.f k x5 t513).bind fun t516 =>(w14_EffectsKnots.l1 k x3 x4 t516 x6 0 x493000))) else (none)) else (none)) else ((effects_All.f x3).bind fun t508 =>((r14_Texts.f k t508 x5).bind fun t511 =>(some t511)))
noncomputable def w14_EffectsKnots.l1:Nat→List (S42)→List Int→List ByteArray→Int→Int→List (S34)→Option (Bool)
 | 0,_,_,_,_,_,_ =>none
 | k + 1,x3,x4,x5,x6,x7,x493000 =>if x7 < x6 then (if 0≤x6 then (if x6 < (x4.length:Int) then (if 0≤x7 then (if x7 < (x4.length:Int) then (if (rd x4 x6) = (rd x4 x7) then (if x6 < (x3.length:Int) then (if x7 < (x3.length:Int) then ((r14_Texts.f k ((a2K x3 x6).f2) ((a2K x3 x7).f2)).bind fun t523 =>(if t523 = true then (w14_EffectsKnots.l1 k x3 x4 x5 x6 (wrap64 (x7 + 1)) x493000) else (some false))) else (none)) else (none)) else (w14_EffectsKnots.l1 k x3 x4 x5 x6 (wrap64 (x7 + 1)) x493000)) else (none)) else (none)) else (none)) else (none)) else (w14_EffectsKnots.l0 k x3 x4 x5 (wrap64 (x6 + 1)) x493000)
end
noncomputable def w14_EffectsKnots.f (k:Nat) (aC:List (S34)):Option (Bool):=(r03_Big.f k aC).bind fun t493 =>(if t493 = true then (w14_EffectsKnots.j0 k true aC) else (w14_EffectsKnots.j0 k (decide ((aC.length:Int) > 30)) aC))
set_option maxHeartbeats 8000000 in
set_option maxRecDepth 100000 in
theorem w14_EffectsKnots.calls (k:Nat) (aQ:Option Addr) (aN:Nat) (aC:List (S34)) (r:Bool) (w:World) (bT:Kd.C k34 w aQ aC.length aC) (bU:aC.length≤aN) (h:w14_EffectsKnots.f k aC = some r) :
    Calls Tryz.prog 5 #[.agg #[.slice aQ aC.length aN]] w fun e w' =>e = .returned (.bool r)∧Below w.heap.size w w':=by
 have hu24:=Tryz.underlying24;have hu34:=Tryz.underlying34;have bO:=a0C.mk bT;have bV:=a0C.mk bU;clear bT bU;have HB:=a0C.mk (zJ0 w.heap.size w);have H:((r03_Big.f k aC).bind fun t493 =>(if t493 = true then (w14_EffectsKnots.j0 k true aC) else (w14_EffectsKnots.j0 k (decide ((aC.length:Int) > 30)) aC))) = some r:=h;clear h;have HC2:=a0C.mk H;clear H;go_enter Tryz.func5,Tryz.ntmps5
 go_upto_region 1 with (first | ((with_reducible refine a0V (N:=1) rfl ?_);(try (refine a2T (by rfl) ?_;dsimp only));refine a2C ?hg (N:=1) ?hd (cs:=#[.slice aQ aC.length aN]) (t:=24) ?hr ?_;(case hd =>rfl);(case hg =>rfl);(case hr =>first | (go_simp;done) | (go_simp;rfl));intro aG hg w3 hbox hb;have bW:=a0C.mk (a0L qB0 hb);have bX:=a0C.mk (hbox);have bY:=a0C.mk ((by rw [hg];exact (a0R qB0):w.heap.size≤aG));have bZ:=a0C.mk ((by rw [hg];exact (a0R qB0):w.heap.size≤aG));clear HB;have HB:=bW;have aA:=bX;have GW492:=bY;have aE:=bZ;clear bW bX bY bZ;clear hb hbox hg))
 (try simp only [Act.put,zN0,zX0,zY0])
 go_cut [15] (fun v15 wc =>∃ (kq:Nat) (cA:Bool),v15 = .bool cA∧a0C (w14_EffectsKnots.j0 kq cA aC = some r)∧a0C (kq≤k)∧a0C (wc.heap[aG]? = some (.cells #[(.slice aQ aC.length aN)] 24 (0,0)))∧a0C (Below w.heap.size w wc))
 case first =>
  have H:=HC2.out;clear HC2;obtain ⟨t493,A4,H⟩:=ob_ H;by_cases c5:t493 = true
  ·subst c5;rw [if_pos rfl] at H;have H':=a0C.mk H;clear H;have dX:w3.cell? ⟨aG,0,none⟩ = some (.slice aQ aC.length aN):=(a0O aA.out 0).trans rfl;have dY:=a0Q aA.out 0;go_wp2_with (first | (go_at_call 7;(with_reducible refine (r03_Big.calls k _ _ aC true _ ?side1 ?side2 A4.out).mono ?_);(case side1 =>repeat (first | exact (Kd.a0I bO.out HB.out) | (with_reducible refine Kd.a1E ?_ _) | (with_reducible refine Kd.a1D ?_ _) | (with_reducible refine Kd.a1I ?_)));(case side2 =>exact bV.out);rintro e w7 ⟨rfl,hb⟩;replace aA:=a0C.mk (a0U (g:=aG) (o:=.cells #[.slice aQ aC.length aN] 24 (0,0)) qK0 hb);replace HB:=a0C.mk (a0L qI0 hb);(try clear hb)));go_meet
   case rel =>exact ⟨_,(true),qE0,H',⟨by first | omega | exact zG0 _⟩,⟨by (with_reducible repeat (first | refine a0P ?_ _ | refine a0X ?_ | refine a0K ?_ _));exact aA.out⟩,⟨by repeat (first | (with_reducible first | exact HB.out | apply a0B | apply a0A | apply a0D | refine a0G ?_ aE.out) | exact HB.out)⟩⟩
  ·replace c5:=Bool.eq_false_iff.mpr c5;subst c5;rw [if_neg (show ¬ (false = true) by decide)] at H;have H':=a0C.mk H;clear H;have dZ:w3.cell? ⟨aG,0,none⟩ = some (.slice aQ aC.length aN):=(a0O aA.out 0).trans rfl;have eB:=a0Q aA.out 0;go_wp2_with (first | (go_at_call 7;(with_reducible refine (r03_Big.calls k _ _ aC false _ ?side1 ?side2 A4.out).mono ?_);(case side1 =>repeat (first | exact (Kd.a0I bO.out HB.out) | (with_reducible refine Kd.a1E ?_ _) | (with_reducible refine Kd.a1D ?_ _) | (with_reducible refine Kd.a1I ?_)));(case side2 =>exact bV.out);rintro e w9 ⟨rfl,hb⟩;replace aA:=a0C.mk (a0U (g:=aG) (o:=.cells #[.slice aQ aC.length aN] 24 (0,0)) qK0 hb);replace HB:=a0C.mk (a0L qI0 hb);(try clear hb);have dP:w9.cell? ⟨aG,0,none⟩ = some (.slice aQ aC.length aN):=(a0O aA.out 0).trans rfl;have dQ:=a0Q aA.out 0));go_meet
   case rel =>exact ⟨_,(decide ((aC.length:Int) > 30)),qE0,H',⟨by first | omega | exact zG0 _⟩,⟨by (with_reducible repeat (first | refine a0P ?_ _ | refine a0X ?_ | refine a0K ?_ _));exact aA.out⟩,⟨by repeat (first | (with_reducible first | exact HB.out | apply a0B | apply a0A | apply a0D | refine a0G ?_ aE.out) | exact HB.out)⟩⟩
 case rest =>
  clear HC2;obtain ⟨kq,cA,rfl,HA,HJ1,aA,HB⟩:=hcut;cases kq with
  | zero =>exact absurd HA.out (by simp [w14_EffectsKnots.j0])
  | succ kj1 =>
   have H:=HA.out;clear HA;simp only [w14_EffectsKnots.j0] at H;by_cases c11:cA = true
   ·subst c11;rw [if_pos rfl] at H;obtain ⟨t494,A12,H⟩:=ob_ H;obtain rfl:=zD0 H;go_wp2_with (first | (go_at_call 8;(with_reducible refine (w14_fixed.calls  t494 _ A12.out).mono ?_);rintro e w13 ⟨rfl,hb⟩;replace aA:=a0C.mk (a0U (g:=aG) (o:=.cells #[.slice aQ aC.length aN] 24 (0,0)) qK0 hb);replace HB:=a0C.mk (a0L qI0 hb);(try clear hb)));go_ret;exact qY3
   ·replace c11:=Bool.eq_false_iff.mpr c11;subst c11;rw [if_neg (show ¬ (false = true) by decide)] at H;obtain ⟨t495,A14,H⟩:=ob_ H;obtain ⟨t498,A15,H⟩:=ob_ H;obtain ⟨t501,A16,H⟩:=ob_ H;have HC17:=a0C.mk H;clear H;have dR:wc.cell? ⟨aG,0,none⟩ = some (.slice aQ aC.length aN):=(a0O aA.out 0).trans rfl;have dS:=a0Q aA.out 0;go_upto_region 5 with (first | (go_at_call 9;(with_reducible refine (effects_Sigs.calls _ _ aC t495 _ ?side1 ?side2 A14.out).mono ?_);(case side1 =>repeat (first | exact (Kd.a0I bO.out HB.out) | (with_reducible refine Kd.a1E ?_ _) | (with_reducible refine Kd.a1D ?_ _) | (with_reducible refine Kd.a1I ?_)));(case side2 =>exact bV.out);rintro e w19 ⟨v496,rfl,ho0,hb⟩;have HO497:=a0C.mk (Kd.a9C (Kd.a3F (ok':=fun k_ =>k_≠aG) ho0 (fun k_ hk_ =>(Kd.freshB (g:=aG) (o:=.cells #[.slice aQ aC.length aN] 24 (0,0)) qK0 k_ hk_))) (a0R qI0));replace aA:=a0C.mk (a0U (g:=aG) (o:=.cells #[.slice aQ aC.length aN] 24 (0,0)) qK0 hb);replace HB:=a0C.mk (a0L qI0 hb);(try clear hb);(try clear ho0);have dT:w19.cell? ⟨aG,0,none⟩ = some (.slice aQ aC.length aN):=(a0O aA.out 0).trans rfl;have dU:=a0Q aA.out 0) | (go_at_call 19;(with_reducible refine (r12_Calls.calls kj1 _ _ aC t498 _ ?side1 ?side2 A15.out).mono ?_);(case side1 =>repeat (first | exact (Kd.a0I bO.out HB.out) | (with_reducible refine Kd.a1E ?_ _) | (with_reducible refine Kd.a1D ?_ _) | (with_reducible refine Kd.a1I ?_)));(case side2 =>exact bV.out);rintro e w21 ⟨v499,rfl,ho0,hb⟩;have bW:=a0C.mk (Kd.a4X qY0 (Kd.a3E (Kd.S_N ho0)) hb);have bX:=a0C.mk (Kd.a9C (Kd.a3F (ok':=fun k_ =>some k_≠(v496:Value).ownBlock∧k_≠aG) (Kd.S_N (Kd.a8Z ho0)) (fun k_ hk_ =>⟨(Kd.fresh' (Kd.N_lt qY0) k_ hk_.2.1),(Kd.freshB (g:=aG) (o:=.cells #[.slice aQ aC.length aN] 24 (0,0)) qK0 k_ hk_.2.1)⟩)) (a0R qI0));have bY:=a0C.mk (a0U (g:=aG) (o:=.cells #[.slice aQ aC.length aN] 24 (0,0)) qK0 hb);have bZ:=a0C.mk (a0L qI0 hb);clear HO497;clear aA;clear HB;have HO497:=bW;have HO500:=bX;have aA:=bY;have HB:=bZ;clear bW bX bY bZ;(try clear hb);(try clear ho0);obtain ⟨Ao22,co22,eo22⟩:=Kd.a4D HO500.out;subst eo22) | (go_at_call 22;(with_reducible refine (r13_Of.calls kj1 _ _ t498 t501 _ ?side1 ?side2 A16.out).mono ?_);(case side1 =>repeat (first | exact (Kd.a2U HO500.out).2.2 | (with_reducible refine Kd.a1E ?_ _) | (with_reducible refine Kd.a1D ?_ _) | (with_reducible refine Kd.a1I ?_)));(case side2 =>exact (Kd.a2U HO500.out).2.1);rintro e w23 ⟨v502,rfl,ho0,hb⟩;replace HO497:=a0C.mk (Kd.a4X qY0 (Kd.a5C ho0) hb);replace HO500:=a0C.mk (Kd.a4X qJ1 (Kd.a5C ho0) hb);have HO503:=a0C.mk (Kd.a2W ho0 (a0R qI0));replace aA:=a0C.mk (a0U (g:=aG) (o:=.cells #[.slice aQ aC.length aN] 24 (0,0)) qK0 hb);replace HB:=a0C.mk (a0L qI0 hb);(try clear hb);(try clear ho0)))
    (try simp only [Act.put,zN0,zX0,zY0])
    go_cut [30] (fun v30 wc =>∃ (kq:Nat) (bK:Bool),v30 = .bool bK∧a0C (w14_EffectsKnots.j1 kq t495 t501 bK aC = some r)∧a0C (kq≤kj1)∧a0C (Kd.N k42 42 wc w.heap.size (fun k_ =>some k_≠(v502:Value).ownBlock∧k_≠aG) v496 t495)∧a0C (Kd.R (Kd.int .i64) 3 wc w.heap.size (fun _ =>True) v502 t501)∧a0C (wc.heap[aG]? = some (.cells #[(.slice aQ aC.length aN)] 24 (0,0)))∧a0C (Below w.heap.size w wc))
    case first =>
     have H:=HC17.out;clear HC17;obtain ⟨t504,A24,H⟩:=ob_ H;by_cases c25:t504 = true
     ·subst c25;rw [if_pos rfl] at H;have H':=a0C.mk H;clear H;go_wp2_with (first | (go_at_call 8;(with_reducible refine (w14_fixed.calls  true _ A24.out).mono ?_);rintro e w26 ⟨rfl,hb⟩;replace HO497:=a0C.mk (Kd.a2J qY0 hb);replace HO500:=a0C.mk (Kd.a2J qJ1 hb);replace HO503:=a0C.mk (Kd.a3L qE2 hb);replace aA:=a0C.mk (a0U (g:=aG) (o:=.cells #[.slice aQ aC.length aN] 24 (0,0)) qK0 hb);replace HB:=a0C.mk (a0L qI0 hb);(try clear hb);obtain ⟨Ao27,co27,eo27⟩:=Kd.a4D HO497.out;subst eo27;obtain ⟨Ao28,co28,eo28⟩:=Kd.a1V HO503.out;subst eo28));go_meet
      case rel =>exact ⟨_,(((t495.length:Int) != (t501.length:Int))),qE0,H',⟨by have:=HJ1.out;first | omega | exact zG0 _⟩,⟨by (with_reducible repeat (first | apply Kd.a2A | apply Kd.a1Z | apply Kd.a2V));exact Kd.a3F HO497.out (fun _ hk =>⟨hk.2,hk.1.1⟩)⟩,⟨by (with_reducible repeat (first | apply Kd.a0T | apply Kd.a0S | apply Kd.a1B));exact HO503.out⟩,⟨by (with_reducible repeat (first | refine a0P ?_ _ | refine a0X ?_ | refine a0K ?_ _));exact aA.out⟩,⟨by repeat (first | (with_reducible first | exact HB.out | apply a0B | apply a0A | apply a0D | refine a0G ?_ aE.out) | exact HB.out)⟩⟩
     ·replace c25:=Bool.eq_false_iff.mpr c25;subst c25;rw [if_neg (show ¬ (false = true) by decide)] at H;have H':=a0C.mk H;clear H;go_wp2_with (first | (go_at_call 8;(with_reducible refine (w14_fixed.calls  false _ A24.out).mono ?_);rintro e w29 ⟨rfl,hb⟩;replace HO497:=a0C.mk (Kd.a2J qY0 hb);replace HO500:=a0C.mk (Kd.a2J qJ1 hb);replace HO503:=a0C.mk (Kd.a3L qE2 hb);replace aA:=a0C.mk (a0U (g:=aG) (o:=.cells #[.slice aQ aC.length aN] 24 (0,0)) qK0 hb);replace HB:=a0C.mk (a0L qI0 hb);(try clear hb)));go_meet
      case rel =>exact ⟨_,(true),qE0,H',⟨by have:=HJ1.out;first | omega | exact zG0 _⟩,⟨by (with_reducible repeat (first | apply Kd.a2A | apply Kd.a1Z | apply Kd.a2V));exact Kd.a3F HO497.out (fun _ hk =>⟨hk.2,hk.1.1⟩)⟩,⟨by (with_reducible repeat (first | apply Kd.a0T | apply Kd.a0S | apply Kd.a1B));exact HO503.out⟩,⟨by (with_reducible repeat (first | refine a0P ?_ _ | refine a0X ?_ | refine a0K ?_ _));exact aA.out⟩,⟨by repeat (first | (with_reducible first | exact HB.out | apply a0B | apply a0A | apply a0D | refine a0G ?_ aE.out) | exact HB.out)⟩⟩
    case rest =>
     clear HC17;obtain ⟨kq,bK,rfl,HA,HJ16,aI,aT,aA,HB⟩:=hcut;cases kq with
     | zero =>exact absurd HA.out (by simp [w14_EffectsKnots.j1])
     | succ kj16 =>
      have H:=HA.out;clear HA;simp only [w14_EffectsKnots.j1] at H;by_cases c30:bK = true
      ·subst c30;rw [if_pos rfl] at H;obtain rfl:=zD0 H;go_wp2
       repeat (go_quiet (fail);try go_wp2)
       go_ret;exact qY3
      ·replace c30:=Bool.eq_false_iff.mpr c30;subst c30;rw [if_neg (show ¬ (false = true) by decide)] at H;obtain ⟨y505,hy505⟩:∃ y_:List ByteArray,y_ = (([]:List ByteArray)):=⟨_,rfl⟩;replace H:(w14_EffectsKnots.l0 kj16 t495 t501 y505 0 aC) = some r:=by first | (rw [hy505];with_reducible exact H) | (have H2_:=(zK0 _ _).symm.trans H;rw [hy505];with_reducible exact H2_) | (have H2_:=(zK0 _ _).symm.trans H;with_reducible exact H2_) | with_reducible exact H | (rw [hy505];exact H) | exact H
       have Ny505:=a0C.mk hy505;clear hy505;have H':=a0C.mk H;clear H;go_wp2_with (first | ((with_reducible refine a0V (N:=31) rfl ?_);(try (refine a2T (by rfl) ?_;dsimp only));refine Kd.a9T Kd.string _ 9 ?hg (N:=31) ?hd (xs:=([]:List ByteArray)) (inner:=[]) (ok:=fun _ =>True) (okp:=fun _ =>True) ?hr ?hp (fun _ hk =>hk) trivial (zJ0 _ _) (zG0 _) qG0 ?_;(case hd =>rfl);(case hg =>rfl);(case hr =>first | (go_simp;done) | (go_simp;rfl));(case hp =>exact (Reps.none _ _));intro v506 w31 ho32 hb hg_ hnew_;clear hg_ hnew_;(first | rw [← Ny505.out] at ho32 | (simp only [Int.reduceToNat] at ho32;rw [← Ny505.out] at ho32));replace aI:=a0C.mk (Kd.a4X qD1 (Kd.a5C ho32) hb);replace aT:=a0C.mk (Kd.a3L qE1 hb);have HO507:=a0C.mk (Kd.a2W ho32 (a0R qI0));replace aA:=a0C.mk (a0U (g:=aG) (o:=.cells #[.slice aQ aC.length aN] 24 (0,0)) qK0 hb);replace HB:=a0C.mk (a0L qI0 hb);clear hb ho32));go_loopg [5,6] kj16 (fun kq v5 v6 w' =>∃ (cN:List ByteArray) (aD:Int),v6 = .int .i64 aD∧a0C (w14_EffectsKnots.l0 kq t495 t501 cN aD aC = some r)∧a0C (kq≤kj16)∧a0C (Kd.N k42 42 w' w.heap.size (fun k_ =>some k_≠(v502:Value).ownBlock∧some k_≠(v5:Value).ownBlock∧k_≠aG) v496 t495)∧a0C (Kd.R (Kd.int .i64) 3 w' w.heap.size (fun _ =>True) v502 t501)∧a0C (Kd.R Kd.string 9 w' w.heap.size (fun _ =>True) v5 cN)∧a0C (w'.heap[aG]? = some (.cells #[(.slice aQ aC.length aN)] 24 (0,0)))∧a0C (Below w.heap.size w w'))
       case atStart =>exact ⟨(y505),(0),qE0,H',⟨zG0 _⟩,⟨by (with_reducible repeat (first | apply Kd.a2A | apply Kd.a1Z | apply Kd.a2V));exact Kd.a3F aI.out (fun _ hk =>⟨hk.1.1,⟨hk.2,hk.1.2⟩⟩)⟩,⟨by (with_reducible repeat (first | apply Kd.a0T | apply Kd.a0S | apply Kd.a1B));exact aT.out⟩,⟨by (with_reducible repeat (first | apply Kd.a0T | apply Kd.a0S | apply Kd.a1B));exact HO507.out⟩,⟨by (with_reducible repeat (first | refine a0P ?_ _ | refine a0X ?_ | refine a0K ?_ _));exact aA.out⟩,⟨by repeat (first | (with_reducible first | exact HB.out | apply a0B | apply a0A | apply a0D | refine a0G ?_ aE.out) | exact HB.out)⟩⟩
       case round =>
        clear H';obtain ⟨cN,aD,rfl,HA,HK3,aI,aT,aW,aA,HB⟩:=hrel;cases gk with
        | zero =>exact absurd HA.out (by simp [w14_EffectsKnots.l0])
        | succ k3 =>
         have H:=HA.out;clear HA;simp only [w14_EffectsKnots.l0] at H;by_cases c33:aD < (t495.length:Int)
         ·rw [if_pos c33] at H;have c33b0:decide (aD < (t495.length:Int)) = true:=zC0 c33;clear c33;by_cases c34:0≤aD
          ·rw [if_pos c34] at H;have c34b0:decide (0≤aD) = true:=zC0 c34;clear c34;by_cases c35:aD < (aC.length:Int)
           ·rw [if_pos c35] at H;have c35b0:decide (aD < (aC.length:Int)) = true:=zC0 c35;clear c35;obtain ⟨t513,A36,H⟩:=ob_ H;obtain ⟨t516,A37,H⟩:=ob_ H;have H':=a0C.mk H;clear H;obtain ⟨Ao38,co38,eo38⟩:=Kd.a4D aI.out;subst eo38;have dV:wr.cell? ⟨aG,0,none⟩ = some (.slice aQ aC.length aN):=(a0O aA.out 0).trans rfl;have dW:=a0Q aA.out 0;have p512:0≤(aD:Int):=zB0 qA0;have q512:aD < (aC.length:Int):=zB0 qA0;obtain ⟨ad512,eC,eD,eE,eG,e512,cB,cC,cD,cE,cG,cH,cI⟩:=a6I bO.out aD p512 q512;cases e512;replace cB:=a0E HB.out cB;replace cC:=a0E HB.out cC;replace cD:=a0E HB.out cD;have cR:=a0C.mk cG;have cU:=a0C.mk cE;clear cG cE;have cV:=a0C.mk cI;have cW:=a0C.mk cH;clear cI cH;replace p512:=eq_true p512;replace q512:=eq_true q512;go_wp2_with (first | (go_at_call 11;(with_reducible refine (effects_Own.calls ((a1C aC aD).f0) _ _ ((a1C aC aD).f1) _ _ ((a1C aC aD).f2) t513 _ ?side1 ?side2 ?side3 ?side4 A36.out).mono ?_);(case side1 =>repeat (first | exact (Kd.a0I cR.out HB.out) | (with_reducible refine Kd.a1E ?_ _) | (with_reducible refine Kd.a1D ?_ _) | (with_reducible refine Kd.a1I ?_)));(case side2 =>exact cU.out);(case side3 =>repeat (first | exact (Kd.a0I cV.out HB.out) | (with_reducible refine Kd.a1E ?_ _) | (with_reducible refine Kd.a1D ?_ _) | (with_reducible refine Kd.a1I ?_)));(case side4 =>exact cW.out);rintro e w40 ⟨v514,rfl,ho0,hb⟩;have bW:=a0C.mk (Kd.a4X qD1 (Kd.a5C ho0) hb);have bX:=a0C.mk (Kd.a3L qE1 hb);have bY:=a0C.mk (Kd.a6U qV0 (Kd.a5C ho0) hb);have bZ:=a0C.mk (Kd.a2W (Kd.b2L ho0 (Kd.R_lt qV0)) (a0R qI0));have dH:=a0C.mk (a0U (g:=aG) (o:=.cells #[.slice (some ad512) aC.length aN] 24 (0,0)) qK0 hb);have dI:=a0C.mk (a0L qI0 hb);clear aI;clear aT;clear aW;clear aA;clear HB;have aI:=bW;have aT:=bX;have aW:=bY;have HO515:=bZ;have aA:=dH;have HB:=dI;clear bW bX bY bZ dH dI;(try clear hb);(try clear ho0);obtain ⟨Ao41,co41,eo41⟩:=Kd.a1V aW.out;subst eo41;obtain ⟨Ao42,co42,eo42⟩:=Kd.a1V HO515.out;subst eo42) | (go_at_call 16;(with_reducible refine (r14_Union.calls k3 _ _ cN _ _ t513 t516 _ ?side1 ?side2 ?side3 ?side4 A37.out).mono ?_);(case side1 =>repeat (first | exact (Kd.a1J aW.out).2.2 | (with_reducible refine Kd.a1E ?_ _) | (with_reducible refine Kd.a1D ?_ _) | (with_reducible refine Kd.a1I ?_)));(case side2 =>exact (Kd.a1J aW.out).2.1);(case side3 =>repeat (first | exact (Kd.a1J HO515.out).2.2 | (with_reducible refine Kd.a1E ?_ _) | (with_reducible refine Kd.a1D ?_ _) | (with_reducible refine Kd.a1I ?_)));(case side4 =>exact (Kd.a1J HO515.out).2.1);rintro e w43 ⟨v517,rfl,ho0,hb⟩;have bW:=a0C.mk (Kd.a4X qD1 (Kd.a5C ho0) hb);have bX:=a0C.mk (Kd.a3L qE1 hb);have bY:=a0C.mk (Kd.a6U qV0 (Kd.a5C ho0) hb);have bZ:=a0C.mk (Kd.a6U qF2 (Kd.a5C ho0) hb);have dH:=a0C.mk (Kd.a2W (Kd.b2L (Kd.b2L ho0 (Kd.R_lt qV0)) (Kd.R_lt qF2)) (a0R qI0));have dI:=a0C.mk (a0U (g:=aG) (o:=.cells #[.slice (some ad512) aC.length aN] 24 (0,0)) qK0 hb);have eH:=a0C.mk (a0L qI0 hb);clear aI;clear aT;clear aW;clear HO515;clear aA;clear HB;have aI:=bW;have aT:=bX;have aW:=bY;have HO515:=bZ;have HO518:=dH;have aA:=dI;have HB:=eH;clear bW bX bY bZ dH dI eH;(try clear hb);(try clear ho0)));go_loopg [7] k3 (fun kq v7 w' =>∃ (aH:Int),v7 = .int .i64 aH∧a0C (w14_EffectsKnots.l1 kq t495 t501 t516 aD aH aC = some r)∧a0C (kq≤k3)∧a0C (Kd.N k42 42 w' w.heap.size (fun k_ =>some k_≠(v502:Value).ownBlock∧some k_≠(v517:Value).ownBlock∧k_≠aG) (.slice Ao38 t495.length co38) t495)∧a0C (Kd.R (Kd.int .i64) 3 w' w.heap.size (fun _ =>True) v502 t501)∧a0C (Kd.R Kd.string 9 w' w.heap.size (fun _ =>True) v517 t516)∧a0C (w'.heap[aG]? = some (.cells #[(.slice (some ad512) aC.length aN)] 24 (0,0)))∧a0C (Below w.heap.size w w'))
            case atStart =>exact ⟨(0),qE0,H',⟨zG0 _⟩,⟨by (with_reducible repeat (first | apply Kd.a2A | apply Kd.a1Z | apply Kd.a2V));exact Kd.a3F aI.out (fun _ hk =>⟨hk.1.1.1,⟨hk.2,hk.1.1.2.2⟩⟩)⟩,⟨by (with_reducible repeat (first | apply Kd.a0T | apply Kd.a0S | apply Kd.a1B));exact aT.out⟩,⟨by (with_reducible repeat (first | apply Kd.a0T | apply Kd.a0S | apply Kd.a1B));exact Kd.a2S HO518.out (fun _ hk =>trivial)⟩,⟨by (with_reducible repeat (first | refine a0P ?_ _ | refine a0X ?_ | refine a0K ?_ _));exact aA.out⟩,⟨by repeat (first | (with_reducible first | exact HB.out | apply a0B | apply a0A | apply a0D | refine a0G ?_ aE.out) | exact HB.out)⟩⟩
            case round =>
             clear H';obtain ⟨aH,rfl,HA,HK4,aI,aT,aW,aA,HB⟩:=hrel;cases gk with
             | zero =>exact absurd HA.out (by simp [w14_EffectsKnots.l1])
             | succ k4 =>
              have H:=HA.out;clear HA;simp only [w14_EffectsKnots.l1] at H;by_cases c44:aH < aD
              ·rw [if_pos c44] at H;have c44b0:decide (aH < aD) = true:=zC0 c44;clear c44;by_cases c45:0≤aD
               ·rw [if_pos c45] at H;have c45b0:decide (0≤aD) = true:=zC0 c45;clear c45;by_cases c46:aD < (t501.length:Int)
                ·rw [if_pos c46] at H;have c46b0:decide (aD < (t501.length:Int)) = true:=zC0 c46;clear c46;by_cases c47:0≤aH
                 ·rw [if_pos c47] at H;have c47b0:decide (0≤aH) = true:=zC0 c47;clear c47;by_cases c48:aH < (t501.length:Int)
                  ·rw [if_pos c48] at H;have c48b0:decide (aH < (t501.length:Int)) = true:=zC0 c48;clear c48;by_cases c49:(rd t501 aD) = (rd t501 aH)
                   ·rw [if_pos c49] at H;have c49b0:((rd t501 aD) == (rd t501 aH)) = true:=beq_iff_eq.mpr c49;have c49b1:((rd t501 aD) != (rd t501 aH)) = false:=bne_eq_false_iff_eq.mpr c49;clear c49;by_cases c50:aD < (t495.length:Int)
                    ·rw [if_pos c50] at H;have c50b0:decide (aD < (t495.length:Int)) = true:=zC0 c50;clear c50;by_cases c51:aH < (t495.length:Int)
                     ·rw [if_pos c51] at H;have c51b0:decide (aH < (t495.length:Int)) = true:=zC0 c51;clear c51;obtain ⟨t523,A52,H⟩:=ob_ H;by_cases c53:t523 = true
                      ·subst c53;rw [if_pos rfl] at H;have H':=a0C.mk H;clear H;obtain ⟨Ao54,co54,eo54⟩:=Kd.a1V aT.out;subst eo54;have p519:0≤(aD:Int):=zB0 qA0;have q519:aD < (t501.length:Int):=zB0 qA0;obtain ⟨ad519,e519,cJ⟩:=Kd.a1Q (Kd.a1J aT.out).2.2 aD p519 q519;cases e519;replace p519:=eq_true p519;replace q519:=eq_true q519;have p520:0≤(aH:Int):=zB0 qA0;have q520:aH < (t501.length:Int):=zB0 qA0;obtain ⟨ad520,e520,cM⟩:=Kd.a1Q (Kd.a1J aT.out).2.2 aH p520 q520;obtain rfl:ad519 = ad520:=(by injection e520);replace p520:=eq_true p520;replace q520:=eq_true q520;have p521:0≤(aD:Int):=zB0 qA0;have q521:aD < (t495.length:Int):=zB0 qA0;obtain ⟨ad521,dK,dL,e521,cX,cY,bM,bE,bF⟩:=a9M (Kd.a2U aI.out).2.2 aD p521 q521;cases e521;obtain ⟨ce521,bP,bQ,bI⟩:=Kd.N_get aI.out z42 aD p521 qQ1;obtain ⟨cZ,dA,rfl,aX,aY⟩:=a8L bQ;have aU:=bI 2 _ rfl;rw [a1L _ _ 2 qD0] at aU;replace aU:=zD0 (aU.symm.trans bM);injection aU with hva_ hvn_ hvc_
                       rw [hva_] at aY;rw [hvc_] at aX;have dB:=a0C.mk (show Kd.V Kd.string 9 _ w.heap.size _ _ ((a2K t495 aD).f2) from Kd.V_mk aX aY);clear hva_ hvn_ hvc_ aY aX;clear bI bP;have aJ:=a0C.mk bF;have aZ:=a0C.mk bE;clear bF bE;replace p521:=eq_true p521;replace q521:=eq_true q521;have p522:0≤(aH:Int):=zB0 qA0;have q522:aH < (t495.length:Int):=zB0 qA0;obtain ⟨ad522,dM,dN,e522,dC,dD,bN,bG,bH⟩:=a9M (Kd.a2U aI.out).2.2 aH p522 q522;obtain rfl:ad521 = ad522:=(by injection e522);obtain ⟨ce522,bR,bS,bJ⟩:=Kd.N_get aI.out z42 aH p522 qR1;obtain ⟨dE,dF,rfl,bA,bC⟩:=a8L bS;have aV:=bJ 2 _ rfl;rw [a1L _ _ 2 qD0] at aV;replace aV:=zD0 (aV.symm.trans bN);injection aV with hva_ hvn_ hvc_
                       rw [hva_] at bC;rw [hvc_] at bA;have dG:=a0C.mk (show Kd.V Kd.string 9 _ w.heap.size _ _ ((a2K t495 aH).f2) from Kd.V_mk bA bC);clear hva_ hvn_ hvc_ bC bA;clear bJ bR;have aK:=a0C.mk bH;have bD:=a0C.mk bG;clear bH bG;replace p522:=eq_true p522;replace q522:=eq_true q522;go_wp2_with (first | (go_at_call 10;(with_reducible refine (r14_Texts.calls k4 _ _ ((a2K t495 aD).f2) _ _ ((a2K t495 aH).f2) true _ ?side1 ?side2 ?side3 ?side4 A52.out).mono ?_);(case side1 =>repeat (first | exact qP0 | (with_reducible refine Kd.a1E ?_ _) | (with_reducible refine Kd.a1D ?_ _) | (with_reducible refine Kd.a1I ?_)));(case side2 =>exact aZ.out);(case side3 =>repeat (first | exact qQ0 | (with_reducible refine Kd.a1E ?_ _) | (with_reducible refine Kd.a1D ?_ _) | (with_reducible refine Kd.a1I ?_)));(case side4 =>exact bD.out);rintro e w' ⟨rfl,⟨nd,rfl⟩⟩;(try first | exact ⟨rfl,_,World.drewN_drewN _ _ _⟩ | exact ⟨rfl,_,Eq.trans (World.drewN_drewN _ _ _) (congrArg (World.drewN _) (zZ0 _ _ _))⟩)))
                       repeat (go_quiet (first | (go_at_call 10;(with_reducible refine (r14_Texts.calls k4 _ _ ((a2K t495 aD).f2) _ _ ((a2K t495 aH).f2) true _ ?side1 ?side2 ?side3 ?side4 A52.out).mono ?_);(case side1 =>repeat (first | exact qP0 | (with_reducible refine Kd.a1E ?_ _) | (with_reducible refine Kd.a1D ?_ _) | (with_reducible refine Kd.a1I ?_)));(case side2 =>exact aZ.out);(case side3 =>repeat (first | exact qQ0 | (with_reducible refine Kd.a1E ?_ _) | (with_reducible refine Kd.a1D ?_ _) | (with_reducible refine Kd.a1I ?_)));(case side4 =>exact bD.out);rintro e w' ⟨rfl,⟨nd,rfl⟩⟩;(try first | exact ⟨rfl,_,World.drewN_drewN _ _ _⟩ | exact ⟨rfl,_,Eq.trans (World.drewN_drewN _ _ _) (congrArg (World.drewN _) (zZ0 _ _ _))⟩)));try go_wp2_with (first | (go_at_call 10;(with_reducible refine (r14_Texts.calls k4 _ _ ((a2K t495 aD).f2) _ _ ((a2K t495 aH).f2) true _ ?side1 ?side2 ?side3 ?side4 A52.out).mono ?_);(case side1 =>repeat (first | exact qP0 | (with_reducible refine Kd.a1E ?_ _) | (with_reducible refine Kd.a1D ?_ _) | (with_reducible refine Kd.a1I ?_)));(case side2 =>exact aZ.out);(case side3 =>repeat (first | exact qQ0 | (with_reducible refine Kd.a1E ?_ _) | (with_reducible refine Kd.a1D ?_ _) | (with_reducible refine Kd.a1I ?_)));(case side4 =>exact bD.out);rintro e w' ⟨rfl,⟨nd,rfl⟩⟩;(try first | exact ⟨rfl,_,World.drewN_drewN _ _ _⟩ | exact ⟨rfl,_,Eq.trans (World.drewN_drewN _ _ _) (congrArg (World.drewN _) (zZ0 _ _ _))⟩))))
                       go_roundg k4
                       case measure =>have:=HJ1.out;have:=HJ16.out;have:=HK3.out;have:=HK4.out;omega
                       case rel =>exact ⟨(wrap64 (aH + 1)),qE0,H',⟨by have:=HJ1.out;have:=HJ16.out;have:=HK3.out;have:=HK4.out;omega⟩,⟨by (with_reducible repeat (first | apply Kd.a2A | apply Kd.a1Z | apply Kd.a2V));exact aI.out⟩,⟨by (with_reducible repeat (first | apply Kd.a0T | apply Kd.a0S | apply Kd.a1B));exact aT.out⟩,⟨by (with_reducible repeat (first | apply Kd.a0T | apply Kd.a0S | apply Kd.a1B));exact aW.out⟩,⟨by (with_reducible repeat (first | refine a0P ?_ _ | refine a0X ?_ | refine a0K ?_ _));exact aA.out⟩,⟨by repeat (first | (with_reducible first | exact HB.out | apply a0B | apply a0A | apply a0D | refine a0G ?_ aE.out) | exact HB.out)⟩⟩
                      ·replace c53:=Bool.eq_false_iff.mpr c53;subst c53;rw [if_neg (show ¬ (false = true) by decide)] at H;obtain rfl:=zD0 H;obtain ⟨Ao55,co55,eo55⟩:=Kd.a1V aT.out;subst eo55;have p519:0≤(aD:Int):=zB0 qA0;have q519:aD < (t501.length:Int):=zB0 qA0;obtain ⟨ad519,e519,cJ⟩:=Kd.a1Q (Kd.a1J aT.out).2.2 aD p519 q519;cases e519;replace p519:=eq_true p519;replace q519:=eq_true q519;have p520:0≤(aH:Int):=zB0 qA0;have q520:aH < (t501.length:Int):=zB0 qA0;obtain ⟨ad520,e520,cM⟩:=Kd.a1Q (Kd.a1J aT.out).2.2 aH p520 q520;obtain rfl:ad519 = ad520:=(by injection e520);replace p520:=eq_true p520;replace q520:=eq_true q520;have p521:0≤(aD:Int):=zB0 qA0;have q521:aD < (t495.length:Int):=zB0 qA0;obtain ⟨ad521,dK,dL,e521,cX,cY,bM,bE,bF⟩:=a9M (Kd.a2U aI.out).2.2 aD p521 q521;cases e521;obtain ⟨ce521,bP,bQ,bI⟩:=Kd.N_get aI.out z42 aD p521 qQ1;obtain ⟨cZ,dA,rfl,aX,aY⟩:=a8L bQ;have aU:=bI 2 _ rfl;rw [a1L _ _ 2 qD0] at aU;replace aU:=zD0 (aU.symm.trans bM);injection aU with hva_ hvn_ hvc_
                       rw [hva_] at aY;rw [hvc_] at aX;have dB:=a0C.mk (show Kd.V Kd.string 9 _ w.heap.size _ _ ((a2K t495 aD).f2) from Kd.V_mk aX aY);clear hva_ hvn_ hvc_ aY aX;clear bI bP;have aJ:=a0C.mk bF;have aZ:=a0C.mk bE;clear bF bE;replace p521:=eq_true p521;replace q521:=eq_true q521;have p522:0≤(aH:Int):=zB0 qA0;have q522:aH < (t495.length:Int):=zB0 qA0;obtain ⟨ad522,dM,dN,e522,dC,dD,bN,bG,bH⟩:=a9M (Kd.a2U aI.out).2.2 aH p522 q522;obtain rfl:ad521 = ad522:=(by injection e522);obtain ⟨ce522,bR,bS,bJ⟩:=Kd.N_get aI.out z42 aH p522 qR1;obtain ⟨dE,dF,rfl,bA,bC⟩:=a8L bS;have aV:=bJ 2 _ rfl;rw [a1L _ _ 2 qD0] at aV;replace aV:=zD0 (aV.symm.trans bN);injection aV with hva_ hvn_ hvc_
                       rw [hva_] at bC;rw [hvc_] at bA;have dG:=a0C.mk (show Kd.V Kd.string 9 _ w.heap.size _ _ ((a2K t495 aH).f2) from Kd.V_mk bA bC);clear hva_ hvn_ hvc_ bC bA;clear bJ bR;have aK:=a0C.mk bH;have bD:=a0C.mk bG;clear bH bG;replace p522:=eq_true p522;replace q522:=eq_true q522;go_wp2_with (first | (go_at_call 10;(with_reducible refine (r14_Texts.calls k4 _ _ ((a2K t495 aD).f2) _ _ ((a2K t495 aH).f2) false _ ?side1 ?side2 ?side3 ?side4 A52.out).mono ?_);(case side1 =>repeat (first | exact qP0 | (with_reducible refine Kd.a1E ?_ _) | (with_reducible refine Kd.a1D ?_ _) | (with_reducible refine Kd.a1I ?_)));(case side2 =>exact aZ.out);(case side3 =>repeat (first | exact qQ0 | (with_reducible refine Kd.a1E ?_ _) | (with_reducible refine Kd.a1D ?_ _) | (with_reducible refine Kd.a1I ?_)));(case side4 =>exact bD.out);rintro e w' ⟨rfl,⟨nd,rfl⟩⟩;(try first | exact ⟨rfl,_,World.drewN_drewN _ _ _⟩ | exact ⟨rfl,_,Eq.trans (World.drewN_drewN _ _ _) (congrArg (World.drewN _) (zZ0 _ _ _))⟩)))
                       repeat (go_quiet (first | (go_at_call 10;(with_reducible refine (r14_Texts.calls k4 _ _ ((a2K t495 aD).f2) _ _ ((a2K t495 aH).f2) false _ ?side1 ?side2 ?side3 ?side4 A52.out).mono ?_);(case side1 =>repeat (first | exact qP0 | (with_reducible refine Kd.a1E ?_ _) | (with_reducible refine Kd.a1D ?_ _) | (with_reducible refine Kd.a1I ?_)));(case side2 =>exact aZ.out);(case side3 =>repeat (first | exact qQ0 | (with_reducible refine Kd.a1E ?_ _) | (with_reducible refine Kd.a1D ?_ _) | (with_reducible refine Kd.a1I ?_)));(case side4 =>exact bD.out);rintro e w' ⟨rfl,⟨nd,rfl⟩⟩;(try first | exact ⟨rfl,_,World.drewN_drewN _ _ _⟩ | exact ⟨rfl,_,Eq.trans (World.drewN_drewN _ _ _) (congrArg (World.drewN _) (zZ0 _ _ _))⟩)));try go_wp2_with (first | (go_at_call 10;(with_reducible refine (r14_Texts.calls k4 _ _ ((a2K t495 aD).f2) _ _ ((a2K t495 aH).f2) false _ ?side1 ?side2 ?side3 ?side4 A52.out).mono ?_);(case side1 =>repeat (first | exact qP0 | (with_reducible refine Kd.a1E ?_ _) | (with_reducible refine Kd.a1D ?_ _) | (with_reducible refine Kd.a1I ?_)));(case side2 =>exact aZ.out);(case side3 =>repeat (first | exact qQ0 | (with_reducible refine Kd.a1E ?_ _) | (with_reducible refine Kd.a1D ?_ _) | (with_reducible refine Kd.a1I ?_)));(case side4 =>exact bD.out);rintro e w' ⟨rfl,⟨nd,rfl⟩⟩;(try first | exact ⟨rfl,_,World.drewN_drewN _ _ _⟩ | exact ⟨rfl,_,Eq.trans (World.drewN_drewN _ _ _) (congrArg (World.drewN _) (zZ0 _ _ _))⟩))))
                       go_ret;exact qY3
                     ·rw [if_neg c51] at H;exact absurd H qG0
                    ·rw [if_neg c50] at H;exact absurd H qG0
                   ·rw [if_neg c49] at H;have c49b0:((rd t501 aD) == (rd t501 aH)) = false:=beq_eq_false_iff_ne.mpr c49;have c49b1:((rd t501 aD) != (rd t501 aH)) = true:=bne_iff_ne.mpr c49;have H':=a0C.mk H;clear H;obtain ⟨Ao56,co56,eo56⟩:=Kd.a1V aT.out;subst eo56;have p519:0≤(aD:Int):=zB0 qA0;have q519:aD < (t501.length:Int):=zB0 qA0;obtain ⟨ad519,e519,cJ⟩:=Kd.a1Q (Kd.a1J aT.out).2.2 aD p519 q519;cases e519;replace p519:=eq_true p519;replace q519:=eq_true q519;have p520:0≤(aH:Int):=zB0 qA0;have q520:aH < (t501.length:Int):=zB0 qA0;obtain ⟨ad520,e520,cM⟩:=Kd.a1Q (Kd.a1J aT.out).2.2 aH p520 q520;obtain rfl:ad519 = ad520:=(by injection e520);replace p520:=eq_true p520;replace q520:=eq_true q520;go_wp2
                    repeat (go_quiet (fail);try go_wp2)
                    go_roundg k4
                    case measure =>have:=HJ1.out;have:=HJ16.out;have:=HK3.out;have:=HK4.out;omega
                    case rel =>exact ⟨(wrap64 (aH + 1)),qE0,H',⟨by have:=HJ1.out;have:=HJ16.out;have:=HK3.out;have:=HK4.out;omega⟩,⟨by (with_reducible repeat (first | apply Kd.a2A | apply Kd.a1Z | apply Kd.a2V));exact aI.out⟩,⟨by (with_reducible repeat (first | apply Kd.a0T | apply Kd.a0S | apply Kd.a1B));exact aT.out⟩,⟨by (with_reducible repeat (first | apply Kd.a0T | apply Kd.a0S | apply Kd.a1B));exact aW.out⟩,⟨by (with_reducible repeat (first | refine a0P ?_ _ | refine a0X ?_ | refine a0K ?_ _));exact aA.out⟩,⟨by repeat (first | (with_reducible first | exact HB.out | apply a0B | apply a0A | apply a0D | refine a0G ?_ aE.out) | exact HB.out)⟩⟩
                  ·rw [if_neg c48] at H;exact absurd H qG0
                 ·rw [if_neg c47] at H;exact absurd H qG0
                ·rw [if_neg c46] at H;exact absurd H qG0
               ·rw [if_neg c45] at H;exact absurd H qG0
              ·rw [if_neg c44] at H;have c44b0:decide (aH < aD) = false:=zL0 c44;clear c44;have H':=a0C.mk H;clear H;go_wp2
               repeat (go_quiet (fail);try go_wp2)
               go_roundg k4
               case measure =>have:=HJ1.out;have:=HJ16.out;have:=HK3.out;have:=HK4.out;omega
               case rel =>exact ⟨(t516),(wrap64 (aD + 1)),qE0,H',⟨by have:=HJ1.out;have:=HJ16.out;have:=HK3.out;have:=HK4.out;omega⟩,⟨by (with_reducible repeat (first | apply Kd.a2A | apply Kd.a1Z | apply Kd.a2V));exact aI.out⟩,⟨by (with_reducible repeat (first | apply Kd.a0T | apply Kd.a0S | apply Kd.a1B));exact aT.out⟩,⟨by (with_reducible repeat (first | apply Kd.a0T | apply Kd.a0S | apply Kd.a1B));exact aW.out⟩,⟨by (with_reducible repeat (first | refine a0P ?_ _ | refine a0X ?_ | refine a0K ?_ _));exact aA.out⟩,⟨by repeat (first | (with_reducible first | exact HB.out | apply a0B | apply a0A | apply a0D | refine a0G ?_ aE.out) | exact HB.out)⟩⟩
           ·rw [if_neg c35] at H;exact absurd H qG0
          ·rw [if_neg c34] at H;exact absurd H qG0
         ·rw [if_neg c33] at H;have c33b0:decide (aD < (t495.length:Int)) = false:=zL0 c33;clear c33;obtain ⟨t508,A57,H⟩:=ob_ H;obtain ⟨t511,A58,H⟩:=ob_ H;obtain rfl:=zD0 H;obtain ⟨Ao59,co59,eo59⟩:=Kd.a4D aI.out;subst eo59;go_wp2_with (first | (go_at_call 17;(with_reducible refine (effects_All.calls _ _ t495 t508 _ ?side1 ?side2 A57.out).mono ?_);(case side1 =>repeat (first | exact (Kd.a2U aI.out).2.2 | (with_reducible refine Kd.a1E ?_ _) | (with_reducible refine Kd.a1D ?_ _) | (with_reducible refine Kd.a1I ?_)));(case side2 =>exact (Kd.a2U aI.out).2.1);rintro e w60 ⟨v509,rfl,ho0,hb⟩;have bW:=a0C.mk (Kd.a4X qD1 (Kd.a5C ho0) hb);have bX:=a0C.mk (Kd.a3L qE1 hb);have bY:=a0C.mk (Kd.a6U qV0 (Kd.a5C ho0) hb);have bZ:=a0C.mk (Kd.a2W (Kd.b2L ho0 (Kd.R_lt qV0)) (a0R qI0));have dH:=a0C.mk (a0U (g:=aG) (o:=.cells #[.slice aQ aC.length aN] 24 (0,0)) qK0 hb);have dI:=a0C.mk (a0L qI0 hb);clear aI;clear aT;clear aW;clear aA;clear HB;have aI:=bW;have aT:=bX;have aW:=bY;have HO510:=bZ;have aA:=dH;have HB:=dI;clear bW bX bY bZ dH dI;(try clear hb);(try clear ho0);obtain ⟨Ao61,co61,eo61⟩:=Kd.a1V HO510.out;subst eo61;obtain ⟨Ao62,co62,eo62⟩:=Kd.a1V aW.out;subst eo62) | (go_at_call 10;(with_reducible refine (r14_Texts.calls k3 _ _ t508 _ _ cN t511 _ ?side1 ?side2 ?side3 ?side4 A58.out).mono ?_);(case side1 =>repeat (first | exact (Kd.a1J HO510.out).2.2 | (with_reducible refine Kd.a1E ?_ _) | (with_reducible refine Kd.a1D ?_ _) | (with_reducible refine Kd.a1I ?_)));(case side2 =>exact (Kd.a1J HO510.out).2.1);(case side3 =>repeat (first | exact (Kd.a1J aW.out).2.2 | (with_reducible refine Kd.a1E ?_ _) | (with_reducible refine Kd.a1D ?_ _) | (with_reducible refine Kd.a1I ?_)));(case side4 =>exact (Kd.a1J aW.out).2.1);rintro e w' ⟨rfl,⟨nd,rfl⟩⟩;(try first | exact ⟨rfl,_,World.drewN_drewN _ _ _⟩ | exact ⟨rfl,_,Eq.trans (World.drewN_drewN _ _ _) (congrArg (World.drewN _) (zZ0 _ _ _))⟩)));go_ret;exact qY3
end Go.Proofs.YthhgfncliffggaaGreat.Pr
namespace Go.Proofs.YthhgfncliffggaaGreat.Man
open Go.RowKit Go.Proofs.YthhgfncliffggaaGreat.Pr Go.Proofs.YthhgfncliffggaaGreatW.PrintWords
theorem own_val (f:S34) (h:(flat f.f2).length≤1050000):effects_Own.f f.f0 f.f1 f.f2 = some (ownF f):=by
 unfold effects_Own.f;rw [if_pos h]
theorem sigs_val {fs:List S34} (h:SmG fs):effects_Sigs.f fs = some (sigsF fs):=by
 unfold effects_Sigs.f;rw [if_pos h]
theorem all_val {l:List S42} (h:l.length≤1050000) (h2:(l.flatMap (·.f2)).length≤1050000):effects_All.f l = some (allF l):=by
 unfold effects_All.f;rw [if_pos ⟨h,h2⟩]
theorem c3E:w14_fixed.f = some true:=rfl
section
variable {fs:List S34}
theorem c0R {i:Nat} (hi:i < fs.length):(a2K (sigsF fs) (i:Int)).f2 = wrF fs (numN (callsF fs) i):=by
 unfold a2K;rw [zM0,zF0,b4Q hi];rfl
theorem b8F {α β:Type} (f:α→List β) (B:Nat):∀ l:List α,(∀ x,x ∈ l→(f x).length≤B)→(l.flatMap f).length≤l.length * B
 | [],_ =>by simp
 | x :: r,h =>by
  have h1:=h x zP0;have h2:=b8F f B r (fun y hy =>h y (zQ0 _ hy));simp only [List.flatMap_cons,zR0,zT0,Nat.add_mul,Nat.one_mul];omega
theorem b7K {s:S42} (h:s ∈ sigsF fs):∃ i,i < fs.length∧s.f2 = wrF fs (numN (callsF fs) i):=by
 unfold sigsF at h;obtain ⟨i,hi,rfl⟩:=zC2.1 h;exact ⟨i,zW0.1 hi,rfl⟩
theorem sigs_sum (hs:SmG fs) (hn:fs.length≤60) (ht:total fs≤3000):((sigsF fs).flatMap (·.f2)).length≤1050000:=by
 have h:=b8F (fun s:S42 =>s.f2) 3000 (sigsF fs) (fun s hs' =>by
  obtain ⟨i,hi,e⟩:=b7K hs';rw [e]
  exact zH0 (b9Y hs hi) (zH0 (a9O fs) ht))
 rw [b4P] at h;have:fs.length * 3000≤60 * 3000:=zL1 _ hn;omega
theorem sig_len (hs:SmG fs) {i:Nat} (hi:i < fs.length):(a2K (sigsF fs) (i:Int)).f2.length≤1050000:=by
 rw [c0R hi];exact zH0 (b9Y hs hi) hs.u
end
open Go.Proofs.YthhgfncliffggaaGreat.Tarj
theorem rof14 {g:List (List Int)} (hm:mayB g = true):Ev (fun k =>r13_Of.f k g) (ofF g):=by
 obtain ⟨M,num,h1,h2⟩:=rof_ev hm;rw [(of_eq hm h1).2.2];exact h2
theorem b8R (fs:List S34) (i:Nat) (hi:i < fs.length):fs.take (i + 1) = fs.take i ++ [a1C fs (i:Int)]:=by
 rw [zV0 hi,b3A hi]
section
variable {fs:List S34}
theorem c1T {f:S34} (hf:f ∈ fs):∀ x,x ∈ ownF f→x ∈ allOwn fs:=fun x hx =>List.mem_flatMap.2 ⟨f,hf,b3H.1 hx⟩
theorem b8L (hs:SmG fs) (i:Nat):(capB ((fs.take i).flatMap ownF)).length≤1050000:=by
 refine zH0 (a8T _ (allOwn fs) (a4G _).nodup (fun x hx =>?_)) hs.u;rw [a5H,List.mem_flatMap] at hx;obtain ⟨f,hf,hx⟩:=hx;exact c1T (zT3 hf) x hx
theorem all_is (hn:fs.length≤1000):allF (sigsF fs) = capB (fs.flatMap ownF):=by
 unfold allF;refine (a4B _ _).ext (a4G _) (fun x =>?_);rw [a5P,a5H,List.mem_flatMap,List.mem_flatMap];constructor
 ·rintro (⟨s,hs,hx⟩ | h)
  ·obtain ⟨i,hi,e⟩:=b7K hs;have hx:x ∈ s.f2:=hx;rw [e] at hx;obtain ⟨z,hz,_,hx⟩:=(b2O hn hi).1 hx;exact ⟨_,b3Q hz,hx⟩
  ·cases h
 ·rintro ⟨f,hf,hx⟩;obtain ⟨i,hi,rfl⟩:=List.getElem_of_mem hf;refine .inl ⟨_,List.mem_of_getElem? (b4Q hi),?_⟩;show x ∈ wrF fs (numN (callsF fs) i);refine (b2O hn hi).2 ⟨i,hi,.refl _,?_⟩;unfold fnAt;rw [b3A hi];exact hx
end
theorem b9J (fs:List S34) (hl:LowP fs):Ev (fun k =>w14_EffectsKnots.f k fs) true:=by
 have fx:Ev (fun k =>w14_EffectsKnots.j0 k true fs) true:=by
  refine Ev.step ?_;simp only [w14_EffectsKnots.j0,if_true,c3E,zK0];exact Ev.const true
 obtain ⟨t,ht,htot⟩:=big14 fs hl;unfold w14_EffectsKnots.f;refine Ev.bind ht ?_;cases t with
 | true =>simp only [if_true];exact fx
 | false =>
 have htot:=htot rfl;simp only [Bool.false_eq_true,if_false];by_cases hn:(fs.length:Int) > 30
 ·rw [zC0 hn];exact fx
 rw [zL0 hn];have ln:fs.length≤60:=by omega
 have hs:SmG fs:=smG_of hl qD0 qD0;have hn1:=hs.n;have hsl:=b4P fs;have hgl:=b9R fs;have hm:=b1G hn1;have hol:(ofF (callsF fs)).length = fs.length:=by rw [ofF_len hm,hgl]
 have hsum:=sigs_sum hs ln htot;have hc:=c1N fs hl;rw [← b6V] at hc;refine Ev.step ?_;simp only [w14_EffectsKnots.j0,Bool.false_eq_true,if_false,sigs_val hs,zK0];refine Ev.bind hc (Ev.bind (rof14 hm) ?_);simp only [c3E,zK0,if_true,show (((sigsF fs).length:Int) != ((ofF (callsF fs)).length:Int)) = false by rw [hsl,hol];simp];refine Ev.step ?_;simp only [w14_EffectsKnots.j1,Bool.false_eq_true,if_false]
 suffices h:∀ m i:Nat,i + m = fs.length→Ev (fun k =>w14_EffectsKnots.l0 k (sigsF fs) (ofF (callsF fs)) (capB ((fs.take i).flatMap ownF)) (i:Int) fs) true by
  have:=h fs.length 0 qD0;rw [zN2,List.flatMap_nil,capB_nil] at this;exact this
 intro m
 induction m with
 | zero =>
  intro i hi;have hnl:¬ ((i:Int) < ((sigsF fs).length:Int)):=by rw [hsl,show i = fs.length from hi];exact zY3 _
  refine Ev.step ?_;simp only [w14_EffectsKnots.l0,if_neg hnl,all_val (l:=sigsF fs) qD0 hsum,zK0];have hcl:=b8L hs i;rw [show i = fs.length from hi,zH1] at hcl ⊢;rw [all_is hn1];exact Ev.bind (c0J _ qD0) (Ev.const true)
 | succ m ih =>
  intro i hi;have hil:i < fs.length:=by omega
  have c1:(0:Int)≤(i:Int):=zI0 i;have c2:(i:Int) < (fs.length:Int):=zS1.2 hil;have c3:(i:Int) < ((sigsF fs).length:Int):=by rw [hsl];exact c2
  have c4:(i:Int) < ((ofF (callsF fs)).length:Int):=by rw [hol];exact c2
  have hw:=pz14 i qD0;have hmem:=b6F hil;have e:=ih (i + 1) qD0;rw [b8R fs i hil,List.flatMap_append,List.flatMap_cons,List.flatMap_nil,zO2,← c0G] at e;have hcl:=b8L hs i;have how:=ownI_len hs hil;refine Ev.step ?_;simp only [w14_EffectsKnots.l0,if_pos c1,if_pos c2,if_pos c3,own_val _ (hs.b _ hmem),zK0];refine Ev.bind (c1M _ _ qD0 (zH0 how qD0)) ?_;generalize unionF (capB ((fs.take i).flatMap ownF)) (ownF (a1C fs (i:Int))) = o at e
  suffices h:∀ q j:Nat,j + q = i→Ev (fun k =>w14_EffectsKnots.l1 k (sigsF fs) (ofF (callsF fs)) o (i:Int) (j:Int) fs) true from h i 0 qD0
  intro q
  induction q with
  | zero =>
   intro j hj;have hnl:¬ ((j:Int) < (i:Int)):=by omega
   refine Ev.step ?_;simp only [w14_EffectsKnots.l1,if_neg hnl,hw];exact e
  | succ q ihq =>
   intro j hj;have hji:j < i:=by omega
   have d1:(0:Int)≤(j:Int):=zI0 j;have d2:(j:Int) < (i:Int):=zS1.2 hji;have d3:(j:Int) < ((sigsF fs).length:Int):=by rw [hsl];omega
   have d4:(j:Int) < ((ofF (callsF fs)).length:Int):=by rw [hol];omega
   have hwj:=pz14 j qD0;have e2:=ihq (j + 1) qD0;refine Ev.step ?_;by_cases he:rd (ofF (callsF fs)) (i:Int) = rd (ofF (callsF fs)) (j:Int)
   ·simp only [w14_EffectsKnots.l1,if_pos d2,if_pos c1,if_pos c4,if_pos d1,if_pos d4,if_pos he,if_pos c3,if_pos d3,hwj];have hjl:j < fs.length:=by omega
    rw [ofF_rd hm qD0,ofF_rd hm qD0] at he;have he2:numN (callsF fs) i = numN (callsF fs) j:=by omega
    have hli:=sig_len hs hjl;have ex:(a2K (sigsF fs) (i:Int)).f2 = (a2K (sigsF fs) (j:Int)).f2:=by rw [c0R hil,c0R hjl,he2]
    rw [ex];refine Ev.bind (c0J _ qD0) ?_;simp only [if_true];exact e2
   ·simp only [w14_EffectsKnots.l1,if_pos d2,if_pos c1,if_pos c4,if_pos d1,if_pos d4,if_neg he,hwj];exact e2
end Go.Proofs.YthhgfncliffggaaGreat.Man
namespace Go.Proofs.YthhgfncliffggaaGreat.effectsKnots
open Go.ChangeShapes Go.WideShapes Go.ChangeAt Go.RowKit Go.Proofs.YthhgfncliffggaaGreat.Pr Go.Proofs.YthhgfncliffggaaGreatW.PrintWords
open Go.ChangeMaps (open_string shut_string)
theorem own:ownKnob Tryz.prog.godebug = none:=by kernel_rfl
theorem laidOut:laidOutB Tryz.prog = true:=by kernel_rfl
theorem lowP {l:List S34} {n:Nat} (h:Man.FitP l n) (hn:n≤2000000):Man.LowP l :=
 ⟨by have:=h.1;omega,fun f hf =>by
  obtain ⟨h1,⟨h2,h3⟩,h4⟩:=h.2 f hf
  exact ⟨by omega,by omega,by have:=Man.len_flat f.f2;omega,fun s hs =>by have:=h3 s hs;omega⟩⟩
theorem walk (A0:Option Addr) (c0:Nat) (l0:List S34) (hc0:l0.length≤c0) (w:World) (hC0:Kd.C k34 w A0 l0.length l0) (hP:Man.FitP l0 1048576) :
  Calls Tryz.prog 5 #[.agg #[.slice A0 l0.length c0]] w fun e w' =>e = .returned (.bool true)∧Below w.heap.size w w':=by
 obtain ⟨k,e⟩:=Man.b9J l0 (lowP hP qF0);exact w14_EffectsKnots.calls k A0 c0 l0 true w hC0 hc0 (e k (zG0 _))
set_option maxRecDepth 100000 in
set_option maxHeartbeats 4000000 in
theorem lifted (os:Os) (started:os.Started) (H:Type) (enc:TypeId × Value→H) (F:Stop.Interp) :
  ReturnsInHanded {} Tryz.checked os 5 .any ((Rows.OpenSpec.upto Rows.effectsKnotsSpec).pre6 enc Tryz.prog Tryz.f5 Rows.effectsKnotsUptoRow.domain false) (((Rows.OpenSpec.upto Rows.effectsKnotsSpec).at F).post enc Tryz.prog Tryz.f5 false true false false):=by
 refine returnsInHanded_of_cond (C:=Tryz.checked) (s:=(Rows.OpenSpec.upto Rows.effectsKnotsSpec)) (k:=Rows.uptoSmall) rfl own started qH0 Tryz.func5
  (OpenSpec.witness (enc:=enc) (C:=Tryz.checked) (s:=(Rows.OpenSpec.upto Rows.effectsKnotsSpec)) (k:=Rows.uptoSmall) rfl false ⟨#[],#[.agg #[.slice none 0 0]],[]⟩ 8 qH0 qH0 qH0
   (x:=([.agg [.nil]],[],[])) qH0 rfl qH0) ?_
 intro W base args ds gs before hval0 hW _ hk _;have hval:∀ (j:Nat) t v,Tryz.f5.params[j]? = some t→args[j]? = some v→Value.okWide Tryz.prog W .any base t v:=hval0;have hW':=hW;obtain ⟨p,q,hA0,hV,rfl,hfz,hnd⟩:=hW;have hA:DataW.TrodAll enc Tryz.prog W 0 (fun _ =>true) true Tryz.f5.params.toList args.toList ds p:=hA0;rw [Tryz.params5] at hA hval;obtain ⟨v0,vs0,d0,ds0,p0,q0,hargs,rfl,rfl,h0,r0⟩:=trodAll_cons hA;obtain ⟨rfl,rfl,rfl⟩:=trodAll_nil r0;obtain rfl:args = #[v0]:=by cases args;simp_all
 obtain ⟨rfl,rfl⟩:=trodVars_none hV;obtain ⟨cs0,rfl,hz0⟩:=okWide_struct Tryz.underlying24 (hval 0 24 v0 rfl rfl);have k0:=h0;have lt0:∀ x ∈ p0,x.block < W.heap.size:=by obtain ⟨m,hm⟩:=k0;exact DataW.trod_lt m _ _ _ hm
 obtain ⟨fuel0,hf0⟩:=h0;have hbulk:Rows.uptoBulkAll ([d0] ++ [])≤1048576:=zB0 hk;simp only [zO2,Rows.uptoBulkAll] at hbulk;obtain ⟨A0,c0,l0,hv0,hc0,hC0,hB0,hT0⟩:=Man.b6Y fuel0 cs0 _ _ hf0;subst hv0;have hP0:Man.FitP l0 1048576:=hB0.mono qD0;clear hA0 hval0;refine (walk _ _ l0 hc0 W hC0 hP0).mono fun e W' ⟨he,bel⟩ =>?_
 subst he;exact ⟨_,rfl,_,_,_,[],_,[],hW',trodAll_mk1 (shut_bool Tryz.underlying4 _),(trodAll_cons_mk (Below.trod laidOut qH0 (zB0 qH0) k0 bel lt0) trodAll_mk0),rfl,bel.frame _,fun h =>by cases h⟩
theorem proved:Rows.EffectsKnotsUptoSaid :=
 OpenClaim.holds_of_cond 5 Tryz.f5 rfl rfl rfl rfl rfl rfl rfl ⟨rfl,rfl,rfl,rfl,rfl⟩ rfl rfl rfl rfl rfl qH0 Tryz.func5 qH0
  (zB0 qH0) (by unfold Func.isWrapper;first | (rw [if_pos (by decide +kernel)];kernel_rfl) | (rw [if_neg (by decide +kernel)];exact ⟨rfl,rfl⟩))
  (fun os started H enc _ F =>lifted os started H enc F)
end Go.Proofs.YthhgfncliffggaaGreat.effectsKnots
namespace Go.Proofs.YthhgfncliffggaaGreat
theorem effectsKnots_holds:Rows.EffectsKnotsUptoSaid:=effectsKnots.proved
end Go.Proofs.YthhgfncliffggaaGreat
