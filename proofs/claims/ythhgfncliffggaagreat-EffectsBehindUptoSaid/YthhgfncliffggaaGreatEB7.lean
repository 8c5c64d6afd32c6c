/- A part of the proof that EffectsBehind returns true for every argument (the row of EffectsBehindUpto: theorem effectsBehind_holds). No conditions beyond the given statement's own. -/
import Derived.Test.YthhgfncliffggaaGreatEB6
import Derived.Test.YthhgfncliffggaaGreatEB3
import Derived.Test.YthhgfncliffggaaGreatEB4
import Derived.Test.YthhgfncliffggaaGreatRows
import Derived.Test.YthhgfncliffggaaGreatEB2
import Derived.WalkKit
import Derived.ProofKit
import Derived.OpenShut
import Derived.ShutString
import Derived.ChangeOld
import Derived.Below
import Derived.SizedLaws
import Derived.JoinedCond
set_option maxHeartbeats 16000000
set_option maxRecDepth 100000
set_option linter.unusedVariables false
set_option linter.unusedSimpArgs false
namespace Go.Proofs.YthhgfncliffggaaGreat.Man
open Go.RowKit Go.Shelf Go.Proofs.YthhgfncliffggaaGreat.Pr Go.Proofs.YthhgfncliffggaaGreatW.PrintWords
attribute [local go_sem] Oper.semAt_some
theorem one_F {W:World} {b:Nat} {f:S34} {A1 A2:Option Addr} {c1 c2:Nat} {okp:Nat→Prop} (hb:W.heap[b]? = some (.cells #[.string f.f0,.slice A1 f.f1.length c1,.slice A2 f.f2.length c2] 34 (0,0))) (hok:okp b) (l1:f.f1.length≤c1) (g1:Kd.F Kd.string W okp A1 f.f1.length f.f1) (l2:f.f2.length≤c2) (g2:Kd.F k65 W okp A2 f.f2.length f.f2):Kd.F k34 W okp (some ⟨b,0,none⟩) 1 [f]:=by
 have hlt:=a0X hb;intro W' hW;have hb':W'.heap[b]? = some (.cells #[.string f.f0,.slice A1 f.f1.length c1,.slice A2 f.f2.length c2] 34 (0,0)):=(hW b hok hlt).trans hb;refine ⟨rfl,by decide,fun _ =>⟨_,rfl,fun j p hj =>?_⟩⟩
 match j,hj with
 | 0,hj =>
  obtain rfl:=zC0 hj;refine ⟨[.string f.f0,.slice A1 f.f1.length c1,.slice A2 f.f2.length c2],rfl,b9K W' f l1 (g1 W' hW) l2 (g2 W' hW),fun i u hi =>?_⟩;rw [a3P,Nat.zero_mul,zZ1,zZ1,a0I hb' i];simpa using hi
def a4O (W:World) (g:Nat) (cs:Array Value) (t:TypeId):Prop:=W.heap[g]? = some (.cells cs t (0,0))
theorem a4O.lt {W:World} {g:Nat} {cs:Array Value} {t:TypeId} (h:a4O W g cs t):g < W.heap.size:=a0X h
theorem a4O.below {W W1:World} {g:Nat} {cs:Array Value} {t:TypeId} (h:a4O W g cs t) (hb:Below W.heap.size W W1):a4O W1 g cs t:=a0P h hb
theorem a4O.kept {W W1:World} {g:Nat} {cs:Array Value} {t:TypeId} {row:Option Nat} (h:a4O W g cs t) (hg:W.grownBy W1 row) (hne:some g≠row):a4O W1 g cs t:=a1D h hg hne
theorem a4O.other {W:World} {g g':Nat} {cs:Array Value} {t:TypeId} (h:a4O W g cs t) (hne:g≠g') (u:Value):a4O (W.setCell ⟨g',0,none⟩ u) g cs t:=(Below.heap_setCell W ⟨g',0,none⟩ u g hne).trans h
structure BhS (w:World) (l:List S34) (f:S34) (A:Option Addr) (c:Nat) (A1:Option Addr) (c1:Nat) (A2:Option Addr) (c2 g2 g3:Nat) (done:Nat→Bool) (val:Nat→Value) (Z:World):Prop where
 be:Below w.heap.size w Z
 b2:Boxed Z g2 24 (.slice A l.length c)
 b3:a4O Z g3 #[.string f.f0,.slice A1 f.f1.length c1,.slice A2 f.f2.length c2] 34
 v1:done 1 = true→val 1 = .pointer (some ⟨g2,0,none⟩)
 v2:done 2 = true→val 2 = .slice A l.length c
 v4:done 4 = true→val 4 = .agg #[.string f.f0,.slice A1 f.f1.length c1,.slice A2 f.f2.length c2]
 v5:done 5 = true→done 6 = false→∃ b,val 5 = .slice (some ⟨b,0,none⟩) 1 1∧w.heap.size≤b∧a4O Z b #[.string f.f0,.slice A1 f.f1.length c1,.slice A2 f.f2.length c2] 34∧(done 8 = true→val 8≠.pointer (some ⟨b,0,none⟩))∧g3≠b
 n0:done 0 = true→done 3 = false→Kd.N k34 34 Z w.heap.size (fun k =>((done 8 = true→val 8≠.pointer (some ⟨k,0,none⟩))∧k≠g3)∧(done 5 = true→val 5≠.slice (some ⟨k,0,none⟩) 1 1)) (val 0) []
 n3:done 3 = true→done 6 = false→Kd.N k34 34 Z w.heap.size (fun k =>((done 8 = true→val 8≠.pointer (some ⟨k,0,none⟩))∧k≠g3)∧(done 5 = true→val 5≠.slice (some ⟨k,0,none⟩) 1 1)) (val 3) l
 n6:done 6 = true→Kd.N k34 34 Z w.heap.size (fun k =>(done 8 = true→val 8≠.pointer (some ⟨k,0,none⟩))∧k≠g3) (val 6) (l ++ [f])
 v7:done 7 = true→val 7 = .agg #[val 6]∧done 6 = true
 b8:done 8 = true→∃ g,val 8 = .pointer (some ⟨g,0,none⟩)∧w.heap.size≤g∧Boxed Z g 24 (if done 9 = true then val 6 else .slice none 0 0)∧g2≠g∧g3≠g
 d9:done 9 = true→done 6 = true∧done 8 = true
 d6:done 6 = true→done 3 = true
 d65:done 6 = true→done 5 = true
 d3:done 3 = true→done 0 = true
def Rd14 (Z:World) (v:Value) (a:List S42):Prop:=∃ A c,v = .slice A a.length c∧a.length≤c∧Kd.C k42 Z A a.length a
theorem Rd14.below {Z Z1:World} {v:Value} {a:List S42} (h:Rd14 Z v a) (hb:Below Z.heap.size Z Z1):Rd14 Z1 v a:=let ⟨A,c,e,l,k⟩:=h;⟨A,c,e,l,Kd.a0H k hb⟩
theorem rd14_N {Z:World} {v:Value} {a:List S42} {B:Nat} {ok:Nat→Prop} (h:Kd.N k42 42 Z B ok v a):Rd14 Z v a:=by
 obtain ⟨A,c,rfl⟩:=Kd.a3U h;exact ⟨A,c,rfl,(Kd.a3Q h).2.1,(Kd.a3Q h).2.2⟩
def STb (Wa:World) (a b:List S42):Nat→(Nat→Value)→World→Prop
 | 0,_,Z =>Below Wa.heap.size Wa Z
 | 1,v,Z =>Below Wa.heap.size Wa Z∧Rd14 Z (v 0) a
 | 2,v,Z =>Below Wa.heap.size Wa Z∧Rd14 Z (v 0) a∧Rd14 Z (v 1) b
 | 3,v,Z =>Below Wa.heap.size Wa Z∧Rd14 Z (v 0) a∧Rd14 Z (v 1) b∧v 2 = v 0
 | _,v,Z =>Below Wa.heap.size Wa Z∧Rd14 Z (v 0) a∧Rd14 Z (v 1) b∧v 2 = v 0∧v 3 = v 1
theorem STb.be {Wa Z:World} {a b:List S42} {v:Nat→Value}:∀ s,STb Wa a b s v Z→Below Wa.heap.size Wa Z
 | 0,h =>h
 | 1,h =>h.1
 | 2,h =>h.1
 | 3,h =>h.1
 | _ + 4,h =>h.1
section
variable {w Z Z1:World} {l:List S34} {f:S34} {A A1 A2:Option Addr} {c c1 c2 g2 g3:Nat} {done:Nat→Bool} {val:Nat→Value}
theorem BhS.below (h:BhS w l f A c A1 c1 A2 c2 g2 g3 done val Z) (hb:Below Z.heap.size Z Z1):BhS w l f A c A1 c1 A2 c2 g2 g3 done val Z1:=by
 exact { be:=a0L h.be hb,b2:=a1C h.b2 hb,b3:=h.b3.below hb,v1:=h.v1,v2:=h.v2,v4:=h.v4,v5:=(fun a b =>let ⟨q,x1,x2,x3,x4,x5⟩:=h.v5 a b;⟨q,x1,x2,x3.below hb,x4,x5⟩),n0:=(fun a b =>Kd.a1P (h.n0 a b) hb),n3:=(fun a b =>Kd.a1P (h.n3 a b) hb),n6:=(fun a =>Kd.a1P (h.n6 a) hb),v7:=h.v7,b8:=(fun a =>let ⟨g,x,y,z,n2,n3⟩:=h.b8 a;⟨g,x,y,a1C z hb,n2,n3⟩),d9:=h.d9,d6:=h.d6,d65:=h.d65,d3:=h.d3 }
theorem BhS.do1 (h:BhS w l f A c A1 c1 A2 c2 g2 g3 done val Z) (hd:done 1 = false):BhS w l f A c A1 c1 A2 c2 g2 g3 (upd done 1) (setv val 1 (.pointer (some ⟨g2,0,none⟩))) Z:=by
 exact { be:=h.be,b2:=h.b2,b3:=h.b3,v1:=(fun _ =>by simp [setv]),v2:=(by simpa [upd,setv] using h.v2),v4:=(by simpa [upd,setv] using h.v4),v5:=(by simpa [upd,setv] using h.v5),n0:=(by simpa [upd,setv] using h.n0),n3:=(by simpa [upd,setv] using h.n3),n6:=(by simpa [upd,setv] using h.n6),v7:=(by simpa [upd,setv] using h.v7),b8:=(by simpa [upd,setv] using h.b8),d9:=(by simpa [upd,setv] using h.d9),d6:=(by simpa [upd,setv] using h.d6),d65:=(by simpa [upd,setv] using h.d65),d3:=(by simpa [upd,setv] using h.d3) }
theorem BhS.do2 (h:BhS w l f A c A1 c1 A2 c2 g2 g3 done val Z) (hd:done 2 = false):BhS w l f A c A1 c1 A2 c2 g2 g3 (upd done 2) (setv val 2 (.slice A l.length c)) Z:=by
 exact { be:=h.be,b2:=h.b2,b3:=h.b3,v1:=(by simpa [upd,setv] using h.v1),v2:=(fun _ =>by simp [setv]),v4:=(by simpa [upd,setv] using h.v4),v5:=(by simpa [upd,setv] using h.v5),n0:=(by simpa [upd,setv] using h.n0),n3:=(by simpa [upd,setv] using h.n3),n6:=(by simpa [upd,setv] using h.n6),v7:=(by simpa [upd,setv] using h.v7),b8:=(by simpa [upd,setv] using h.b8),d9:=(by simpa [upd,setv] using h.d9),d6:=(by simpa [upd,setv] using h.d6),d65:=(by simpa [upd,setv] using h.d65),d3:=(by simpa [upd,setv] using h.d3) }
theorem BhS.do4 (h:BhS w l f A c A1 c1 A2 c2 g2 g3 done val Z) (hd:done 4 = false):BhS w l f A c A1 c1 A2 c2 g2 g3 (upd done 4) (setv val 4 (.agg #[.string f.f0,.slice A1 f.f1.length c1,.slice A2 f.f2.length c2])) Z:=by
 exact { be:=h.be,b2:=h.b2,b3:=h.b3,v1:=(by simpa [upd,setv] using h.v1),v2:=(by simpa [upd,setv] using h.v2),v4:=(fun _ =>by simp [setv]),v5:=(by simpa [upd,setv] using h.v5),n0:=(by simpa [upd,setv] using h.n0),n3:=(by simpa [upd,setv] using h.n3),n6:=(by simpa [upd,setv] using h.n6),v7:=(by simpa [upd,setv] using h.v7),b8:=(by simpa [upd,setv] using h.b8),d9:=(by simpa [upd,setv] using h.d9),d6:=(by simpa [upd,setv] using h.d6),d65:=(by simpa [upd,setv] using h.d65),d3:=(by simpa [upd,setv] using h.d3) }
theorem BhS.do7 (h:BhS w l f A c A1 c1 A2 c2 g2 g3 done val Z) (h6:done 6 = true) (hd:done 7 = false):BhS w l f A c A1 c1 A2 c2 g2 g3 (upd done 7) (setv val 7 (.agg #[val 6])) Z:=by
 exact { be:=h.be,b2:=h.b2,b3:=h.b3,v1:=(by simpa [upd,setv] using h.v1),v2:=(by simpa [upd,setv] using h.v2),v4:=(by simpa [upd,setv] using h.v4),v5:=(by simpa [upd,setv] using h.v5),n0:=(by simpa [upd,setv] using h.n0),n3:=(by simpa [upd,setv] using h.n3),n6:=(by simpa [upd,setv] using h.n6),v7:=(fun _ =>⟨by simp [setv],by simpa [upd] using h6⟩),b8:=(by simpa [upd,setv] using h.b8),d9:=(by simpa [upd,setv] using h.d9),d6:=(by simpa [upd,setv] using h.d6),d65:=(by simpa [upd,setv] using h.d65),d3:=(by simpa [upd,setv] using h.d3) }
theorem BhS.do0 (h:BhS w l f A c A1 c1 A2 c2 g2 g3 done val Z) (v:Value) (hN:Kd.N k34 34 Z w.heap.size (fun k =>((done 8 = true→val 8≠.pointer (some ⟨k,0,none⟩))∧k≠g3)∧(done 5 = true→val 5≠.slice (some ⟨k,0,none⟩) 1 1)) v []):BhS w l f A c A1 c1 A2 c2 g2 g3 (upd done 0) (setv val 0 v) Z:=by
 exact { be:=h.be,b2:=h.b2,b3:=h.b3,v1:=(by simpa [upd,setv] using h.v1),v2:=(by simpa [upd,setv] using h.v2),v4:=(by simpa [upd,setv] using h.v4),v5:=(by simpa [upd,setv] using h.v5),n0:=(fun _ _ =>by simpa [upd,setv] using hN),n3:=(by simpa [upd,setv] using h.n3),n6:=(by simpa [upd,setv] using h.n6),v7:=(by simpa [upd,setv] using h.v7),b8:=(by simpa [upd,setv] using h.b8),d9:=(by simpa [upd,setv] using h.d9),d6:=(by simpa [upd,setv] using h.d6),d65:=(by simpa [upd,setv] using h.d65),d3:=(fun _ =>by simp [upd]) }
theorem BhS.do3 (h:BhS w l f A c A1 c1 A2 c2 g2 g3 done val Z) (h0:done 0 = true) (h6:done 6 = false) (hO:Kd.N k34 34 Z w.heap.size (fun k =>((done 8 = true→val 8≠.pointer (some ⟨k,0,none⟩))∧k≠g3)∧(done 5 = true→val 5≠.slice (some ⟨k,0,none⟩) 1 1)) (val 0) []) (v:Value) (hN:Kd.N k34 34 Z1 w.heap.size (fun k =>((done 8 = true→val 8≠.pointer (some ⟨k,0,none⟩))∧k≠g3)∧(done 5 = true→val 5≠.slice (some ⟨k,0,none⟩) 1 1)) v (l)) (hbe:Below w.heap.size w Z1) (hg:Z.grownBy Z1 (val 0).ownBlock):BhS w l f A c A1 c1 A2 c2 g2 g3 (upd done 3) (setv val 3 v) Z1:=by
 exact { be:=hbe,b2:=h.b2.kept hg (Kd.N_ne hO h.b2 qB0),b3:=h.b3.kept hg (fun e =>(hO.1 g3 e.symm).1.2 rfl),v1:=(by simpa [upd,setv] using h.v1),v2:=(by simpa [upd,setv] using h.v2),v4:=(by simpa [upd,setv] using h.v4),v5:=(fun a b =>let ⟨q,x1,x2,x3,x4,x5⟩:=h.v5 qA1 qT1;⟨q,by simpa [setv] using x1,x2,x3.kept hg (fun e =>(hO.1 q e.symm).2 qA1 x1),by simpa [upd,setv] using x4,x5⟩),n0:=(fun a b =>by simp [upd] at b),n3:=(fun _ _ =>by simpa [upd,setv] using hN),n6:=(fun a =>by simp [upd,h6] at a),v7:=(by simpa [upd,setv] using h.v7),b8:=(fun a =>let ⟨g,x,y,z,n2,n3⟩:=h.b8 qA1;⟨g,by simpa [setv] using x,y,by simpa [upd,setv] using z.kept hg (Kd.N_ne hO z qB0),n2,n3⟩),d9:=(by simpa [upd,setv] using h.d9),d6:=(fun a =>by simp [upd,h6] at a),d65:=(fun a =>by simp [upd,h6] at a),d3:=(fun _ =>by simpa [upd] using h0) }
theorem BhS.do6 (h:BhS w l f A c A1 c1 A2 c2 g2 g3 done val Z) (h3:done 3 = true) (h5:done 5 = true) (h7:done 7 = false) (h9:done 9 = false) (hO:Kd.N k34 34 Z w.heap.size (fun k =>((done 8 = true→val 8≠.pointer (some ⟨k,0,none⟩))∧k≠g3)∧(done 5 = true→val 5≠.slice (some ⟨k,0,none⟩) 1 1)) (val 3) l) (v:Value) (hN:Kd.N k34 34 Z1 w.heap.size (fun k =>(done 8 = true→val 8≠.pointer (some ⟨k,0,none⟩))∧k≠g3) v (l ++ [f])) (hbe:Below w.heap.size w Z1) (hg:Z.grownBy Z1 (val 3).ownBlock):BhS w l f A c A1 c1 A2 c2 g2 g3 (upd done 6) (setv val 6 v) Z1:=by
 exact { be:=hbe,b2:=h.b2.kept hg (Kd.N_ne hO h.b2 qB0),b3:=h.b3.kept hg (fun e =>(hO.1 g3 e.symm).1.2 rfl),v1:=(by simpa [upd,setv] using h.v1),v2:=(by simpa [upd,setv] using h.v2),v4:=(by simpa [upd,setv] using h.v4),v5:=(fun a b =>by simp [upd] at b),n0:=(fun a b =>by simp [upd,h3] at b),n3:=(fun a b =>by simp [upd] at b),n6:=(fun _ =>by simpa [upd,setv] using hN),v7:=(fun a =>by simp [upd,h7] at a),b8:=(fun a =>let ⟨g,x,y,z,n2,n3⟩:=h.b8 qA1;⟨g,by simpa [setv] using x,y,by simpa [upd,setv,h9] using z.kept hg (Kd.N_ne hO z qB0),n2,n3⟩),d9:=(fun a =>by simp [upd,h9] at a),d6:=(fun _ =>by simpa [upd] using h3),d65:=(fun _ =>by simpa [upd] using h5),d3:=(by simpa [upd,setv] using h.d3) }
theorem BhS.do5 (h:BhS w l f A c A1 c1 A2 c2 g2 g3 done val Z) (h6:done 6 = false):BhS w l f A c A1 c1 A2 c2 g2 g3 (upd done 5) (setv val 5 (.slice (some ⟨Z.heap.size,0,none⟩) 1 1)) (Z.alloc (.cells #[.string f.f0,.slice A1 f.f1.length c1,.slice A2 f.f2.length c2] 34)):=by
 have hb:Below Z.heap.size Z (Z.alloc (.cells #[.string f.f0,.slice A1 f.f1.length c1,.slice A2 f.f2.length c2] 34)):=a0D (zG0 _ _) _;have s0:∀ x:Value,setv val 5 x 0 = val 0:=fun _ =>rfl
 have s3:∀ x:Value,setv val 5 x 3 = val 3:=fun _ =>rfl
 have s6:∀ x:Value,setv val 5 x 6 = val 6:=fun _ =>rfl
 have s8:∀ x:Value,setv val 5 x 8 = val 8:=fun _ =>rfl
 exact { be:=a0L h.be hb,b2:=a1C h.b2 hb,b3:=h.b3.below hb,v1:=(by simpa [upd,setv] using h.v1),v2:=(by simpa [upd,setv] using h.v2),v4:=(by simpa [upd,setv] using h.v4),v5:=(fun _ _ =>⟨Z.heap.size,by simp [setv],h.be.size,World.alloc_heap_new Z _,(fun a e =>by obtain ⟨g,x,_,z,_,_⟩:=h.b8 qA1;have e2:val 8 = .pointer (some ⟨Z.heap.size,0,none⟩):=(by simpa [setv] using e);rw [x] at e2;simp at e2;have:=z.lt;omega),Nat.ne_of_lt h.b3.lt⟩),n0:=(fun a b =>Kd.a3T (Kd.a1P (Kd.a4K (h.n0 qA1 qT1)) hb) (fun k hk =>⟨by simpa [upd,setv] using hk.1.1,fun _ e =>by (simp [setv] at e) <;> (have:=hk.2;omega)⟩)),n3:=(fun a b =>Kd.a3T (Kd.a1P (Kd.a4K (h.n3 qA1 qT1)) hb) (fun k hk =>⟨by simpa [upd,setv] using hk.1.1,fun _ e =>by (simp [setv] at e) <;> (have:=hk.2;omega)⟩)),n6:=(fun a =>by simp [upd,h6] at a),v7:=(by simpa [upd,setv] using h.v7),b8:=(fun a =>let ⟨g,x,y,z,n2,n3⟩:=h.b8 qA1;⟨g,by simpa [setv] using x,y,by simpa [upd,setv] using a1C z hb,n2,n3⟩),d9:=(by simpa [upd,setv] using h.d9),d6:=(by simpa [upd,setv] using h.d6),d65:=(fun _ =>by simp [upd]),d3:=(by simpa [upd,setv] using h.d3) }
theorem BhS.do8 (h:BhS w l f A c A1 c1 A2 c2 g2 g3 done val Z) (h9:done 9 = false) (hd:done 8 = false):BhS w l f A c A1 c1 A2 c2 g2 g3 (upd done 8) (setv val 8 (.pointer (some ⟨Z.heap.size,0,none⟩))) (Z.alloc (.cells #[.slice none 0 0] 24)):=by
 have hb:Below Z.heap.size Z (Z.alloc (.cells #[.slice none 0 0] 24)):=a0D (zG0 _ _) _;have s0:∀ x:Value,setv val 8 x 0 = val 0:=fun _ =>rfl
 have s3:∀ x:Value,setv val 8 x 3 = val 3:=fun _ =>rfl
 have s5:∀ x:Value,setv val 8 x 5 = val 5:=fun _ =>rfl
 have s6:∀ x:Value,setv val 8 x 6 = val 6:=fun _ =>rfl
 exact { be:=a0L h.be hb,b2:=a1C h.b2 hb,b3:=h.b3.below hb,v1:=(by simpa [upd,setv] using h.v1),v2:=(by simpa [upd,setv] using h.v2),v4:=(by simpa [upd,setv] using h.v4),v5:=(fun a b =>let ⟨q,x1,x2,x3,x4,x5⟩:=h.v5 qA1 qT1;⟨q,by simpa [setv] using x1,x2,x3.below hb,(fun _ e =>by (simp [setv] at e) <;> (have:=x3.lt;omega)),x5⟩),n0:=(fun a b =>Kd.a3T (Kd.a1P (Kd.a4K (h.n0 qA1 qT1)) hb) (fun k hk =>⟨⟨fun _ e =>by (simp [setv] at e) <;> (have:=hk.2;omega),hk.1.1.2⟩,by simpa [upd,setv] using hk.1.2⟩)),n3:=(fun a b =>Kd.a3T (Kd.a1P (Kd.a4K (h.n3 qA1 qT1)) hb) (fun k hk =>⟨⟨fun _ e =>by (simp [setv] at e) <;> (have:=hk.2;omega),hk.1.1.2⟩,by simpa [upd,setv] using hk.1.2⟩)),n6:=(fun a =>Kd.a3T (Kd.a1P (Kd.a4K (h.n6 qA1)) hb) (fun k hk =>⟨fun _ e =>by (simp [setv] at e) <;> (have:=hk.2;omega),hk.1.2⟩)),v7:=(by simpa [upd,setv] using h.v7),b8:=(fun _ =>⟨Z.heap.size,by simp [setv],h.be.size,by simpa [upd,h9] using Boxed.new Z _ _,Nat.ne_of_lt h.b2.lt,Nat.ne_of_lt h.b3.lt⟩),d9:=(fun a =>by simp [upd,h9] at a),d6:=(by simpa [upd,setv] using h.d6),d65:=(by simpa [upd,setv] using h.d65),d3:=(by simpa [upd,setv] using h.d3) }
theorem BhS.do9 (h:BhS w l f A c A1 c1 A2 c2 g2 g3 done val Z) (h3:done 3 = true) (h6:done 6 = true) (h8:done 8 = true) {g:Nat} {u:Value} (hv:val 8 = .pointer (some ⟨g,0,none⟩)) (hge:w.heap.size≤g) (hbx:Boxed Z g 24 u) (n2:g2≠g) (n3:g3≠g) (r:Value):BhS w l f A c A1 c1 A2 c2 g2 g3 (upd done 9) (setv val 9 r) (Z.setCell ⟨g,0,none⟩ (val 6)):=by
 exact { be:=h.be.setCell (p:=⟨g,0,none⟩) hge (val 6),b2:=h.b2.other n2 _,b3:=h.b3.other n3 _,v1:=(by simpa [upd,setv] using h.v1),v2:=(by simpa [upd,setv] using h.v2),v4:=(by simpa [upd,setv] using h.v4),v5:=(fun a b =>by simp [upd,h6] at b),n0:=(fun a b =>by simp [upd,h3] at b),n3:=(fun a b =>by simp [upd,h6] at b),n6:=(fun a =>by simpa [upd,setv] using Kd.b7C (p:=⟨g,0,none⟩) (h.n6 h6) (fun k hk e =>hk.1 h8 (by rw [hv,show k = g from e])) (val 6)),v7:=(by simpa [upd,setv] using h.v7),b8:=(fun _ =>⟨g,by simpa [setv] using hv,hge,by simpa [upd,setv] using Boxed.set (val 6) hbx,n2,n3⟩),d9:=(fun _ =>⟨by simpa [upd] using h6,by simpa [upd] using h8⟩),d6:=(by simpa [upd,setv] using h.d6),d65:=(by simpa [upd,setv] using h.d65),d3:=(by simpa [upd,setv] using h.d3) }
end
theorem b3X (w:World) (l:List S34) (f:S34) (A:Option Addr) (c:Nat) (A1:Option Addr) (c1:Nat) (A2:Option Addr) (c2:Nat) (hc:l.length≤c) (l1:f.f1.length≤c1) (l2:f.f2.length≤c2) (hC:Kd.C k34 w A l.length l) (hC1:Kd.C Kd.string w A1 f.f1.length f.f1) (hC2:Kd.C k65 w A2 f.f2.length f.f2)
  (bb:Bool) (kb:Nat) (hbig:r03_Big.f kb (l ++ [f]) = some bb) (htot:bb = false→total (l ++ [f])≤3000) (hlp:LowP (l ++ [f])) :
  Calls Tryz.prog 6 #[.agg #[.slice A l.length c],.agg #[.string f.f0,.slice A1 f.f1.length c1,.slice A2 f.f2.length c2]] w fun e w' =>e = .returned (.bool true)∧Below w.heap.size w w':=by
 have HB:=zA0 (zG0 w.heap.size w);have KP:=zA0 hC;have G1:=zA0 hC1;have G2:=zA0 hC2;have HC:=zA0 hc;have HC1:=zA0 l1;have HC2:=zA0 l2;have BIG:=zA0 hbig;have HTOT:=zA0 htot;have LPB:=zA0 hlp;have hll:l.length + 1≤2000000:=by have:=hlp.1;simpa using this
 have LPL:=zA0 (show LowP l from ⟨by omega,fun g hg =>hlp.2 g (zQ3 _ hg)⟩);have HQV:=zA0 (fun (j:Nat) (hj:j < l.length) =>quiet_ev f.f0 _ (a0V l (j:Nat)).f2 (zS0 _) (LPL.out.2 _ (b8H hj)).2.2);have HL1:=zA0 (show (([]:List S34).length + l.length) * 64≤140737488355328 by simp only [zI1];omega);have HL2:=zA0 (show (l.length + 1) * 64≤140737488355328 by omega);clear hC hC1 hC2 hc l1 l2 hbig htot hlp hll;go_enter Tryz.func6,Tryz.ntmps6
 go_upto_region 1 with (first
  | ((with_reducible refine a0N (N:=2) rfl ?_);refine a1K ?hg (N:=2) ?hd (cs:=#[.slice A l.length c]) (t:=24) ?hr ?_;(case hd =>rfl);(case hg =>rfl);(case hr =>first | (go_simp;done) | (go_simp;rfl));intro g2 hg w1 hx hb;have HB:=zA0 (a0L HB.out hb);have B2:=zA0 (One.mk hx);clear hx hb hg)
  | ((with_reducible refine a0N (N:=3) rfl ?_);refine a1K ?hg (N:=3) ?hd (cs:=#[.string f.f0,.slice A1 f.f1.length c1,.slice A2 f.f2.length c2]) (t:=34) ?hr ?_;(case hd =>rfl);(case hg =>rfl);(case hr =>first | (go_simp;done) | (go_simp;rfl));intro g3 hg w1 hx hb;have G3:=zA0 (show w.heap.size≤g3 by rw [hg];exact HB.out.size);have B2:=zA0 (B2.out.below hb);have HB:=zA0 (a0L HB.out hb);have B3:=zA0 (show a4O w1 g3 #[.string f.f0,.slice A1 f.f1.length c1,.slice A2 f.f2.length c2] 34 from hx);clear hx hb hg))
 refine (wpIn_wide (n:=5)).1 ?_;refine wpIn_region_any mixedO ?_;refine a1X _ (fun _ =>undef) (BhS w l f A c A1 c1 A2 c2 g2 g3) rfl qF0 _ ?hz ?hst ?hen
 case hz =>
  have hb:=a1I (zG0 w1.heap.size w1);exact { be:=a0L HB.out hb,b2:=a1C B2.out.b hb,b3:=B3.out.below hb,v1:=fun e =>qG1,v2:=fun e =>qG1,v4:=fun e =>qG1,v5:=fun e =>qG1,n0:=fun e =>qG1,n3:=fun e =>qG1,n6:=fun e =>qG1,v7:=fun e =>qG1,b8:=fun e =>qG1,d9:=fun e =>qG1,d6:=fun e =>qG1,d65:=fun e =>qG1,d3:=fun e =>qG1 }
 case hst =>
  intro q op done val a Z ho hdn hdep hag hS K hK;have hq:q < 10:=by
   by_cases h:q < 10
   ·exact h
   ·rw [Array.getElem?_eq_none qV0] at ho;cases ho
  have z2:=hS.b2.cell;obtain rfl | rfl | rfl | rfl | rfl | rfl | rfl | rfl | rfl | rfl:q = 0∨q = 1∨q = 2∨q = 3∨q = 4∨q = 5∨q = 6∨q = 7∨q = 8∨q = 9:=by omega
  ·cases ho;have hb:Below Z.heap.size Z (Z.alloc (.cells #[] 34)):=a0D (zG0 _ _) _;have h6:done 6 = false:=by
    cases e:done 6 with
    | false =>rfl
    | true =>rw [hS.d3 (hS.d6 e)] at hdn;cases hdn
   have hN:Kd.N k34 34 (Z.alloc (.cells #[] 34)) w.heap.size (fun k =>((done 8 = true→val 8≠.pointer (some ⟨k,0,none⟩))∧k≠g3)∧(done 5 = true→val 5≠.slice (some ⟨k,0,none⟩) 1 1)) (.slice (some ⟨Z.heap.size,0,none⟩) 0 0) []:=by
    refine Kd.R_N (a4Z k34 34 (World.alloc_heap_new Z _) hS.be.size _ ⟨⟨fun h8 e =>?_,?_⟩,fun h5 e =>?_⟩)
    ·obtain ⟨g,hv,hge,hbx,_,_⟩:=hS.b8 h8;have:=hbx.lt;rw [hv] at e;simp at e <;> omega
    ·have:=hS.b3.lt;omega
    ·obtain ⟨b,hv,_,hb3,_⟩:=hS.v5 h5 h6;have:=hb3.lt;rw [hv] at e;simp at e <;> omega
   refine a0R (i:=0) (r:=.slice (some ⟨Z.heap.size,0,none⟩) 0 0) (w':=Z.alloc (.cells #[] 34)) rfl rfl (fun c h =>by cases h) rfl ?_ (hK _ _ ((hS.below hb).do0 _ hN));simp [execOp,go_sem]
  ·cases ho;have e1:a.eval (.tmp 2) = .pointer (some ⟨g2,0,none⟩):=hag.keep 2 rfl;refine a0R (i:=1) rfl rfl (fun c h =>by cases h) rfl ?_ (hK _ _ (hS.do1 hdn));generalize a.eval = ev at e1;simp [execOp,e1,go_sem]
  ·cases ho;have e1:=(hag.val_ (j:=1) (t:=10) rfl (hdep ⟨1,.data⟩ qE0 rfl)).trans (hS.v1 (hdep ⟨1,.data⟩ qE0 rfl));refine a0R (i:=2) rfl rfl (fun c h =>by cases h) rfl ?_ (hK _ _ (hS.do2 hdn));generalize a.eval = ev at e1;simp [execOp,e1,go_sem,z2]
  ·cases ho;have h6:done 6 = false:=by
    cases e:done 6 with
    | false =>rfl
    | true =>rw [hS.d6 e] at hdn;cases hdn
   have h0:=(hdep ⟨0,.data⟩ qE0 rfl);have e1:a.eval (.tmp 9) = val 0:=hag.val_ (j:=0) (t:=9) rfl h0;have e2:=(hag.val_ (j:=2) (t:=11) rfl (hdep ⟨2,.data⟩ qE0 rfl)).trans (hS.v2 (hdep ⟨2,.data⟩ qE0 rfl));have hO:=hS.n0 h0 hdn;refine a3S (s:=.tmp 9) (x:=.tmp 11) (t:=22) (t':=22) rfl rfl rfl ?_;refine Kd.a4S k34 w.heap.size (w0:=w) rfl (.tmp 9) (.tmp 11) 22 34 (.agg #[(.string ⟨#[]⟩),(.slice none 0 0),(.slice none 0 0)]) 64 rfl Tryz.underlying22 b5U rfl qB0 qB0 (val 0) [] l A l.length c (fun k =>((done 8 = true→val 8≠.pointer (some ⟨k,0,none⟩))∧k≠g3)∧(done 5 = true→val 5≠.slice (some ⟨k,0,none⟩) 1 1)) (fun k =>k < w.heap.size) e1 e2 hO (Kd.a1F (Kd.C_F k34_heap KP.out) hS.be) ?okp ?fresh hS.be hS.be.size HL1.out ?cont
   case okp =>
    intro k hk;refine ⟨⟨⟨fun h8 e =>?_,?_⟩,fun h5 e =>?_⟩,fun e =>absurd (Kd.N_base hO k e.symm) qC0⟩
    ·obtain ⟨g,hv,hge,hbx,_,_⟩:=hS.b8 h8;have:=hbx.lt;rw [hv] at e;simp at e <;> omega
    ·have:=G3.out;omega
    ·obtain ⟨b,hv,hge,_⟩:=hS.v5 h5 h6;rw [hv] at e;simp at e <;> omega
   case fresh =>
    intro k hk;refine ⟨⟨fun h8 e =>?_,?_⟩,fun h5 e =>?_⟩
    ·obtain ⟨g,hv,hge,hbx,_,_⟩:=hS.b8 h8;have:=hbx.lt;rw [hv] at e;simp at e <;> omega
    ·have:=hS.b3.lt;omega
    ·obtain ⟨b,hv,_,hb3,_⟩:=hS.v5 h5 h6;have:=hb3.lt;rw [hv] at e;simp at e <;> omega
   case cont =>
    intro v1 w2 hN hbe hg _;exact hK _ _ (hS.do3 h0 h6 hO v1 (by simpa using hN) hbe hg)
  ·cases ho;have e1:a.eval (.tmp 3) = .pointer (some ⟨g3,0,none⟩):=hag.keep 3 rfl;have q0:Z.cell? ⟨g3,0,none⟩ = some (.string f.f0):=(a0I hS.b3 0).trans rfl;have q1:Z.cell? ⟨g3,1,none⟩ = some (.slice A1 f.f1.length c1):=(a0I hS.b3 1).trans rfl;have q2:Z.cell? ⟨g3,2,none⟩ = some (.slice A2 f.f2.length c2):=(a0I hS.b3 2).trans rfl;refine a0R (i:=4) rfl rfl (fun c h =>by cases h) rfl ?_ (hK _ _ (hS.do4 hdn));generalize a.eval = ev at e1;simp [execOp,e1,go_sem,q0,q1,q2]
  ·cases ho;have h6:done 6 = false:=by
    cases e:done 6 with
    | false =>rfl
    | true =>rw [hS.d65 e] at hdn;cases hdn
   have e1:=(hag.val_ (j:=4) (t:=13) rfl (hdep ⟨4,.data⟩ qE0 rfl)).trans (hS.v4 (hdep ⟨4,.data⟩ qE0 rfl));refine a0R (i:=5) (r:=.slice (some ⟨Z.heap.size,0,none⟩) 1 1) (w':=Z.alloc (.cells #[.string f.f0,.slice A1 f.f1.length c1,.slice A2 f.f2.length c2] 34)) rfl rfl (fun c h =>by cases h) rfl ?_ (hK _ _ (hS.do5 h6));generalize a.eval = ev at e1;simp [execOp,e1,go_sem]
  ·cases ho;have h7:done 7 = false:=by
    cases e:done 7 with
    | false =>rfl
    | true =>rw [(hS.v7 e).2] at hdn;cases hdn
   have h9:done 9 = false:=by
    cases e:done 9 with
    | false =>rfl
    | true =>rw [(hS.d9 e).1] at hdn;cases hdn
   have h0:=(hdep ⟨3,.data⟩ qE0 rfl);have h5:=(hdep ⟨5,.data⟩ qE0 rfl);obtain ⟨b,hv5,hge5,hb5,hn8,hn3⟩:=hS.v5 h5 hdn;have e1:a.eval (.tmp 12) = val 3:=hag.val_ (j:=3) (t:=12) rfl h0;have e2:=(hag.val_ (j:=5) (t:=14) rfl h5).trans hv5;have hO:=hS.n3 h0 hdn;refine a3S (s:=.tmp 12) (x:=.tmp 14) (t:=22) (t':=22) rfl rfl rfl ?_;refine Kd.a4S k34 w.heap.size (w0:=w) rfl (.tmp 12) (.tmp 14) 22 34 (.agg #[(.string ⟨#[]⟩),(.slice none 0 0),(.slice none 0 0)]) 64 rfl Tryz.underlying22 b5U rfl qB0 qB0 (val 3) l [f] (some ⟨b,0,none⟩) 1 1 (fun k =>(done 8 = true→val 8≠.pointer (some ⟨k,0,none⟩))∧k≠g3) (fun k =>k < w.heap.size∨k = b) e1 e2 (Kd.a3T hO (fun k hk =>hk.1)) (one_F (okp:=(fun k =>k < w.heap.size∨k = b)) hb5 (Or.inr rfl) HC1.out (Kd.a1Y (Kd.a1F (Kd.C_F Kd.a2P G1.out) hS.be) (fun k hk =>Or.inl hk)) HC2.out (Kd.a1Y (Kd.a1F (Kd.C_F a8O G2.out) hS.be) (fun k hk =>Or.inl hk))) ?okp ?fresh hS.be hS.be.size HL2.out ?cont
   case okp =>
    intro k hk;rcases hk with hk | rfl
    ·refine ⟨⟨fun h8 e =>?_,?_⟩,fun e =>absurd (Kd.N_base hO k e.symm) qC0⟩
     ·obtain ⟨g,hv,hge,hbx,_,_⟩:=hS.b8 h8;have:=hbx.lt;rw [hv] at e;simp at e <;> omega
     ·have:=G3.out;omega
    ·exact ⟨⟨hn8,Ne.symm hn3⟩,fun e =>(hO.1 _ e.symm).2 h5 hv5⟩
   case fresh =>
    intro k hk;refine ⟨fun h8 e =>?_,?_⟩
    ·obtain ⟨g,hv,hge,hbx,_,_⟩:=hS.b8 h8;have:=hbx.lt;rw [hv] at e;simp at e <;> omega
    ·have:=hS.b3.lt;omega
   case cont =>
    intro v1 w2 hN hbe hg _;exact hK _ _ (hS.do6 h0 h5 h7 h9 hO v1 hN hbe hg)
  ·cases ho;have h6:=(hdep ⟨6,.data⟩ qE0 rfl);have e1:a.eval (.tmp 15) = val 6:=hag.val_ (j:=6) (t:=15) rfl h6;obtain ⟨A9,c9,e9⟩:=Kd.a3U (hS.n6 h6);have h7:=hS.do7 h6 hdn;rw [e9] at h7 e1;refine a0R (i:=7) rfl rfl (fun c h =>by cases h) rfl ?_ (hK _ _ h7);generalize a.eval = ev at e1;simp [execOp,e1,go_sem]
  ·cases ho;have h9:done 9 = false:=by
    cases e:done 9 with
    | false =>rfl
    | true =>rw [(hS.d9 e).2] at hdn;cases hdn
   refine a0R (i:=8) rfl rfl (fun c h =>by cases h) rfl ?_ (hK _ _ (hS.do8 h9 hdn));simp [execOp,go_sem]
  ·cases ho;have h8:=(hdep ⟨8,.data⟩ qE0 rfl);have h7:=(hdep ⟨7,.data⟩ qE0 rfl);obtain ⟨e7,h6⟩:=hS.v7 h7;obtain ⟨g,hv,hge,hbx,n2,n3⟩:=hS.b8 h8;have e1:=(hag.val_ (j:=8) (t:=5) rfl h8).trans hv;have e2:=(hag.val_ (j:=7) (t:=16) rfl h7).trans e7;obtain ⟨A9,c9,e9⟩:=Kd.a3U (hS.n6 h6);have h3:=hS.d6 h6;refine a1Z (i:=9) rfl rfl (fun c h =>by cases h) rfl (w':=Z.setCell ⟨g,0,none⟩ (val 6)) ?_ (hK _ _ (hS.do9 h3 h6 h8 hv hge hbx n2 n3 undef));rw [e9] at e2 ⊢;have hc:=hbx.cell;have hf:=hbx.frozen;generalize a.eval = ev at e1 e2;simp [execOp,e1,e2,go_sem,hc,hf]
 case hen =>
  intro Z done val hdn hS;obtain ⟨g,hv,hge,hbx,n2,n3⟩:=hS.b8 (hdn 8 qB0);rw [hdn 9 qB0,if_pos rfl] at hbx;have hN:=hS.n6 (hdn 6 qB0);obtain ⟨Ab,cb,e6⟩:=Kd.a3U hN;rw [e6] at hN hbx;have hcb:=zA0 (Kd.a3Q hN).2.1;have KB:=zA0 (Kd.a3Q hN).2.2;have B2:=zA0 hS.b2;have B3:=zA0 hS.b3;have B5:=zA0 hbx;have HB:=zA0 hS.be;clear hS hN hbx n2 n3 e6 hdn;simp only [putTmps,dstOf,zQ1,zR0,zI1,Nat.reduceAdd,zS1,zF1,zL1,zU0,zL0,zV0,zW0]
  try rw [hv]
  clear hv;obtain ⟨bth,hbth⟩:∃ bth,bth = l ++ [f]:=⟨_,rfl⟩;rw [← hbth] at hcb KB B5;have HBT:=zA0 hbth;have hbig2:=BIG.out;rw [← hbth] at hbig2;have BIG:=zA0 hbig2;have HLN:=zA0 (show bth.length = l.length + 1 by rw [hbth];simp);clear hbth hbig2;have c2:=B2.out.cell;have c5:=B5.out.cell;cases bb with
  | true =>
   go_wp2_with (first
    | (go_at_call 8;with_reducible refine (a9P _).mono ?_;rintro e w2 ⟨rfl,hb⟩;have B2:=zA0 (a1C B2.out hb);have B3:=zA0 (B3.out.below hb);have B5:=zA0 (a1C B5.out hb);have KB:=zA0 (Kd.a0H KB.out hb);have HB:=zA0 (a0L HB.out hb);clear c2 c5;have c2:=B2.out.cell;have c5:=B5.out.cell;clear hb)
    | (go_at_call 7;with_reducible refine (r03_Big.calls kb Ab cb bth true _ KB.out hcb.out BIG.out).mono ?_;rintro e w2 ⟨rfl,hb⟩;have B2:=zA0 (a1C B2.out hb);have B3:=zA0 (B3.out.below hb);have B5:=zA0 (a1C B5.out hb);have KB:=zA0 (Kd.a0H KB.out hb);have HB:=zA0 (a0L HB.out hb);clear c2 c5;have c2:=B2.out.cell;have c5:=B5.out.cell;clear hb))
   go_ret;exact qD3
  | false =>
   have htot:=HTOT.out rfl;have HT:=zA0 htot;clear htot;by_cases hlen:(bth.length:Int) > 60
   ·go_wp2_with (first
    | (go_at_call 8;with_reducible refine (a9P _).mono ?_;rintro e w2 ⟨rfl,hb⟩;have B2:=zA0 (a1C B2.out hb);have B3:=zA0 (B3.out.below hb);have B5:=zA0 (a1C B5.out hb);have KB:=zA0 (Kd.a0H KB.out hb);have HB:=zA0 (a0L HB.out hb);clear c2 c5;have c2:=B2.out.cell;have c5:=B5.out.cell;clear hb)
    | (go_at_call 7;with_reducible refine (r03_Big.calls kb Ab cb bth false _ KB.out hcb.out BIG.out).mono ?_;rintro e w2 ⟨rfl,hb⟩;have B2:=zA0 (a1C B2.out hb);have B3:=zA0 (B3.out.below hb);have B5:=zA0 (a1C B5.out hb);have KB:=zA0 (Kd.a0H KB.out hb);have HB:=zA0 (a0L HB.out hb);clear c2 c5;have c2:=B2.out.cell;have c5:=B5.out.cell;clear hb))
    go_ret;exact qD3
   ·have H60:=zA0 (show l.length + 1≤60 by have:=HLN.out;omega)
    go_wp2_with (first
    | (go_at_call 8;with_reducible refine (a9P _).mono ?_;rintro e w2 ⟨rfl,hb⟩;have B2:=zA0 (a1C B2.out hb);have B3:=zA0 (B3.out.below hb);have B5:=zA0 (a1C B5.out hb);have KB:=zA0 (Kd.a0H KB.out hb);have HB:=zA0 (a0L HB.out hb);clear c2 c5;have c2:=B2.out.cell;have c5:=B5.out.cell;clear hb)
    | (go_at_call 7;with_reducible refine (r03_Big.calls kb Ab cb bth false _ KB.out hcb.out BIG.out).mono ?_;rintro e w2 ⟨rfl,hb⟩;have B2:=zA0 (a1C B2.out hb);have B3:=zA0 (B3.out.below hb);have B5:=zA0 (a1C B5.out hb);have KB:=zA0 (Kd.a0H KB.out hb);have HB:=zA0 (a0L HB.out hb);clear c2 c5;have c2:=B2.out.cell;have c5:=B5.out.cell;clear hb))
    clear hlen c2 c5;go_loopg [6] l.length (fun kq v6 w' =>∃ j:Nat,j + kq = l.length∧v6 = .int .i64 j∧Hid (∀ i,i < j→∀ s,s ∈ flat (a0V l (i:Nat)).f2→QuietS f.f0 s)∧Hid (Below w.heap.size w w')∧Hid (Boxed w' g2 24 (.slice A l.length c))∧Hid (a4O w' g3 #[.string f.f0,.slice A1 f.f1.length c1,.slice A2 f.f2.length c2] 34)∧Hid (Boxed w' g 24 (.slice Ab bth.length cb))∧Hid (Kd.C k34 w' Ab bth.length bth))
    case atStart =>exact ⟨0,zZ1 _,rfl,zA0 (fun i hi =>absurd hi (zP2 i)),HB,B2,B3,B5,KB⟩
    case round =>
     obtain ⟨j,hj,rfl,HQ,HB,B2,B3,B5,KB⟩:=hrel;have c2:=B2.out.cell;have c3:wr.cell? ⟨g3,0,none⟩ = some (.string f.f0):=(a0I B3.out 0).trans rfl;by_cases hlt:j < l.length
     ·obtain ⟨ad,A3,c3_,A4,c4,e0,x0,x1,x2,m1,n1,m2,n2⟩:=a6Q (Kd.a0H KP.out HB.out) (j:Int) (zH0 j) (zW1.2 hlt);subst e0;rw [zK0] at x0 x1 x2;have hw:=pz14 j (by have:=H60.out;omega);have c_j:(0:Int)≤(j:Int):=zH0 j;have c_n:(j:Int) < (l.length:Int):=zW1.2 hlt;obtain ⟨bq,⟨kq0,hkq⟩,hqq⟩:=HQV.out j hlt;have HK:=zA0 (hkq kq0 (zJ0 _));have HQN:=zA0 (show bq = true→∀ i,i < j + 1→∀ s,s ∈ flat (a0V l (i:Nat)).f2→QuietS f.f0 s from fun hb i hi =>by rcases Nat.lt_succ_iff_lt_or_eq.1 hi with h | rfl;exact HQ.out i h;exact hqq hb);have L4:=zA0 m2;have K4:=zA0 n2;obtain ⟨k1,rfl⟩:∃ k1,gk = k1 + 1:=Nat.exists_eq_add_one_of_ne_zero (by rintro rfl;exact absurd hj (Nat.ne_of_lt hlt));clear m1 n1 m2 n2 hkq hqq HQ;generalize a0V l (j:Int) = s at x0 x1 x2 L4 K4 HK;by_cases hnm:s.f0.toList = f.f0.toList
      ·have b2:(s.f0.toList == f.f0.toList) = true:=beq_iff_eq.2 hnm;clear hnm;go_wp2
       go_quiet (fail)
       go_wp2;go_ret;exact ⟨rfl,a0L HB.out qQ0⟩
      ·have b2:(s.f0.toList == f.f0.toList) = false:=beq_eq_false_iff_ne.2 hnm;clear hnm;cases bq with
       | false =>
        go_wp2
        go_quiet (first | (go_at_call 23;(with_reducible refine (w14_quiet.calls kq0 _ _ s.f2 f.f0 false _ ?side1 ?side2 HK.out).mono ?_);(case side1 =>repeat (first | exact K4.out | (with_reducible refine Kd.a1N ?_ _) | (with_reducible refine Kd.a2B ?_)));(case side2 =>exact L4.out);rintro e w' ⟨rfl,⟨nd,rfl⟩⟩;(try first | exact ⟨rfl,_,World.drewN_drewN _ _ _⟩ | exact ⟨rfl,_,Eq.trans (World.drewN_drewN _ _ _) (congrArg (World.drewN _) (zY0 _ _ _))⟩)))
        go_wp2;go_ret;exact ⟨rfl,a0L HB.out qQ0⟩
       | true =>
        have HQ:=zA0 (HQN.out rfl);go_wp2
        go_quiet (first | (go_at_call 23;(with_reducible refine (w14_quiet.calls kq0 _ _ s.f2 f.f0 true _ ?side1 ?side2 HK.out).mono ?_);(case side1 =>repeat (first | exact K4.out | (with_reducible refine Kd.a1N ?_ _) | (with_reducible refine Kd.a2B ?_)));(case side2 =>exact L4.out);rintro e w' ⟨rfl,⟨nd,rfl⟩⟩;(try first | exact ⟨rfl,_,World.drewN_drewN _ _ _⟩ | exact ⟨rfl,_,Eq.trans (World.drewN_drewN _ _ _) (congrArg (World.drewN _) (zY0 _ _ _))⟩)))
        go_wp2;go_roundg k1
        case measure =>exact zS0 _
        case rel =>exact ⟨j + 1,by rw [zY0,zJ1 1];exact hj,by first | rw [hw] | simp [hw],HQ,zA0 (a0L HB.out qQ0),zA0 (a1C B2.out qQ0),zA0 (B3.out.below qQ0),zA0 (a1C B5.out qQ0),zA0 (Kd.a0H KB.out qQ0)⟩
     ·have hje:j = l.length:=Nat.le_antisymm (by rw [← hj];exact Nat.le_add_right _ _) (Nat.le_of_not_lt hlt);have HQA:=zA0 (show ∀ g,g ∈ l→∀ s,s ∈ flat g.f2→QuietS f.f0 s from fun g hg =>by obtain ⟨i,hi,rfl⟩:=List.getElem_of_mem hg;have h:=HQ.out i qC0;rwa [b8I hi] at h);clear c3 HQ;go_upto_region 9 with (fail)
      have SML:=zA0 (smG_of LPL.out (by have:=H60.out;omega) (by have h1:=HT.out;simp only [total,List.flatMap_append,zO0] at h1 ⊢;omega));have SMB:=zA0 (show SmG bth from by rw [HBT.out];exact smG_of LPB.out (by have:=H60.out;simpa using (show l.length + 1≤1000 by omega)) (zF0 HT.out qB0));refine (wpIn_wide (n:=5)).1 ?_;refine wpIn_region_any mixedO ?_;refine a1X _ (fun _ =>undef) (fun done val Z =>TF 6 [1,3,4,5] (fun ix_ =>match ix_ with | 0 =>.agg #[.slice A l.length c] | 2 =>.agg #[.slice Ab bth.length cb] | _ =>undef) (STb wr (sigsF l) (sigsF bth)) done val Z) rfl qF0 _ ?hz9 ?st9 ?en9
      case hz9 =>exact TF.start qB0 qB0 (a1I (zG0 _ _))
      case st9 =>
       intro i_ o done val a Z ho hdn hdep hag hS K2 hK2;have hm:i_ < 6:=by
        by_cases h:i_ < 6
        ·exact h
        ·rw [Array.getElem?_eq_none qV0] at ho;cases ho
       obtain rfl | rfl | rfl | rfl | rfl | rfl:i_ = 0∨i_ = 1∨i_ = 2∨i_ = 3∨i_ = 4∨i_ = 5:=by omega
       ·cases ho;have e2:a.eval (.tmp 2) = .pointer (some ⟨g2,0,none⟩):=hag.keep 2 rfl;obtain ⟨s_,hs_,hst_⟩:=hS.some (i:=0) qB0 hdn qB0;have hb:=STb.be _ hst_;have zz0:=(a1C B2.out hb).cell;refine a0F (i:=0) (r:=.agg #[.slice A l.length c]) (w':=Z) rfl rfl (fun c h =>by cases h) rfl ?_ (hK2 _ _ (hS.const qB0 hdn qB0 rfl));have ec:∀ v,a.eval (.const v) = v:=fun _ =>rfl
        generalize a.eval = ev at *;simp [execOp,go_sem,ec,e2,zz0]
       ·cases ho;have e58:=(hag.val_ (j:=0) (t:=58) rfl (hdep ⟨0,.data⟩ qE0 rfl)).trans (hS.vv 0 (hdep ⟨0,.data⟩ qE0 rfl) qB0)
        try dsimp only at e58
        have hst:Below wr.heap.size wr Z:=hS.get 0 qB0 hdn (.inl rfl);have hsg:=b1M Z l A c HC.out (Kd.a0H KP.out (a0L HB.out hst)) SML.out;refine a3L (i:=1) (f:=9) rfl rfl rfl (fun _ _ =>rfl) (R:=fun e w' =>∃ v,e = .returned v∧Kd.N k42 42 w' Z.heap.size (fun k =>Z.heap.size≤k) v (sigsF l)∧Below Z.heap.size Z w') ?_ ?_
        ·simp only [zK2,zI2,zN2,e58];exact hsg
        ·rintro e' w2 ⟨v2,rfl,hr,hb2⟩;refine ⟨v2,rfl,hK2 _ _ (hS.next 0 qB0 hdn (.inl rfl) (fun h =>absurd h qB0) (fun v' hv hlt =>?_))⟩;exact ⟨hst.trans (hb2.mono hst.size),by rw [hv];exact rd14_N hr⟩
       ·cases ho;have e5:a.eval (.tmp 5) = .pointer (some ⟨g,0,none⟩):=hag.keep 5 rfl;obtain ⟨s_,hs_,hst_⟩:=hS.some (i:=2) qB0 hdn qB0;have hb:=STb.be _ hst_;have zz0:=(a1C B5.out hb).cell;refine a0F (i:=2) (r:=.agg #[.slice Ab bth.length cb]) (w':=Z) rfl rfl (fun c h =>by cases h) rfl ?_ (hK2 _ _ (hS.const qB0 hdn qB0 rfl));have ec:∀ v,a.eval (.const v) = v:=fun _ =>rfl
        generalize a.eval = ev at *;simp [execOp,go_sem,ec,e5,zz0]
       ·cases ho;have e60:=(hag.val_ (j:=2) (t:=60) rfl (hdep ⟨2,.data⟩ qE0 rfl)).trans (hS.vv 2 (hdep ⟨2,.data⟩ qE0 rfl) qB0)
        try dsimp only at e60
        obtain ⟨hst,hra⟩:=hS.get 1 qB0 hdn (.inr (hdep ⟨1,.chain⟩ qE0 rfl));have hsg:=b1M Z bth Ab cb hcb.out (Kd.a0H KB.out (hst)) SMB.out;refine a3L (i:=3) (f:=9) rfl rfl rfl (fun _ _ =>rfl) (R:=fun e w' =>∃ v,e = .returned v∧Kd.N k42 42 w' Z.heap.size (fun k =>Z.heap.size≤k) v (sigsF bth)∧Below Z.heap.size Z w') ?_ ?_
        ·simp only [zK2,zI2,zN2,e60];exact hsg
        ·rintro e' w2 ⟨v2,rfl,hr,hb2⟩;refine ⟨v2,rfl,hK2 _ _ (hS.next 1 qB0 hdn (.inr (hdep ⟨1,.chain⟩ qE0 rfl)) (fun h =>absurd h qB0) (fun v' hv hlt =>?_))⟩;exact ⟨hst.trans (hb2.mono hst.size),by rw [hlt 0 qB0];exact hra.below hb2,by rw [hv];exact rd14_N hr⟩
       ·cases ho;have e59:=hag.val_ (j:=1) (t:=59) rfl (hdep ⟨1,.data⟩ qE0 rfl);have hst:=hS.get 2 qB0 hdn (.inr (hdep ⟨3,.chain⟩ qE0 rfl));refine a0F (i:=4) (r:=val 1) (w':=Z) rfl rfl (fun c h =>by cases h) rfl ?_ (hK2 _ _ (hS.next 2 qB0 hdn (.inr (hdep ⟨3,.chain⟩ qE0 rfl)) (fun h =>absurd h qB0) (fun v' hv hlt =>⟨hst.1,by rw [hlt 0 qB0];exact hst.2.1,by rw [hlt 1 qB0];exact hst.2.2,by rw [hv,hlt 0 qB0];rfl⟩)));have ec:∀ v,a.eval (.const v) = v:=fun _ =>rfl
        generalize a.eval = ev at *;simp [execOp,go_sem,ec,e59]
       ·cases ho;have e61:=hag.val_ (j:=3) (t:=61) rfl (hdep ⟨3,.data⟩ qE0 rfl);have hst:=hS.get 3 qB0 hdn (.inr (hdep ⟨4,.chain⟩ qE0 rfl))
        refine a0F (i:=5) (r:=val 3) (w':=Z) rfl rfl (fun c h =>by cases h) rfl ?_ (hK2 _ _ (hS.next 3 qB0 hdn (.inr (hdep ⟨4,.chain⟩ qE0 rfl)) (fun _ i_ hi hni =>by
          match i_,hi with
          | 0,_ =>exact hdep ⟨0,.phase⟩ qE0 rfl
          | 1,_ =>exact absurd qB0 hni
          | 2,_ =>exact hdep ⟨2,.phase⟩ qE0 rfl
          | 3,_ =>exact absurd qB0 hni
          | 4,_ =>exact absurd qB0 hni
          | 5,_ =>exact absurd qB0 hni
          | q_ + 6,h =>omega) (fun v' hv hlt =>⟨hst.1,by rw [hlt 0 qB0];exact hst.2.1,by rw [hlt 1 qB0];exact hst.2.2.1,by rw [hlt 2 qB0,hlt 0 qB0];exact hst.2.2.2,by rw [hv,hlt 1 qB0];rfl⟩)))
        have ec:∀ v,a.eval (.const v) = v:=fun _ =>rfl
        generalize a.eval = ev at *;simp [execOp,go_sem,ec,e61]
      case en9 =>
       intro Z done val hdn hS;simp only [putTmps,dstOf,zQ1,zR0,zI1,Nat.reduceAdd,zS1,zF1,zL1,zU0,zL0,zV0,zW0];obtain ⟨hb,⟨Aa,ca,ea,hca,hCa⟩,⟨Ac,cc,ec,hcc,hCc⟩,e4,e5⟩:=hS.last (hdn 5 qB0);have e4:val 4 = .slice Aa (sigsF l).length ca:=e4.trans ea;have e5:val 5 = .slice Ac (sigsF bth).length cc:=e5.trans ec;rw [e4,e5];have HB:=zA0 (a0L HB.out hb);have hn2:(sigsF bth).length = (sigsF l).length + 1:=by rw [a4W,a4W,HLN.out]
       have hct:=Kd.C_take hCc (m:=(sigsF l).length) qC0;rw [show (sigsF bth).take (sigsF l).length = sigsF l by rw [HBT.out];exact behind14 (by have:=H60.out;simpa using (show l.length + 1≤1000 by omega)) HQA.out] at hct;have HSZ:=zA0 (show ∀ i:Nat,i < (sigsF l).length→(a2X (sigsF l) (i:Int)).f2.length≤8000000000000 from fun i hi =>zF0 (sig_len SML.out (by rwa [a4W] at hi)) qB0);have hn3:(sigsF l).length≤1000000:=by rw [a4W];have:=H60.out;omega
       obtain ⟨adc,rfl,_⟩:=hCc.2.2 qC0;rw [hn2] at hcc ⊢;clear hS hdn hCc ea ec e4 e5 hn2 HQA c2 hje hb;generalize sigsF l = sa at hca hCa hct HSZ hn3 hcc ⊢;have HN3:=zA0 hn3;have hw:=pz14 sa.length qC0;have c_0:(0:Int)≤(sa.length:Int):=zH0 _;have c_1:(sa.length:Int)≤(cc:Int):=by omega
       have c_2:sa.length≤cc:=by omega
       have KA:=zA0 hCa;have KT:=zA0 hct;clear hCa hct hcc hca hn3;go_wp2_with (first | (go_at_call 13;(with_reducible refine (same_any sa Aa (some adc) ca cc _ KA.out KT.out HN3.out HSZ.out).mono ?_);rintro e w2 ⟨rfl,hb⟩;have HB:=zA0 (a0L HB.out hb);clear hb));go_ret;exact qD3
end Go.Proofs.YthhgfncliffggaaGreat.Man
namespace Go.Proofs.YthhgfncliffggaaGreat.effectsBehind
open Go.ChangeShapes Go.WideShapes Go.ChangeAt Go.RowKit Go.Proofs.YthhgfncliffggaaGreat.Pr Go.Proofs.YthhgfncliffggaaGreatW.PrintWords
open Go.ChangeMaps (open_string shut_string)
theorem own:ownKnob Tryz.prog.godebug = none:=by kernel_rfl
theorem laidOut:laidOutB Tryz.prog = true:=by kernel_rfl
theorem lowP {l:List S34} {n:Nat} (h:Man.FitP l n) (hn:n≤2000000):Man.LowP l :=
 ⟨by have:=h.1;omega,fun f hf =>by
  obtain ⟨h1,⟨h2,h3⟩,h4⟩:=h.2 f hf
  exact ⟨by omega,by omega,by have:=Man.len_flat f.f2;omega,fun s hs =>by have:=h3 s hs;omega⟩⟩
theorem walk (A0:Option Addr) (c0:Nat) (l0:List S34) (hc0:l0.length≤c0) (A1:Option Addr) (c1:Nat) (A2:Option Addr) (c2:Nat) (x1:S34) (w:World) (hC0:Kd.C k34 w A0 l0.length l0) (hC1:x1.f1.length≤c1∧Kd.C Kd.string w A1 x1.f1.length x1.f1∧x1.f2.length≤c2∧Kd.C k65 w A2 x1.f2.length x1.f2) (hP0:Man.FitP l0 1048576) (hP1:Man.FitP [x1] 1048576) :
  Calls Tryz.prog 6 #[.agg #[.slice A0 l0.length c0],.agg #[.string x1.f0,.slice A1 x1.f1.length c1,.slice A2 x1.f2.length c2]] w fun e w' =>e = .returned (.bool true)∧Below w.heap.size w w':=by
 have hlp:Man.LowP (l0 ++ [x1]):=⟨by have:=hP0.1;rw [zO0,zY2];omega,fun g hg =>(zT0.1 hg).elim (fun h =>(lowP hP0 qB0).2 g h) (fun h =>(lowP hP1 qB0).2 g h)⟩;obtain ⟨b,⟨k,e⟩,ht⟩:=Man.big14 (l0 ++ [x1]) hlp;exact Man.b3X w l0 x1 A0 c0 A1 c1 A2 c2 hc0 hC1.1 hC1.2.2.1 hC0 hC1.2.1 hC1.2.2.2 b k (e k (zJ0 _)) ht hlp
theorem lifted (os:Os) (started:os.Started) (H:Type) (enc:TypeId × Value→H) (F:Stop.Interp) :
  ReturnsInHanded {} Tryz.checked os 6 .any ((Rows.OpenSpec.upto Rows.effectsBehindSpec).pre6 enc Tryz.prog Tryz.f6 Rows.effectsBehindUptoRow.domain false) (((Rows.OpenSpec.upto Rows.effectsBehindSpec).at F).post enc Tryz.prog Tryz.f6 false true false false):=by
 refine returnsInHanded_of_cond (C:=Tryz.checked) (s:=(Rows.OpenSpec.upto Rows.effectsBehindSpec)) (k:=Rows.uptoSmall) rfl own started qF0 Tryz.func6
  (OpenSpec.witness (enc:=enc) (C:=Tryz.checked) (s:=(Rows.OpenSpec.upto Rows.effectsBehindSpec)) (k:=Rows.uptoSmall) rfl false ⟨#[],#[.agg #[.slice none 0 0],.agg #[.string ⟨#[]⟩,.slice none 0 0,.slice none 0 0]],[]⟩ 8 qF0 qF0 qF0
   (x:=([.agg [.nil],.agg [.lit (.string []),.nil,.nil]],[],[])) qF0 rfl qF0) ?_
 intro W base args ds gs before hval0 hW _ hk _;have hval:∀ (j:Nat) t v,Tryz.f6.params[j]? = some t→args[j]? = some v→Value.okWide Tryz.prog W .any base t v:=hval0;have hW':=hW;obtain ⟨p,q,hA0,hV,rfl,hfz,hnd⟩:=hW;have hA:DataW.TrodAll enc Tryz.prog W 0 (fun _ =>true) true Tryz.f6.params.toList args.toList ds p:=hA0;rw [Tryz.params6] at hA hval;obtain ⟨v0,vs0,d0,ds0,p0,q0,hargs,rfl,rfl,h0,r0⟩:=trodAll_cons hA;obtain ⟨v1,vs1,d1,ds1,p1,q1,rfl,rfl,rfl,h1,r1⟩:=trodAll_cons r0;obtain ⟨rfl,rfl,rfl⟩:=trodAll_nil r1;obtain rfl:args = #[v0,v1]:=by cases args;simp_all
 obtain ⟨rfl,rfl⟩:=trodVars_none hV;obtain ⟨cs0,rfl,hz0⟩:=okWide_struct Tryz.underlying24 (hval 0 24 v0 rfl rfl);have k0:=h0;have lt0:∀ x ∈ p0,x.block < W.heap.size:=by obtain ⟨m,hm⟩:=k0;exact DataW.trod_lt m _ _ _ hm
 obtain ⟨fuel0,hf0⟩:=h0;obtain ⟨cs1,rfl,hz1⟩:=okWide_struct Tryz.underlying34 (hval 1 34 v1 rfl rfl);have k1:=h1;have lt1:∀ x ∈ p1,x.block < W.heap.size:=by obtain ⟨m,hm⟩:=k1;exact DataW.trod_lt m _ _ _ hm
 obtain ⟨fuel1,hf1⟩:=h1;have hbulk:Rows.uptoBulkAll ([d0,d1] ++ [])≤1048576:=zB0 hk;simp only [zR2,Rows.uptoBulkAll] at hbulk;obtain ⟨A0,c0,l0,hv0,hc0,hC0,hB0,hT0⟩:=Man.b4X fuel0 cs0 _ _ hf0;subst hv0;have hP0:Man.FitP l0 1048576:=hB0.mono qC0;obtain ⟨A1,c1,A1',c1',x1,hv1,hC1,hB1⟩:=Man.c0K fuel1 cs1 _ _ hf1;subst hv1;have hP1:Man.FitP [x1] 1048576:=hB1.mono qC0;clear hA0 hval0;refine (walk _ _ l0 hc0 _ _ _ _ x1 W hC0 hC1 hP0 hP1).mono fun e W' ⟨he,bel⟩ =>?_
 subst he;exact ⟨_,rfl,_,_,_,[],_,[],hW',trodAll_mk1 (shut_bool Tryz.underlying4 _),(trodAll_cons_mk (Below.trod laidOut qF0 (zB0 qF0) k0 bel lt0) (trodAll_cons_mk (Below.trod laidOut qF0 (zB0 qF0) k1 bel lt1) trodAll_mk0)),rfl,bel.frame _,fun h =>by cases h⟩
theorem proved:Rows.EffectsBehindUptoSaid :=
 OpenClaim.holds_of_cond 6 Tryz.f6 rfl rfl rfl rfl rfl rfl rfl ⟨rfl,rfl,rfl,rfl,rfl⟩ rfl rfl rfl rfl rfl qF0 Tryz.func6 qF0
  (zB0 qF0) (by unfold Func.isWrapper;first | (rw [if_pos (by decide +kernel)];kernel_rfl) | (rw [if_neg (by decide +kernel)];exact ⟨rfl,rfl⟩))
  (fun os started H enc _ F =>lifted os started H enc F)
end Go.Proofs.YthhgfncliffggaaGreat.effectsBehind
namespace Go.Proofs.YthhgfncliffggaaGreat
theorem effectsBehind_holds:Rows.EffectsBehindUptoSaid:=effectsBehind.proved
end Go.Proofs.YthhgfncliffggaaGreat
