/- A part of the proof that EffectsTells returns true for every argument. No conditions beyond the given statement's own. -/
import Derived.Test.YthhgfncliffggaaGreatET6
import Derived.Test.YthhgfncliffggaaGreatET5
import Derived.Test.YthhgfncliffggaaGreatET2
import Derived.Test.YthhgfncliffggaaGreatET3
import Derived.WalkMore
import Derived.Deep.LoopGhost
import Derived.Deep.QuietTactic
import Derived.Test.YthhgfncliffggaaGreatET4
import Derived.RegionTactic
import Derived.ChangeAlike
set_option maxHeartbeats 16000000
set_option maxRecDepth 100000
set_option linter.unusedVariables false
set_option linter.unusedSimpArgs false
namespace Go.Proofs.YthhgfncliffggaaGreat.Man
open Go.RowKit Go.Shelf Go.Proofs.YthhgfncliffggaaGreat.Pr Go.Proofs.YthhgfncliffggaaGreatW.PrintWords Go.Proofs.YthhgfncliffggaaGreatW.PrintMore Go.Proofs.YthhgfncliffggaaGreat.Tarj
attribute [local go_sem] Oper.semAt_some
def ix3 (A:Option Addr) (N c:Nat) (i:Nat):Value:=match i with | 0 =>.slice A N c | 1 =>.slice A N c | 2 =>.int .i64 (N:Nat) | 4 =>.slice A N c | 5 =>.int .i64 (N:Nat) | 7 =>.slice A N c | 8 =>.int .i64 (N:Nat) | _ =>undef
def cst3 (i:Nat):Bool:=i != 3 && i != 6 && i != 9 && i != 10 && i != 11 && i != 12
def fin0 (A:Option Addr) (N c p3 p6 p9:Nat):Array Value:=#[.slice A N c,.slice (some ⟨p3,0,none⟩) N N,.slice (some ⟨p6,0,none⟩) N N,.slice none 0 0,.slice (some ⟨p9,0,none⟩) N N,.int .i64 0,.slice none 0 0]
structure S3 (A:Option Addr) (N c:Nat) (W:World) (done:Nat→Bool) (val:Nat→Value) (Z:World):Prop where
 be:Below W.heap.size W Z
 vv:∀ i,done i = true→cst3 i = true→val i = ix3 A N c i
 s3:done 3 = true→∃ p,val 3 = .slice (some ⟨p,0,none⟩) N N∧W.heap.size≤p∧Z.heap[p]? = some (.cells (ints N (fun _ =>0)) 3 (0,0))
 s6:done 6 = true→∃ p,val 6 = .slice (some ⟨p,0,none⟩) N N∧W.heap.size≤p∧Z.heap[p]? = some (.cells (ints N (fun _ =>0)) 3 (0,0))
 ne:done 3 = true→done 6 = true→val 3≠val 6
 s9:done 9 = true→∃ p,val 9 = .slice (some ⟨p,0,none⟩) N N∧W.heap.size≤p∧Z.heap[p]? = some (.cells (bls N (fun _ =>false)) 4 (0,0))
 n10:done 10 = true→done 3 = true∧done 6 = true∧done 9 = true
 s10:done 10 = true→∃ p3 p6 p9,val 10 = .agg (fin0 A N c p3 p6 p9)∧val 3 = .slice (some ⟨p3,0,none⟩) N N∧val 6 = .slice (some ⟨p6,0,none⟩) N N∧val 9 = .slice (some ⟨p9,0,none⟩) N N
 n11:done 11 = true→done 10 = true
 s11:done 11 = true→∃ F p3 p6 p9,val 11 = .pointer (some ⟨F,0,none⟩)∧val 3 = .slice (some ⟨p3,0,none⟩) N N∧val 6 = .slice (some ⟨p6,0,none⟩) N N∧val 9 = .slice (some ⟨p9,0,none⟩) N N∧W.heap.size≤F∧Z.heap[F]? = some (.cells (fin0 A N c p3 p6 p9) 83 (0,0))
 n12:done 12 = true→done 11 = true
 v12:done 12 = true→val 12 = val 11
section
variable {A:Option Addr} {N c:Nat} {W Z:World} {done:Nat→Bool} {val:Nat→Value}
theorem S3.start (A:Option Addr) (N c:Nat) (W:World):S3 A N c W (fun _ =>false) (fun _ =>undef) { W with drawn:=W.drawn + 1 } :=
 ⟨(zL0 W.heap.size W).drew,by simp,by simp,by simp,by simp,by simp,by simp,by simp,by simp,by simp,by simp,by simp⟩
theorem S3.v0 (h:S3 A N c W done val Z) (hd:done 0 = true):val 0 = .slice A N c:=h.vv 0 hd qF0
theorem S3.v1 (h:S3 A N c W done val Z) (hd:done 1 = true):val 1 = .slice A N c:=h.vv 1 hd qF0
theorem S3.v2 (h:S3 A N c W done val Z) (hd:done 2 = true):val 2 = .int .i64 (N:Nat):=h.vv 2 hd qF0
theorem S3.v4 (h:S3 A N c W done val Z) (hd:done 4 = true):val 4 = .slice A N c:=h.vv 4 hd qF0
theorem S3.v5 (h:S3 A N c W done val Z) (hd:done 5 = true):val 5 = .int .i64 (N:Nat):=h.vv 5 hd qF0
theorem S3.v7 (h:S3 A N c W done val Z) (hd:done 7 = true):val 7 = .slice A N c:=h.vv 7 hd qF0
theorem S3.v8 (h:S3 A N c W done val Z) (hd:done 8 = true):val 8 = .int .i64 (N:Nat):=h.vv 8 hd qF0
theorem S3.do_ (h:S3 A N c W done val Z) (i:Nat) (hc:cst3 i = true) {x:Value} (hx:x = ix3 A N c i):S3 A N c W (upd done i) (setv val i x) Z:=by
 have e3:i≠3:=by rintro rfl;cases hc
 have e6:i≠6:=by rintro rfl;cases hc
 have e9:i≠9:=by rintro rfl;cases hc
 have e10:i≠10:=by rintro rfl;cases hc
 have e11:i≠11:=by rintro rfl;cases hc
 have e12:i≠12:=by rintro rfl;cases hc
 refine ⟨h.be,fun j hj hcj =>?vv,?s3,?s6,?ne,?s9,?n10,?s10,?n11,?s11,?n12,?v12⟩
 case vv =>
  simp only [upd,setv] at hj ⊢;by_cases e:j = i
  ·rw [if_pos e,e];exact hx
  ·rw [if_neg e] at hj ⊢;exact h.vv j hj hcj
 all_goals try simp only [upd,setv,if_neg (Ne.symm e3),if_neg (Ne.symm e6),if_neg (Ne.symm e9),if_neg (Ne.symm e10),if_neg (Ne.symm e11),if_neg (Ne.symm e12)]
 case s3 =>exact h.s3
 case s6 =>exact h.s6
 case ne =>exact h.ne
 case s9 =>exact h.s9
 case n10 =>exact h.n10
 case s10 =>exact h.s10
 case n11 =>exact h.n11
 case s11 =>exact h.s11
 case n12 =>exact h.n12
 case v12 =>exact h.v12
theorem S3.do3 (h:S3 A N c W done val Z) (hd:done 3 = false):S3 A N c W (upd done 3) (setv val 3 (.slice (some ⟨Z.heap.size,0,none⟩) N N)) (Z.alloc (.cells (ints N (fun _ =>0)) 3)):=by
 have h10:done 10 = false:=by cases e:done 10 with
  | false =>rfl
  | true =>have:=h.n10 e;simp [hd] at this
 have h11:done 11 = false:=by cases e:done 11 with
  | false =>rfl
  | true =>rw [h.n11 e] at h10;cases h10
 refine ⟨?be,fun j hj hcj =>?vv,?s3,?s6,?ne,?s9,?n10,?s10,?n11,?s11,?n12,?v12⟩
 case vv =>
  have e:j≠3:=by rintro rfl;cases hcj
  simp only [upd,setv,if_neg e] at hj ⊢;exact h.vv j hj hcj
 all_goals try simp only [upd,setv,if_true,if_neg (show (6:Nat)≠3 by decide),if_neg (show (9:Nat)≠3 by decide),if_neg (show (10:Nat)≠3 by decide),if_neg (show (11:Nat)≠3 by decide),if_neg (show (12:Nat)≠3 by decide)]
 case be =>exact a0C h.be _
 case s3 =>exact fun _ =>⟨Z.heap.size,rfl,h.be.size,World.alloc_heap_new Z _⟩
 case s6 =>exact fun q =>by obtain ⟨p,e,hle,hb⟩:=h.s6 q;exact ⟨p,e,hle,a0J hb _⟩
 case ne =>exact fun _ q e =>by obtain ⟨p,e2,_,hb⟩:=h.s6 q;rw [e2] at e;simp only [Value.slice.injEq,Option.some.injEq,Addr.mk.injEq] at e;have:=a1J hb;omega
 case s9 =>exact fun q =>by obtain ⟨p,e,hle,hb⟩:=h.s9 q;exact ⟨p,e,hle,a0J hb _⟩
 case n10 =>exact fun q =>by rw [h10] at q;cases q
 case s10 =>exact fun q =>by rw [h10] at q;cases q
 case n11 =>exact h.n11
 case s11 =>exact fun q =>by rw [h11] at q;cases q
 case n12 =>exact h.n12
 case v12 =>exact fun q =>by rw [h.n12 q] at h11;cases h11
theorem S3.do6 (h:S3 A N c W done val Z) (hd:done 6 = false):S3 A N c W (upd done 6) (setv val 6 (.slice (some ⟨Z.heap.size,0,none⟩) N N)) (Z.alloc (.cells (ints N (fun _ =>0)) 3)):=by
 have h10:done 10 = false:=by cases e:done 10 with
  | false =>rfl
  | true =>have:=h.n10 e;simp [hd] at this
 have h11:done 11 = false:=by cases e:done 11 with
  | false =>rfl
  | true =>rw [h.n11 e] at h10;cases h10
 refine ⟨?be,fun j hj hcj =>?vv,?s3,?s6,?ne,?s9,?n10,?s10,?n11,?s11,?n12,?v12⟩
 case vv =>
  have e:j≠6:=by rintro rfl;cases hcj
  simp only [upd,setv,if_neg e] at hj ⊢;exact h.vv j hj hcj
 all_goals try simp only [upd,setv,if_true,if_neg (show (3:Nat)≠6 by decide),if_neg (show (9:Nat)≠6 by decide),if_neg (show (10:Nat)≠6 by decide),if_neg (show (11:Nat)≠6 by decide),if_neg (show (12:Nat)≠6 by decide)]
 case be =>exact a0C h.be _
 case s3 =>exact fun q =>by obtain ⟨p,e,hle,hb⟩:=h.s3 q;exact ⟨p,e,hle,a0J hb _⟩
 case s6 =>exact fun _ =>⟨Z.heap.size,rfl,h.be.size,World.alloc_heap_new Z _⟩
 case ne =>exact fun q _ e =>by obtain ⟨p,e2,_,hb⟩:=h.s3 q;rw [e2] at e;simp only [Value.slice.injEq,Option.some.injEq,Addr.mk.injEq] at e;have:=a1J hb;omega
 case s9 =>exact fun q =>by obtain ⟨p,e,hle,hb⟩:=h.s9 q;exact ⟨p,e,hle,a0J hb _⟩
 case n10 =>exact fun q =>by rw [h10] at q;cases q
 case s10 =>exact fun q =>by rw [h10] at q;cases q
 case n11 =>exact h.n11
 case s11 =>exact fun q =>by rw [h11] at q;cases q
 case n12 =>exact h.n12
 case v12 =>exact fun q =>by rw [h.n12 q] at h11;cases h11
theorem S3.do9 (h:S3 A N c W done val Z) (hd:done 9 = false):S3 A N c W (upd done 9) (setv val 9 (.slice (some ⟨Z.heap.size,0,none⟩) N N)) (Z.alloc (.cells (bls N (fun _ =>false)) 4)):=by
 have h10:done 10 = false:=by cases e:done 10 with
  | false =>rfl
  | true =>have:=h.n10 e;simp [hd] at this
 have h11:done 11 = false:=by cases e:done 11 with
  | false =>rfl
  | true =>rw [h.n11 e] at h10;cases h10
 refine ⟨?be,fun j hj hcj =>?vv,?s3,?s6,?ne,?s9,?n10,?s10,?n11,?s11,?n12,?v12⟩
 case vv =>
  have e:j≠9:=by rintro rfl;cases hcj
  simp only [upd,setv,if_neg e] at hj ⊢;exact h.vv j hj hcj
 all_goals try simp only [upd,setv,if_true,if_neg (show (3:Nat)≠9 by decide),if_neg (show (6:Nat)≠9 by decide),if_neg (show (10:Nat)≠9 by decide),if_neg (show (11:Nat)≠9 by decide),if_neg (show (12:Nat)≠9 by decide)]
 case be =>exact a0C h.be _
 case s3 =>exact fun q =>by obtain ⟨p,e,hle,hb⟩:=h.s3 q;exact ⟨p,e,hle,a0J hb _⟩
 case s6 =>exact fun q =>by obtain ⟨p,e,hle,hb⟩:=h.s6 q;exact ⟨p,e,hle,a0J hb _⟩
 case ne =>exact h.ne
 case s9 =>exact fun _ =>⟨Z.heap.size,rfl,h.be.size,World.alloc_heap_new Z _⟩
 case n10 =>exact fun q =>by rw [h10] at q;cases q
 case s10 =>exact fun q =>by rw [h10] at q;cases q
 case n11 =>exact h.n11
 case s11 =>exact fun q =>by rw [h11] at q;cases q
 case n12 =>exact h.n12
 case v12 =>exact fun q =>by rw [h.n12 q] at h11;cases h11
theorem S3.do10 (h:S3 A N c W done val Z) (hd:done 10 = false) {p3 p6 p9:Nat} (e3:val 3 = .slice (some ⟨p3,0,none⟩) N N) (e6:val 6 = .slice (some ⟨p6,0,none⟩) N N) (e9:val 9 = .slice (some ⟨p9,0,none⟩) N N) (h3:done 3 = true) (h6:done 6 = true) (h9:done 9 = true):S3 A N c W (upd done 10) (setv val 10 (.agg (fin0 A N c p3 p6 p9))) Z:=by
 refine ⟨?be,fun j hj hcj =>?vv,?s3,?s6,?ne,?s9,?n10,?s10,?n11,?s11,?n12,?v12⟩
 case vv =>
  have e:j≠10:=by rintro rfl;cases hcj
  simp only [upd,setv,if_neg e] at hj ⊢;exact h.vv j hj hcj
 all_goals try simp only [upd,setv,if_true,if_neg (show (3:Nat)≠10 by decide),if_neg (show (6:Nat)≠10 by decide),if_neg (show (9:Nat)≠10 by decide),if_neg (show (11:Nat)≠10 by decide),if_neg (show (12:Nat)≠10 by decide)]
 case be =>exact h.be
 case s3 =>exact h.s3
 case s6 =>exact h.s6
 case ne =>exact h.ne
 case s9 =>exact h.s9
 case n10 =>exact fun _ =>⟨h3,h6,h9⟩
 case s10 =>exact fun _ =>⟨p3,p6,p9,rfl,e3,e6,e9⟩
 case n11 =>exact fun _ =>trivial
 case s11 =>exact h.s11
 case n12 =>exact h.n12
 case v12 =>exact h.v12
theorem S3.do11 (h:S3 A N c W done val Z) (hd:done 11 = false) {p3 p6 p9:Nat} (h10:done 10 = true) (e3:val 3 = .slice (some ⟨p3,0,none⟩) N N) (e6:val 6 = .slice (some ⟨p6,0,none⟩) N N) (e9:val 9 = .slice (some ⟨p9,0,none⟩) N N):S3 A N c W (upd done 11) (setv val 11 (.pointer (some ⟨Z.heap.size,0,none⟩))) (Z.alloc (.cells (fin0 A N c p3 p6 p9) 83)):=by
 refine ⟨?be,fun j hj hcj =>?vv,?s3,?s6,?ne,?s9,?n10,?s10,?n11,?s11,?n12,?v12⟩
 case vv =>
  have e:j≠11:=by rintro rfl;cases hcj
  simp only [upd,setv,if_neg e] at hj ⊢;exact h.vv j hj hcj
 all_goals try simp only [upd,setv,if_true,if_neg (show (3:Nat)≠11 by decide),if_neg (show (6:Nat)≠11 by decide),if_neg (show (9:Nat)≠11 by decide),if_neg (show (10:Nat)≠11 by decide),if_neg (show (12:Nat)≠11 by decide)]
 case be =>exact a0C h.be _
 case s3 =>exact fun q =>by obtain ⟨p,e,hle,hb⟩:=h.s3 q;exact ⟨p,e,hle,a0J hb _⟩
 case s6 =>exact fun q =>by obtain ⟨p,e,hle,hb⟩:=h.s6 q;exact ⟨p,e,hle,a0J hb _⟩
 case ne =>exact h.ne
 case s9 =>exact fun q =>by obtain ⟨p,e,hle,hb⟩:=h.s9 q;exact ⟨p,e,hle,a0J hb _⟩
 case n10 =>exact h.n10
 case s10 =>exact h.s10
 case n11 =>exact fun _ =>h10
 case s11 =>exact fun _ =>⟨Z.heap.size,p3,p6,p9,rfl,e3,e6,e9,h.be.size,World.alloc_heap_new Z _⟩
 case n12 =>exact fun _ =>trivial
 case v12 =>exact fun q =>by rw [h.n12 q] at hd;cases hd
theorem S3.do12 (h:S3 A N c W done val Z) (hd:done 12 = false) (h11:done 11 = true) {F:Nat} (e11:val 11 = .pointer (some ⟨F,0,none⟩)):S3 A N c W (upd done 12) (setv val 12 (.pointer (some ⟨F,0,none⟩))) Z:=by
 refine ⟨?be,fun j hj hcj =>?vv,?s3,?s6,?ne,?s9,?n10,?s10,?n11,?s11,?n12,?v12⟩
 case vv =>
  have e:j≠12:=by rintro rfl;cases hcj
  simp only [upd,setv,if_neg e] at hj ⊢;exact h.vv j hj hcj
 all_goals try simp only [upd,setv,if_true,if_neg (show (3:Nat)≠12 by decide),if_neg (show (6:Nat)≠12 by decide),if_neg (show (9:Nat)≠12 by decide),if_neg (show (10:Nat)≠12 by decide),if_neg (show (11:Nat)≠12 by decide)]
 case be =>exact h.be
 case s3 =>exact h.s3
 case s6 =>exact h.s6
 case ne =>exact h.ne
 case s9 =>exact h.s9
 case n10 =>exact h.n10
 case s10 =>exact h.s10
 case n11 =>exact h.n11
 case s11 =>exact h.s11
 case n12 =>exact fun _ =>h11
 case v12 =>exact fun _ =>e11.symm
end
theorem S3.fs {A:Option Addr} {c:Nat} {W Z:World} {done:Nat→Bool} {val:Nat→Value} {g:List (List Int)} (h:S3 A g.length c W done val Z) (h12:done 12 = true) (hg:Kd.F kL W (fun k =>k < W.heap.size) A g.length g) :
  ∃ F b1 b2 b4,val 12 = .pointer (some ⟨F,0,none⟩)∧FS W.heap.size F b1 b2 b4 A c g st0 (.slice none 0 0) (.slice none 0 0) Z:=by
 have h11:=h.n12 h12;have h10:=h.n11 h11;obtain ⟨h3,h6,h9⟩:=h.n10 h10;obtain ⟨F,p3,p6,p9,e11,e3,e6,e9,hF,hb⟩:=h.s11 h11;obtain ⟨q3,f3,l3,c3⟩:=h.s3 h3;obtain ⟨q6,f6,l6,c6⟩:=h.s6 h6;obtain ⟨q9,f9,l9,c9⟩:=h.s9 h9;have hne:=h.ne h3 h6;rw [e3] at f3 hne;rw [e6] at f6 hne;rw [e9] at f9;simp only [Value.slice.injEq,Option.some.injEq,Addr.mk.injEq,and_true,true_and] at f3 f6 f9;subst f3 f6 f9;refine ⟨F,p3,p6,p9,(h.v12 h12).trans e11,⟨hb,c3,c6,c9,Kd.b0A _ _ _ _ _,Kd.c3Y _ _ _ _ _,Kd.a6A hg (fun k hk _ =>h.be.block k hk),⟨hF,l3,l6,l9⟩,fun e =>hne (by rw [e])⟩⟩
theorem makeI (N:Nat) (hN:N≤1000) (W:World):(Instr.makeSlice 43 (.int .i64 (N:Int)) (.int .i64 (N:Int))).run Tryz.prog W = .ok (.slice (some ⟨W.heap.size,0,none⟩) N N) (W.alloc (.cells (ints N (fun _ =>0)) 3)):=by
 have h:=a4Z (P:=Tryz.prog) 43 3 (.int .i64 0) 8 Tryz.underlying43 b1K rfl qF0 (N:Int) (zJ0 N) qU2 W;rw [zP0] at h;rw [h]
 congr 3
 unfold madeCells ints;apply Array.ext_getElem?;intro j;by_cases hj:j < N
 ·simp [hj,Nat.mod_one]
 ·simp [hj]
theorem info4b:(Tryz.prog.info? 4).map (fun i =>(i.zero,i.size,i.bytes)) = some (some (.bool false),1,1):=by kernel_rfl
theorem makeB (N:Nat) (hN:N≤1000) (W:World):(Instr.makeSlice 71 (.int .i64 (N:Int)) (.int .i64 (N:Int))).run Tryz.prog W = .ok (.slice (some ⟨W.heap.size,0,none⟩) N N) (W.alloc (.cells (bls N (fun _ =>false)) 4)):=by
 have h:=a4Z (P:=Tryz.prog) 71 4 (.bool false) 1 Tryz.underlying71 info4b rfl qF0 (N:Int) (zJ0 N) qU2 W;rw [zP0] at h;rw [h]
 congr 3
 unfold madeCells bls;apply Array.ext_getElem?;intro j;by_cases hj:j < N
 ·simp [hj,Nat.mod_one]
 ·simp [hj]
structure OL (B F b1 b2 b4:Nat) (A:Option Addr) (c:Nat) (g:List (List Int)) (W0:World) (n:Nat) (s:St) (vs vk:Value) (W:World):Prop where
 is:s = rootsF (adjF g) g.length (List.range n) st0
 inv:Inv (adjF g) g.length s []
 ct:cnt g.length s≤g.length
 tt:tot s = s.next
 fs:FS B F b1 b2 b4 A c g s vs vk W
 be:Below B W0 W
 bz:B≤W.heap.size
theorem OL.start {B F b1 b2 b4:Nat} {A:Option Addr} {c:Nat} {g:List (List Int)} {W0 W:World} {vs vk:Value} (h:FS B F b1 b2 b4 A c g st0 vs vk W) (hb:Below B W0 W) (hz:B≤W.heap.size):OL B F b1 b2 b4 A c g W0 0 st0 vs vk W :=
 ⟨rfl,inv0,by
  have:=a7T g.length st0;unfold cnt;show 0 + _≤_
  omega,rfl,h,hb,hz⟩
def ofRow (k:Nat) (l:List Nat) (f:Nat→Nat):Nat→Nat:=l.foldl (fun f x =>Tarj.upd f x k) f
def ofAt (L:List (List Nat)) (n:Nat):Nat→Nat:=(List.range n).foldl (fun f k =>ofRow k (L.getD k []) f) (fun _ =>0)
def lowAt (L:List (List Nat)) (n:Nat):Nat→Nat:=fun k =>if k < n then (L.getD k []).getD 0 0 else 0
theorem b5N (L:List (List Nat)) (n:Nat):ofAt L (n + 1) = ofRow n (L.getD n []) (ofAt L n):=by
 unfold ofAt;rw [List.range_succ,List.foldl_append];rfl
theorem b9L (k:Nat) (l:List Nat) (j:Nat) (hj:j < l.length) (f:Nat→Nat):ofRow k (l.take (j + 1)) f = Tarj.upd (ofRow k (l.take j) f) l[j] k:=by
 unfold ofRow;rw [zW0 hj,List.foldl_append];rfl
theorem b9N (L:List (List Nat)) (n:Nat):lowAt L (n + 1) = Tarj.upd (lowAt L n) n ((L.getD n []).getD 0 0):=by
 funext k
 simp only [lowAt,Tarj.upd];by_cases e:k = n
 ·subst e;simp
 ·rw [if_neg e];by_cases h:k < n
  ·rw [if_pos h,if_pos qD0]
  ·rw [if_neg h,if_neg qD0]
structure KM (B N1 bof bl N K:Nat) (L:List (List Nat)) (vk:Value) (f h:Nat→Nat) (W0 W:World):Prop where
 kn:Kd.F kL W (fun k =>k < N1) (match vk with | .slice A _ _ =>A | _ =>none) L.length (L.map toI)
 of:W.heap[bof]? = some (.cells (ints N f) 3 (0,0))
 lo:W.heap[bl]? = some (.cells (ints K h) 3 (0,0))
 be:Below B W0 W
 ge:N1≤bof∧N1≤bl∧B≤N1
 ne:bof≠bl
theorem KM.setOf {B N1 bof bl N K:Nat} {L:List (List Nat)} {vk:Value} {f h:Nat→Nat} {W0 W:World} (q:KM B N1 bof bl N K L vk f h W0 W) (n x:Nat):KM B N1 bof bl N K L vk (Tarj.upd f n x) h W0 (W.setCell ⟨bof,n,none⟩ (.int .i64 (x:Nat))):=by
 obtain ⟨g1,g2,g3⟩:=q.ge;exact ⟨Kd.b0B (p:=⟨bof,n,none⟩) q.kn (fun k hk e =>by (have e':k = bof:=e);omega) _,a3G q.of n _ (a6W _ _ _ _),a2K q.lo (Ne.symm q.ne) _,q.be.setCell (p:=⟨bof,n,none⟩) (zE0 g3 g1) _,q.ge,q.ne⟩
theorem KM.setLo {B N1 bof bl N K:Nat} {L:List (List Nat)} {vk:Value} {f h:Nat→Nat} {W0 W:World} (q:KM B N1 bof bl N K L vk f h W0 W) (n x:Nat):KM B N1 bof bl N K L vk f (Tarj.upd h n x) W0 (W.setCell ⟨bl,n,none⟩ (.int .i64 (x:Nat))):=by
 obtain ⟨g1,g2,g3⟩:=q.ge;exact ⟨Kd.b0B (p:=⟨bl,n,none⟩) q.kn (fun k hk e =>by (have e':k = bl:=e);omega) _,a2K q.of q.ne _,a3G q.lo n _ (a6W _ _ _ _),q.be.setCell (p:=⟨bl,n,none⟩) (zE0 g3 g2) _,q.ge,q.ne⟩
theorem b2G (adj:Nat→List Nat) (N n:Nat) (s:St):rootsF adj N (List.range (n + 1)) s = if (rootsF adj N (List.range n) s).index n = 0 then visitF adj N n (rootsF adj N (List.range n) s) else rootsF adj N (List.range n) s:=by
 unfold rootsF;rw [List.range_succ,List.foldl_append];rfl
inductive GRch (g:List (List Int)) (a:Nat):Nat→Prop
 | refl:GRch g a a
 | step {b:Nat} {m:Int}:GRch g a b→m ∈ g.getD b []→GRch g a m.toNat
theorem GRch.trans {g:List (List Int)} {a b c:Nat} (h:GRch g a b) (k:GRch g b c):GRch g a c:=by
 induction k with
 | refl =>exact h
 | step _ hm ih =>exact .step ih hm
def On (seen:List Bool) (v:Nat):Prop:=seen[v]? = some true
theorem b5J {l:List Bool} {n v:Nat} (h:On l v):On (l.set n true) v:=by
 unfold On at *;rw [List.getElem?_set]
 split
 ·rename_i e;subst e
  rw [if_pos (by have:=(List.getElem?_eq_some_iff.1 h).1;exact this)]
 ·exact h
theorem b5K {l:List Bool} {n v:Nat} (h:On (l.set n true) v):v = n∨On l v:=by
 unfold On at *;rw [List.getElem?_set] at h
 split at h
 ·rename_i e;exact .inl e.symm
 ·exact .inr h
theorem c1V:∀ (l:List Bool) (n:Nat),l[n]? = some false→((l.set n true).filter (fun x =>!x)).length + 1 = (l.filter (fun x =>!x)).length:=by
 intro l
 induction l with
 | nil =>intro n h;simp at h
 | cons x r ih =>
  intro n h;cases n with
  | zero =>simp at h;subst h;simp
  | succ n =>
   have h2:=ih n (by simpa using h);cases x <;> simp_all <;> omega
def pick (s:List Bool) (j:Nat):List Int:=((List.range j).filter (fun v =>s.getD v false)).map Int.ofNat
theorem pick_on {s:List Bool} {j:Nat} (h:s[j]? = some true):pick s (j + 1) = pick s j ++ [(j:Int)]:=by
 unfold pick;rw [List.range_succ,List.filter_append,List.map_append];simp [zK0,h]
theorem pick_off {s:List Bool} {j:Nat} (h:s[j]? = some false):pick s (j + 1) = pick s j:=by
 unfold pick;rw [List.range_succ,List.filter_append,List.map_append];simp [zK0,h]
open Classical in
noncomputable def reachL (g:List (List Int)) (n:Nat):List Int:=((List.range g.length).filter (fun v =>decide (GRch g n v))).map Int.ofNat
theorem pm (n:Nat) (h:n≤1050000):wrap64 (((n + 1:Nat):Int) - 1) = (n:Int):=by simp only [wrap64];omega
def Sm (g:List (List Int)):Prop:=g.length≤1050000∧∀ i:Nat,(g.getD i []).length≤1050000
def okAt (N:Nat) (r:List Int) (j:Nat):Bool:=!(decide (rd r (j:Int) < 0)) && (!(decide (rd r (j:Int) ≥ (N:Int))) && (decide (j = 0) || !(decide (rd r (((j - 1:Nat)):Int) ≥ rd r (j:Int)))))
def rowTail (N:Nat) (r:List Int):Nat→Nat→Bool
 | 0,_ =>true
 | m + 1,j =>okAt N r j && rowTail N r m (j + 1)
def allTail (g:List (List Int)):Nat→Nat→Bool
 | 0,_ =>decide ((g.length:Int)≤1000)
 | m + 1,i =>rowTail g.length (g.getD i []) (g.getD i []).length 0 && allTail g m (i + 1)
def mayB (g:List (List Int)):Bool:=allTail g g.length 0
theorem rdLg (g:List (List Int)) (i:Nat):a1A g (i:Int) = g.getD i []:=rfl
theorem gmay_row (g:List (List Int)) (hs:Sm g) (i:Nat) (hi:i < g.length) (b:Bool) (h:Ev (fun k =>graph_May.l0 k g g (g.length:Int) ((i + 1:Nat):Int)) b) :
  ∀ m j:Nat,j + m = (g.getD i []).length→Ev (fun k =>graph_May.l1 k g (g.getD i []) g (g.length:Int) (i:Int) (g.getD i []) ((g.getD i []).length:Int) (j:Int)) (rowTail g.length (g.getD i []) m j && b):=by
 have hr:=hs.2 i;have hn:=hs.1;intro m
 induction m with
 | zero =>
  intro j hj;refine Ev.step ?_;have c3:¬ (j:Int) < ((g.getD i []).length:Int):=by omega
  simp only [graph_May.l1,if_neg c3,pz i qD0,rowTail,Bool.true_and];exact h
 | succ m ih =>
  intro j hj;have e:=ih (j + 1) qD0;refine Ev.step ?_;have c3:(j:Int) < ((g.getD i []).length:Int):=by omega
  have c4:0≤(j:Int):=zJ0 j;simp only [graph_May.l1,if_pos c3,if_pos c4,pz j qD0,rowTail,okAt];by_cases d1:rd (g.getD i []) (j:Int) < 0
  ·simp only [if_pos d1,zD0 d1,zJ2,Bool.false_and];exact Ev.const _
  ·by_cases d2:rd (g.getD i []) (j:Int) ≥ (g.length:Int)
   ·simp only [if_neg d1,zO0 d1,if_pos d2,zD0 d2,zJ2,Bool.not_false,Bool.false_and,Bool.and_false];exact Ev.const _
   ·cases j with
    | zero =>
     simp only [if_neg d1,zO0 d1,if_neg d2,zO0 d2,Bool.not_false,Bool.true_and,if_neg (show ¬ ((0:Nat):Int) > 0 by decide),decide_true,Bool.true_or];exact e
    | succ j' =>
     have c5:(((j' + 1:Nat)):Int) > 0:=by omega
     have c6:0≤((j':Nat):Int):=zJ0 j';have c7:((j':Nat):Int) < ((g.getD i []).length:Int):=by omega
     simp only [if_neg d1,zO0 d1,if_neg d2,zO0 d2,Bool.not_false,Bool.true_and,if_pos c5,pm j' qD0,if_pos c6,if_pos c7,Nat.add_sub_cancel,zO0 (show ¬ j' + 1 = 0 by omega),zU2];by_cases d3:rd (g.getD i []) (j':Int) ≥ rd (g.getD i []) (((j' + 1:Nat)):Int)
     ·simp only [if_pos d3,zD0 d3,zJ2,Bool.false_and];exact Ev.const _
     ·simp only [if_neg d3,zO0 d3,Bool.not_false,Bool.true_and];exact e
theorem b1L (g:List (List Int)) (hs:Sm g):Ev (fun k =>graph_May.f k g) (mayB g):=by
 have main:∀ m i:Nat,i + m = g.length→Ev (fun k =>graph_May.l0 k g g (g.length:Int) (i:Int)) (allTail g m i):=by
  intro m
  induction m with
  | zero =>
   intro i hi;refine Ev.step ?_;have c:¬ (i:Int) < (g.length:Int):=by omega
   simp only [graph_May.l0,if_neg c,allTail];exact Ev.const _
  | succ m ih =>
   intro i hi;refine Ev.step ?_;have c:(i:Int) < (g.length:Int):=by omega
   have c0:0≤(i:Int):=zJ0 i;simp only [graph_May.l0,if_pos c,if_pos c0,rdLg,allTail];exact gmay_row g hs i qD0 _ (ih (i + 1) qD0) _ 0 qD0
 exact main g.length 0 qD0
theorem b4Z {N:Nat} {r:List Int}:∀ (m j:Nat),rowTail N r m j = true→∀ i,j≤i→i < j + m→0≤rd r (i:Int)∧rd r (i:Int) < N∧(i≠0→rd r ((i - 1:Nat):Int) < rd r (i:Int)):=by
 intro m
 induction m with
 | zero =>intro j _ i h1 h2;omega
 | succ m ih =>
  intro j h i h1 h2;simp only [rowTail,zB1] at h;by_cases e:i = j
  ·subst e;have h3:=h.1;simp only [okAt,zB1,zY2,Bool.not_eq_true',zW1,decide_eq_false_iff_not] at h3;exact ⟨by omega,by omega,fun h0 =>by rcases h3.2.2 with h4 | h4 <;> omega⟩
  ·exact ih (j + 1) h.2 i qD0 qD0
theorem b6F {g:List (List Int)}:∀ (m i:Nat),i + m = g.length→allTail g m i = true→g.length≤1000∧∀ v,i≤v→v < g.length→rowTail g.length (g.getD v []) (g.getD v []).length 0 = true:=by
 intro m
 induction m with
 | zero =>
  intro i hi h;simp only [allTail,zW1] at h;exact ⟨by omega,fun v h1 h2 =>by omega⟩
 | succ m ih =>
  intro i hi h;simp only [allTail,zB1] at h;obtain ⟨q1,q2⟩:=ih (i + 1) qD0 h.2;refine ⟨q1,fun v h1 h2 =>?_⟩;by_cases e:v = i
  ·subst e;exact h.1
  ·exact q2 v qD0 h2
theorem a4N {g:List (List Int)} (h:mayB g = true):g.length≤1000∧(∀ v,v < g.length→∀ j,j < (g.getD v []).length→0≤rd (g.getD v []) (j:Int)∧rd (g.getD v []) (j:Int) < g.length∧(j≠0→rd (g.getD v []) ((j - 1:Nat):Int) < rd (g.getD v []) (j:Int))):=by
 obtain ⟨q1,q2⟩:=b6F g.length 0 qD0 h;exact ⟨q1,fun v hv j hj =>b4Z _ 0 (q2 v (zL2 _) hv) j (zL2 _) qD0⟩
theorem c1F {r:List Int} {m:Int} (h:m ∈ r):∃ j,j < r.length∧rd r (j:Int) = m:=by
 obtain ⟨j,hj,e⟩:=List.getElem_of_mem h;exact ⟨j,hj,by unfold rd;rw [zP0,zK0,zF0 hj];simpa using e⟩
theorem b6W {g:List (List Int)} (h:mayB g = true):∀ v,v < g.length→∀ m ∈ g.getD v [],0≤m∧m < g.length:=by
 intro v hv m hm;obtain ⟨j,hj,rfl⟩:=c1F hm;have:=(a4N h).2 v hv j hj;exact ⟨this.1,this.2.1⟩
noncomputable def reachF (g:List (List Int)) (n:Int):List Int:=if mayB g = true∧0≤n∧n < g.length then reachL g n.toNat else []
theorem b6N {r:List Int} {j:Nat} (h:j < r.length):rd r (j:Int) = r[j]:=by
 unfold rd;rw [zP0,zK0,zF0 h];rfl
def col (g:List (List Int)) (t:Nat) (i:Nat):List Int:=((List.range i).filter (fun k =>decide ((t:Int) ∈ g.getD k []))).map Int.ofNat
def turnF (g:List (List Int)):List (List Int):=if mayB g = true then (List.range g.length).map (fun t =>col g t g.length) else []
theorem col_succ (g:List (List Int)) (t i:Nat):col g t (i + 1) = col g t i ++ (if (t:Int) ∈ g.getD i [] then [(i:Int)] else []):=by
 unfold col;rw [List.range_succ,List.filter_append,List.map_append];by_cases h:(t:Int) ∈ g.getD i []
 ·simp only [zC2,h,decide_true,if_true,List.filter_nil,zH2,zT2];rfl
 ·simp only [zC2,h,decide_false,if_false,List.filter_nil,zT2,Bool.false_eq_true]
theorem col_len (g:List (List Int)) (t i:Nat):(col g t i).length≤i:=by
 unfold col;rw [zP1];exact zE0 (zD3 _ _) qI0
theorem c0X {g:List (List Int)} (hm:mayB g = true) {i:Nat} (hi:i < g.length):∀ b a:Nat,a < b→b < (g.getD i []).length→rd (g.getD i []) (a:Int) < rd (g.getD i []) (b:Int):=by
 intro b
 induction b with
 | zero =>intro a h;omega
 | succ b ih =>
  intro a h1 h2;have h3:=((a4N hm).2 i hi (b + 1) h2).2.2 qD0;simp only [Nat.add_sub_cancel] at h3;by_cases e:a = b
  ·subst e;exact h3
  ·have:=ih a qD0 qD0;omega
theorem row_new {g:List (List Int)} (hm:mayB g = true) {i j:Nat} (hi:i < g.length) (hj:j < (g.getD i []).length):¬ (g.getD i [])[j] ∈ (g.getD i []).take j:=by
 intro h;obtain ⟨a,ha,e⟩:=List.getElem_of_mem h;rw [zI1] at ha;rw [List.getElem_take] at e;have h1:=c0X hm hi j a qD0 hj;rw [b6N qD0,b6N hj] at h1;omega
def part (g:List (List Int)) (i j:Nat):List (List Int):=(List.range g.length).map (fun t =>col g t i ++ (if (t:Int) ∈ (g.getD i []).take j then [(i:Int)] else []))
theorem b7X (g:List (List Int)) (i j t:Nat) (ht:t < g.length):(part g i j).getD t [] = col g t i ++ (if (t:Int) ∈ (g.getD i []).take j then [(i:Int)] else []):=by
 unfold part;rw [zK0,List.getElem?_map,List.getElem?_range ht];rfl
theorem c1N {g:List (List Int)} (hm:mayB g = true) {i j x:Nat} (hi:i < g.length) (hj:j < (g.getD i []).length) (hx:(g.getD i [])[j] = (x:Int)) (hxN:x < g.length):(part g i j).set x ((part g i j).getD x [] ++ [(i:Int)]) = part g i (j + 1):=by
 have hnew:=row_new hm hi hj;rw [hx] at hnew;apply zM2;intro t;rw [List.getElem?_set];have hlen:(part g i j).length = g.length:=by unfold part;simp
 by_cases ht:t < g.length
 ·have hr:(part g i (j + 1))[t]? = some (col g t i ++ (if (t:Int) ∈ (g.getD i []).take (j + 1) then [(i:Int)] else [])):=by
   unfold part;rw [List.getElem?_map,List.getElem?_range ht];rfl
  rw [hr,zW0 hj,hx]
  split
  ·rename_i e;subst e
   rw [if_pos (by rw [hlen];exact ht),b7X g i j x ht,if_neg hnew,if_pos qI0,zU1]
  ·rename_i e
   have hr2:(part g i j)[t]? = some (col g t i ++ (if (t:Int) ∈ (g.getD i []).take j then [(i:Int)] else [])):=by
    unfold part;rw [List.getElem?_map,List.getElem?_range ht];rfl
   rw [hr2];have hne:¬ (t:Int) = (x:Int):=by omega
   by_cases hin:(t:Int) ∈ (g.getD i []).take j
   ·rw [if_pos hin,if_pos (zY0.2 (.inl hin))]
   ·rw [if_neg hin,if_neg (fun h' =>(zY0.1 h').elim hin (fun h'' =>hne (zD1.1 h'')))]
 ·have h1:(part g i (j + 1))[t]? = none:=by rw [List.getElem?_eq_none];unfold part;simp;omega
  have h2:(part g i j)[t]? = none:=by rw [List.getElem?_eq_none];rw [hlen];omega
  rw [h1,if_neg qD0,h2]
theorem c1O (g:List (List Int)) (i:Nat):part g i (g.getD i []).length = part g (i + 1) 0:=by
 unfold part;apply List.map_congr_left;intro t _;rw [zH1,col_succ];simp
theorem c2Q (g:List (List Int)) (hs:Sm g) (hm:mayB g = true) (i:Nat) (hi:i < g.length) (res:List (List Int)) (h:Ev (fun k =>graph_Turn.l0 k (part g (i + 1) 0) g (g.length:Int) ((i + 1:Nat):Int)) res) :
  ∀ m j:Nat,j + m = (g.getD i []).length→Ev (fun k =>graph_Turn.l1 k (part g i j) (i:Int) g (g.length:Int) (i:Int) (g.getD i []) ((g.getD i []).length:Int) (j:Int)) res:=by
 have hr:=hs.2 i;have hn:=hs.1;intro m
 induction m with
 | zero =>
  intro j hj;refine Ev.step ?_;have c3:¬ (j:Int) < ((g.getD i []).length:Int):=by omega
  simp only [graph_Turn.l1,if_neg c3,pz i qD0];rw [show j = (g.getD i []).length by omega,c1O];exact h
 | succ m ih =>
  intro j hj;have e:=ih (j + 1) qD0;refine Ev.step ?_;have hjl:j < (g.getD i []).length:=by omega
  have c3:(j:Int) < ((g.getD i []).length:Int):=by omega
  have c4:0≤(j:Int):=zJ0 j;obtain ⟨m0,m1⟩:=b6W hm i hi _ (zE1 hjl);obtain ⟨x,hx⟩:∃ x:Nat,(g.getD i [])[j] = (x:Int):=⟨((g.getD i [])[j]).toNat,by omega⟩;rw [hx] at m1;have hxN:x < g.length:=by omega
  have hrd:rd (g.getD i []) (j:Int) = (x:Int):=by rw [b6N hjl];exact hx
  have d1:0≤(x:Int):=zJ0 x;have hlen:(part g i j).length = g.length:=by unfold part;simp
  have d2:(x:Int) < ((part g i j).length:Int):=by rw [hlen];exact m1
  have d3:((part g i j).getD x []).length < 17592186044416:=by
   rw [b7X g i j x hxN,zQ0];have:=col_len g x i
   split <;> simp <;> omega
  simp only [graph_Turn.l1,if_pos c3,if_pos c4,hrd,if_pos d1,if_pos d2,rdLg,if_pos d3,zP0,pz j qD0,c1N hm hi hjl hx hxN];exact e
theorem gturn_ev (g:List (List Int)) (hs:Sm g):Ev (fun k =>graph_Turn.f k g) (turnF g):=by
 have hn:=hs.1;refine Ev.bind (b1L g hs) ?_;unfold turnF;cases hb:mayB g with
 | false =>simp only [Bool.false_eq_true,if_false];exact Ev.const _
 | true =>
  have main:∀ m i:Nat,i + m = g.length→Ev (fun k =>graph_Turn.l0 k (part g i 0) g (g.length:Int) (i:Int)) ((List.range g.length).map (fun t =>col g t g.length)):=by
   intro m
   induction m with
   | zero =>
    intro i hi;refine Ev.step ?_;have c:¬ (i:Int) < (g.length:Int):=by omega
    simp only [graph_Turn.l0,if_neg c];rw [show i = g.length by omega,show part g g.length 0 = (List.range g.length).map (fun t =>col g t g.length) by unfold part;simp];exact Ev.const _
   | succ m ih =>
    intro i hi;refine Ev.step ?_;have c:(i:Int) < (g.length:Int):=by omega
    have c0:0≤(i:Int):=zJ0 i;simp only [graph_Turn.l0,if_pos c,if_pos c0,rdLg];exact c2Q g hs hb i qD0 _ (ih (i + 1) qD0) (g.getD i []).length 0 qD0
  have c1:0≤(g.length:Int):=zJ0 _;have c2:g.length≤11728124029610:=by omega
  simp only [if_true,if_pos c1,zP0,if_pos c2];have e:=main g.length 0 qD0
  rw [show part g 0 0 = List.replicate g.length [] by
   unfold part;apply zM2;intro t;rw [List.getElem?_map,List.getElem?_replicate];by_cases ht:t < g.length
   ·rw [List.getElem?_range ht,if_pos ht];simp [col]
   ·rw [List.getElem?_eq_none qG1,if_neg ht];rfl] at e
  exact e
open Classical
theorem row_ge {g:List (List Int)} (hm:mayB g = true) {v:Nat} (hv:v < g.length):∀ j:Nat,j < (g.getD v []).length→(j:Int)≤rd (g.getD v []) (j:Int):=by
 intro j
 induction j with
 | zero =>intro h;exact ((a4N hm).2 v hv 0 h).1
 | succ j ih =>
  intro h;have h1:=((a4N hm).2 v hv (j + 1) h).2.2 qD0;simp only [Nat.add_sub_cancel] at h1;have:=ih qD0;omega
theorem a6E {g:List (List Int)} (hm:mayB g = true):GOk g:=by
 have h0:=(a4N hm).1;refine ⟨h0,fun v =>?_,fun v hv m hmm =>b6W hm v hv m hmm⟩;by_cases hv:v < g.length
 ·rcases zS1 (g.getD v []).length with e | e
  ·rw [e];exact zL2 _
  ·have h1:=row_ge hm hv ((g.getD v []).length - 1) qD0;have h2:=((a4N hm).2 v hv ((g.getD v []).length - 1) qD0).2.1;omega
 ·rw [zK0,List.getElem?_eq_none qD0];exact zL2 _
theorem GOk.sm {g:List (List Int)} (h:GOk g):Sm g:=⟨zE0 h.len qF0,fun i =>zE0 (h.row i) qF0⟩
def toL (N:Nat) (num:Nat→Nat):List Int:=(List.range N).map fun x =>((num x:Nat):Int)
theorem a8F (N:Nat) (num:Nat→Nat):(toL N num).length = N:=by unfold toL;simp
theorem toL_rd {N:Nat} {num:Nat→Nat} {x:Nat} (h:x < N):rd (toL N num) (x:Int) = ((num x:Nat):Int):=by
 unfold toL rd;rw [zP0,zK0,List.getElem?_map,List.getElem?_range h];rfl
theorem c0G {N:Nat} {num num':Nat→Nat} (h:∀ x,x < N→num x = num' x):toL N num = toL N num':=by
 unfold toL;exact List.map_congr_left (fun x hx =>by rw [h x (zZ0.1 hx)])
theorem b9B {N:Nat} {r:List Int} (hr:r.Pairwise (· < ·)) (he:∀ m,m ∈ r→0≤m∧m < (N:Int)):∀ m j:Nat,j + m = r.length→rowTail N r m j = true:=by
 intro m
 induction m with
 | zero =>intro j _;rfl
 | succ m ih =>
  intro j hj;have hjl:j < r.length:=by omega
  simp only [rowTail,zB1];refine ⟨?_,ih (j + 1) qD0⟩;have e:=he _ (zE1 hjl);have h1:rd r (j:Int) = r[j]:=b6N hjl;simp only [okAt,zB1,zY2,Bool.not_eq_true',zW1,decide_eq_false_iff_not,h1];refine ⟨by omega,by omega,?_⟩;by_cases e0:j = 0
  ·exact .inl e0
  ·right
   have h2:rd r ((j - 1:Nat):Int) = r[j - 1]:=b6N qD0;rw [h2];have:=(List.pairwise_iff_getElem.1 hr) (j - 1) j qD0 hjl qD0;omega
theorem c2F {g:List (List Int)} (hl:g.length≤1000) (hr:∀ v,v < g.length→(g.getD v []).Pairwise (· < ·)) (he:∀ v,v < g.length→∀ m,m ∈ g.getD v []→0≤m∧m < (g.length:Int)):mayB g = true:=by
 have main:∀ m i:Nat,i + m = g.length→allTail g m i = true:=by
  intro m
  induction m with
  | zero =>intro i _;simp only [allTail,zW1];omega
  | succ m ih =>
   intro i hi;simp only [allTail,zB1];exact ⟨b9B (hr i qD0) (he i qD0) _ 0 qD0,ih (i + 1) qD0⟩
 exact main g.length 0 qD0
theorem c1X {g:List (List Int)} (hm:mayB g = true):∃ M num,Nmb (adjF g) g.length M num:=b9M (a6E hm).adj
noncomputable def manyN (g:List (List Int)):Nat:=if h:mayB g = true then Classical.choose (c1X h) else 0
noncomputable def numN (g:List (List Int)):Nat→Nat:=if h:mayB g = true then Classical.choose (Classical.choose_spec (c1X h)) else fun _ =>0
theorem a7O {g:List (List Int)} (hm:mayB g = true):Nmb (adjF g) g.length (manyN g) (numN g):=by
 unfold manyN numN;rw [dif_pos hm,dif_pos hm];exact Classical.choose_spec (Classical.choose_spec (c1X hm))
noncomputable def ofF (g:List (List Int)):List Int:=if mayB g = true then toL g.length (numN g) else []
noncomputable def manyF (g:List (List Int)):Int:=((manyN g:Nat):Int)
def Ldg (adj:Nat→List Nat) (N:Nat) (num:Nat→Nat) (k m:Nat):Prop:=∃ x,x < N∧num x = k∧∃ y,y ∈ adj x∧num y = m
noncomputable def foldR (adj:Nat→List Nat) (N:Nat) (num:Nat→Nat) (M k:Nat):List Int:=((List.range M).filter (fun m =>decide (m≠k∧Ldg adj N num k m))).map Int.ofNat
noncomputable def foldF (g:List (List Int)):List (List Int):=(List.range (manyN g)).map fun k =>foldR (adjF g) g.length (numN g) (manyN g) k
theorem c2G {g:List (List Int)} (hm:¬ mayB g = true):manyN g = 0:=by unfold manyN;rw [dif_neg hm]
theorem of_eq {g:List (List Int)} (hm:mayB g = true) {M:Nat} {num:Nat→Nat} (h:Nmb (adjF g) g.length M num):M = manyN g∧(∀ x,x < g.length→num x = numN g x)∧ofF g = toL g.length num:=by
 obtain ⟨a,b⟩:=h.uniq (a6E hm).adj (a7O hm);refine ⟨a,b,?_⟩;unfold ofF;rw [if_pos hm];exact (c0G b).symm
def pmx (num:Nat→Nat):Nat→Nat
 | 0 =>0
 | i + 1 =>max (pmx num i) (num i + 1)
theorem pmx_ge {num:Nat→Nat}:∀ {i x:Nat},x < i→num x + 1≤pmx num i
 | 0,x,h =>absurd h (zZ2 _)
 | i + 1,x,h =>by
  unfold pmx;by_cases e:x = i
  ·subst e;omega
  ·have:=pmx_ge (num:=num) (i:=i) (x:=x) qD0;omega
theorem pmx_le {num:Nat→Nat} {M:Nat}:∀ {i:Nat},(∀ x,x < i→num x < M)→pmx num i≤M
 | 0,_ =>zL2 _
 | i + 1,h =>by
  unfold pmx;have:=pmx_le (num:=num) (M:=M) (i:=i) (fun x hx =>h x qD0);have:=h i qD0;omega
theorem pmx_all {adj:Nat→List Nat} {N M:Nat} {num:Nat→Nat} (h:Nmb adj N M num):pmx num N = M:=by
 have h1:=pmx_le (num:=num) (M:=M) (i:=N) h.lt;rcases zS1 M with e | e
 ·omega
 ·obtain ⟨n,a,b,_⟩:=h.at_ (M - 1) qD0;have:=pmx_ge (num:=num) a;omega
theorem b6X {g:List (List Int)} (hm:mayB g = true):manyN g≤g.length:=by
 have h:=a7O hm;have hN:=(a6E hm).adj;have key:∀ m,m≤manyN g→m≤((List.range g.length).filter (fun x =>decide (numN g x < m))).length:=by
  intro m
  induction m with
  | zero =>intro _;exact zL2 _
  | succ m ih =>
   intro hm';obtain ⟨n,a,b,_⟩:=h.at_ m qD0;have:=ih qD0;have:=b8N (l:=List.range g.length) (p:=fun x =>decide (numN g x < m)) (q:=fun x =>decide (numN g x < m + 1)) (n:=n) (fun x _ hx =>zD0 (by have:=zB0 hx;omega)) (zZ0.2 a) (zD0 qD0) (zO0 qD0);omega
 have h1:=key (manyN g) (zM0 _);have h2:=zD3 (fun x =>decide (numN g x < manyN g)) (List.range g.length);rw [zK2] at h2;omega
theorem csr13 (xs:List Int):(Lib.compact (srt xs)).Pairwise (· < ·):=by
 have hp:(srt xs).Pairwise (fun a b =>decide (a≤b) = true):=List.pairwise_mergeSort (fun a b c h1 h2 =>by simp only [zW1] at *;omega) (fun a b =>by simp only [zY2,zW1];omega) xs;refine List.Pairwise.imp (fun {a b} h =>by have:=h.1;have:=h.2;omega) (a6X (srt xs) (fun a b =>a≤b) (fun a b h1 h2 =>by omega) (fun i j hi hj h =>?_));by_cases e:i = j
 ·subst e;omega
 ·have:=(List.pairwise_iff_getElem.1 hp) i j hi hj qD0;simpa using this
theorem csm13 (xs:List Int) (x:Int):x ∈ Lib.compact (srt xs) ↔ x ∈ xs:=(a8L _ _).trans (List.mergeSort_perm xs _).mem_iff
theorem b6U {l : List Nat} {x : Nat} : (x : Int) ∈ toI l ↔ x ∈ l := by
  unfold toI;rw [zG2]
  exact ⟨fun ⟨y, hy, e⟩ => by simp only [Int.ofNat_eq_natCast] at e; have : y = x := by omega
                              exact this ▸ hy, fun h => ⟨x, h, rfl⟩⟩
theorem b0M {l:List Nat} {x:Nat}:x ∈ cmpN l ↔ x ∈ l:=by
 rw [← b6U,b0E,csm13,b6U]
theorem c0H {l:List Nat} (h:(toI l).Pairwise (· < ·)):l.Pairwise (· < ·):=by
 unfold toI at h;rw [zQ3] at h;exact h.imp (fun h =>by simp only [Int.ofNat_eq_natCast] at h;omega)
theorem b2R (l:List Nat):(cmpN l).Pairwise (· < ·):=c0H (by rw [b0E];exact csr13 _)
theorem b6T {l:List Nat} (h:l.Pairwise (· < ·)):l.Nodup:=h.imp (fun h =>by omega)
theorem b9D {cls:Nat→Nat} {x m i j:Nat} {r:Nat→List Nat}:j ∈ rowIns cls x r m i ↔ j ∈ r i∨(cls x = i∧cls m = j∧j≠i):=by
 unfold rowIns;by_cases e:cls m = cls x
 ·rw [if_pos e];exact ⟨.inl,fun q =>q.elim id (fun q =>absurd (q.2.1.symm.trans (e.trans q.1)) q.2.2)⟩
 ·rw [if_neg e];by_cases e2:i = cls x
  ·subst e2;rw [Tarj.a4F,zY0,zD1];exact ⟨fun q =>q.imp id (fun q =>⟨rfl,q.symm,fun w =>e (by rw [← q,w])⟩),fun q =>q.imp id (fun q =>q.2.1.symm)⟩
  ·rw [Tarj.a2S _ _ e2];exact ⟨.inl,fun q =>q.elim id (fun q =>absurd q.1.symm e2)⟩
theorem b1B {cls:Nat→Nat} {x i j:Nat}:∀ (a:List Nat) (r:Nat→List Nat),j ∈ a.foldl (rowIns cls x) r i ↔ j ∈ r i∨(cls x = i∧∃ y,y ∈ a∧cls y = j∧j≠i)
 | [],r =>by simp
 | m :: a,r =>by
  rw [List.foldl_cons,b1B a,b9D];constructor
  ·rintro ((q | ⟨q1,q2,q3⟩) | ⟨q,y,hy,q2⟩)
   ·exact .inl q
   ·exact .inr ⟨q1,m,zU0,q2,q3⟩
   ·exact .inr ⟨q,y,zV0 _ hy,q2⟩
  ·rintro (q | ⟨q,y,hy,q2⟩)
   ·exact .inl (.inl q)
   ·rcases zS0.1 hy with rfl | hy
    ·exact .inl (.inr ⟨q,q2⟩)
    ·exact .inr ⟨q,y,hy,q2⟩
theorem a6J {cls:Nat→Nat} {adj:Nat→List Nat} {i j:Nat}:∀ n:Nat,j ∈ rowsAt cls adj n i ↔ j≠i∧∃ x,x < n∧cls x = i∧∃ y,y ∈ adj x∧cls y = j
 | 0 =>by
  constructor
  ·intro h;cases h
  ·rintro ⟨_,x,h,_⟩;exact absurd h (zZ2 _)
 | n + 1 =>by
  have e:rowsAt cls adj (n + 1) = (adj n).foldl (rowIns cls n) (rowsAt cls adj n):=by
   unfold rowsAt;rw [List.range_succ,List.foldl_append];rfl
  rw [e,b1B,a6J n];constructor
  ·rintro (⟨q,x,hx,w⟩ | ⟨q,y,hy,q2,q3⟩)
   ·exact ⟨q,x,by omega,w⟩
   ·exact ⟨q3,n,by omega,q,y,hy,q2⟩
  ·rintro ⟨q,x,hx,q2,y,hy,q3⟩;by_cases e:x = n
   ·subst e;exact .inr ⟨q2,y,hy,q3,q⟩
   ·exact .inl ⟨q,x,by omega,q2,y,hy,q3⟩
theorem b5M (k x:Nat):∀ (l:List Nat) (f:Nat→Nat),ofRow k l f x = if x ∈ l then k else f x
 | [],f =>by simp [ofRow]
 | a :: t,f =>by
  have ih:=b5M k x t (Tarj.upd f a k);have e:ofRow k (a :: t) f x = ofRow k t (Tarj.upd f a k) x:=rfl;rw [e,ih];by_cases h:x ∈ t
  ·rw [if_pos h,if_pos (zV0 _ h)]
  ·rw [if_neg h];by_cases e2:x = a
   ·subst e2;rw [Tarj.a4F,if_pos zU0]
   ·rw [Tarj.a2S _ _ e2,if_neg (fun w =>(zS0.1 w).elim e2 h)]
theorem b3S {L:List (List Nat)} (hd:L.Pairwise (fun l m =>∀ x,x ∈ l→x ∉ m)) {k x:Nat} (hk:k < L.length) (hx:x ∈ L[k]):∀ n,k < n→n≤L.length→ofAt L n x = k
 | 0,h,_ =>absurd h (zZ2 _)
 | n + 1,h,hn =>by
  have hg:L.getD n [] = L[n]'qD0:=by rw [zK0,zF0 qD0];rfl
  rw [b5N,b5M,hg];by_cases e:k = n
  ·subst e;rw [if_pos hx]
  ·have:=(List.pairwise_iff_getElem.1 hd) k n hk qD0 qD0 x hx;rw [if_neg this];exact b3S hd hk hx n qD0 qD0
section
variable {adj:Nat→List Nat} {N:Nat}
def rowK (adj:Nat→List Nat) (N:Nat) (cls:Nat→Nat) (k:Nat):List Nat:=cmpN (rowsAt cls adj N k)
def rowsK (adj:Nat→List Nat) (N:Nat) (cls:Nat→Nat) (K:Nat):List (List Int):=(List.range K).map fun i =>toI (rowK adj N cls i)
def turnK (adj:Nat→List Nat) (N:Nat) (cls:Nat→Nat) (K k:Nat):List Nat:=(List.range K).filter fun i =>decide (k ∈ rowK adj N cls i)
theorem a5T (adj:Nat→List Nat) (N:Nat) (cls:Nat→Nat) (K:Nat):(rowsK adj N cls K).length = K:=by unfold rowsK;simp
theorem b1A {cls:Nat→Nat} {K k:Nat} (h:k < K):(rowsK adj N cls K).getD k [] = toI (rowK adj N cls k):=by
 unfold rowsK;rw [zK0,List.getElem?_map,List.getElem?_range h];rfl
theorem kh_ok (hN:∀ x,x < N→∀ y,y ∈ adj x→y < N) {L:List (List Nat)} (hL:L = knotsF adj N) {K:Nat} (hK:K = L.length):KH adj N K (ofAt L K) (lowAt L K) (rowK adj N (ofAt L K)) (turnK adj N (ofAt L K) K):=by
 obtain ⟨k1,k2,k3⟩:=knots_ok hN;rw [← hL] at k1 k2 k3;have inK:∀ x,x < N→∃ hk:ofAt L K x < L.length,x ∈ L[ofAt L K x]:=fun x hx =>by
  obtain ⟨l,hl,hxl⟩:=(k3 x).2 hx;obtain ⟨k,hk,rfl⟩:=List.getElem_of_mem hl;have:=b3S k2 hk hxl K qD0 qD0;refine ⟨by omega,?_⟩;simp only [this];exact hxl
 have atK:∀ k (hk:k < L.length) x,x ∈ L[k]→x < N∧ofAt L K x = k:=fun k hk x hx =>⟨(k3 x).1 ⟨_,zE1 hk,hx⟩,b3S k2 hk hx K qD0 qD0⟩
 have low:∀ k (hk:k < L.length),∃ hp:0 < L[k].length,lowAt L K k = L[k][0]:=fun k hk =>by
  have hp:=List.length_pos_iff.2 (k1 _ (zE1 hk)).1;refine ⟨hp,?_⟩;unfold lowAt;rw [if_pos qD0,zK0 (l:=L),zF0 hk,zS2,zK0,zF0 hp];rfl
 have cl:∀ x,x < N→ofAt L K x < K:=fun x hx =>by obtain ⟨h,_⟩:=inK x hx;omega
 refine ⟨hN,cl,fun x y hx hy =>?_,fun k hk =>?_,fun x hx =>?_,fun k hk j =>?_,fun k hk =>b6T (b2R _),fun k hk j =>?_,fun k hk =>(List.nodup_range).filter _⟩
 ·obtain ⟨hk,hxk⟩:=inK x hx;have hkn:=(k1 _ (zE1 hk)).2.2 x hxk y;constructor
  ·intro e;obtain ⟨hk2,hyk⟩:=inK y hy;simp only [← e] at hyk;exact hkn.1 hyk
  ·intro s;exact (atK _ hk y (hkn.2 s)).2.symm
 ·obtain ⟨hp,e⟩:=low k qD0;rw [e];exact atK k qD0 _ (zE1 hp)
 ·obtain ⟨hk,hxk⟩:=inK x hx;obtain ⟨hp,e⟩:=low _ hk;rw [e];obtain ⟨i,hi,hxi⟩:=List.getElem_of_mem hxk;have hs:=(k1 _ (zE1 hk)).2.1;rcases zS1 i with q | q
  ·subst q;rw [hxi];exact zM0 _
  ·have:=(List.pairwise_iff_getElem.1 hs) 0 i hp hi q;rw [hxi] at this;exact this
 ·unfold rowK;rw [b0M,a6J]
 ·unfold turnK;rw [zR1,zZ0,zW1]
theorem c0Y {cls:Nat→Nat} {K k:Nat} (hN:∀ x,x < N→∀ y,y ∈ adj x→y < N) (hc:∀ x,x < N→cls x < K) {j:Nat} (h:j ∈ rowK adj N cls k):j < K:=by
 unfold rowK at h;rw [b0M,a6J] at h;obtain ⟨_,x,hx,_,y,hy,e⟩:=h;rw [← e];exact hc y (hN x hx y hy)
theorem b4Y {cls:Nat→Nat} {K:Nat} (hN:∀ x,x < N→∀ y,y ∈ adj x→y < N) (hc:∀ x,x < N→cls x < K) (hK:K≤1000):mayB (rowsK adj N cls K) = true:=by
 refine c2F (by rw [a5T];exact hK) (fun v hv =>?_) (fun v hv m hm =>?_)
 ·rw [a5T] at hv;rw [b1A hv];unfold rowK;rw [b0E];exact csr13 _
 ·rw [a5T] at hv ⊢;rw [b1A hv] at hm;obtain ⟨j,hj,rfl⟩:=zG2.1 hm;have:=c0Y hN hc hj;simp only [Int.ofNat_eq_natCast];omega
theorem turnK_eq {cls:Nat→Nat} {K:Nat} (hN:∀ x,x < N→∀ y,y ∈ adj x→y < N) (hc:∀ x,x < N→cls x < K) (hK:K≤1000):turnF (rowsK adj N cls K) = (List.range K).map fun k =>toI (turnK adj N cls K k):=by
 unfold turnF;rw [if_pos (b4Y hN hc hK),a5T];apply List.map_congr_left;intro t _;unfold col turnK toI
 congr 1
 apply List.filter_congr;intro i hi;rw [show (rowsK adj N cls K).getD i [] = toI (rowK adj N cls i) from b1A (zZ0.1 hi)];exact decide_eq_decide.2 b6U
end
open Go.Lib
def fnAt (fs:List S34) (i:Nat):S34:=a0S fs (i:Int)
def wrA (fs:List S34) (num:Nat→Nat) (i:Nat):Nat→List ByteArray:=(List.range i).foldl (fun r x =>Tarj.upd r (num x) (unionF (r (num x)) (ownF (fnAt fs x)))) (fun _ =>[])
theorem b0D (fs:List S34) (num:Nat→Nat) (i:Nat):wrA fs num (i + 1) = Tarj.upd (wrA fs num i) (num i) (unionF (wrA fs num i (num i)) (ownF (fnAt fs i))):=by
 unfold wrA;rw [List.range_succ,List.foldl_append];rfl
def wrRow (k:Nat) (row:List Nat) (r:Nat→List ByteArray):Nat→List ByteArray:=row.foldl (fun r m =>Tarj.upd r k (unionF (r k) (r m))) r
theorem b8T (k:Nat) (row:List Nat) (j:Nat) (hj:j < row.length) (r:Nat→List ByteArray):wrRow k (row.take (j + 1)) r = Tarj.upd (wrRow k (row.take j) r) k (unionF (wrRow k (row.take j) r k) (wrRow k (row.take j) r row[j])):=by
 unfold wrRow;rw [zW0 hj,List.foldl_append];rfl
def wrB (adj:Nat→List Nat) (k:Nat) (r:Nat→List ByteArray):Nat→List ByteArray:=(List.range k).foldl (fun r i =>wrRow i (adj i) r) r
theorem b0C (adj:Nat→List Nat) (k:Nat) (r:Nat→List ByteArray):wrB adj (k + 1) r = wrRow k (adj k) (wrB adj k r):=by
 unfold wrB;rw [List.range_succ,List.foldl_append];rfl
def allOwn (fs:List S34):List ByteArray:=fs.flatMap fun f =>(flat f.f2).flatMap ownG
structure SmG (fs:List S34):Prop where
 n:fs.length≤1000
 b:∀ f,f ∈ fs→(flat f.f2).length≤1050000
 u:(allOwn fs).length≤1050000
def InU (U:List ByteArray) (r:Nat→List ByteArray):Prop:=∀ k,(r k).Nodup∧∀ x,x ∈ r k→x ∈ U
section
variable {fs:List S34} {U:List ByteArray} {r:Nat→List ByteArray}
theorem InU.len (h:InU U r) (k:Nat):(r k).length≤U.length:=a9I _ _ (h k).1 (h k).2
theorem InU.put (h:InU U r) (k:Nat) {a b:List ByteArray} (ha:∀ x,x ∈ a→x ∈ U) (hb:∀ x,x ∈ b→x ∈ U):InU U (Tarj.upd r k (unionF a b)):=fun i =>by
 simp only [Tarj.upd]
 split
 ·exact ⟨(a4U a b).nodup,fun x hx =>(a6G.1 hx).elim (ha x) (hb x)⟩
 ·exact h i
theorem b7Z {f:S34} {x:ByteArray}:x ∈ ownF f ↔ x ∈ (flat f.f2).flatMap ownG:=by
 unfold ownF;rw [a6G];simp
theorem b8L {i:Nat} (h:i < fs.length):fnAt fs i ∈ fs:=by
 unfold fnAt a0S;rw [zP0,zK0,zF0 h];exact zE1 h
theorem b1G {i:Nat} (h:i < fs.length):∀ x,x ∈ ownF (fnAt fs i)→x ∈ allOwn fs:=fun x hx =>List.mem_flatMap.2 ⟨_,b8L h,b7Z.1 hx⟩
theorem a9K (f:S34):RisB (ownF f):=a4U _ _
theorem c0D (num:Nat→Nat):∀ i,i≤fs.length→InU (allOwn fs) (wrA fs num i)
 | 0,_ =>fun k =>⟨List.nodup_nil,fun x hx =>by cases hx⟩
 | i + 1,h =>by
  rw [b0D];have ih:=c0D num i qD0;exact ih.put _ (ih _).2 (b1G qD0)
theorem b2Y (k:Nat):∀ (row:List Nat) (r:Nat→List ByteArray),InU U r→InU U (wrRow k row r)
 | [],r,h =>h
 | m :: t,r,h =>b2Y k t _ (h.put k (h k).2 (h m).2)
theorem c0B (adj:Nat→List Nat) (h:InU U r):∀ k,InU U (wrB adj k r)
 | 0 =>h
 | k + 1 =>by rw [b0C];exact b2Y k _ _ (c0B adj h k)
end
noncomputable def wrF (fs:List S34):Nat→List ByteArray:=wrB (rowK (adjF (callsF fs)) (callsF fs).length (numN (callsF fs))) (manyN (callsF fs)) (wrA fs (numN (callsF fs)) fs.length)
noncomputable def sigsF (fs:List S34):List S42:=(List.range fs.length).map fun i =>⟨(fnAt fs i).f0,(((fnAt fs i).f1.length:Nat):Int),wrF fs (numN (callsF fs) i)⟩
structure WR (B bw K:Nat) (v:Nat→Value) (r:Nat→List ByteArray) (W0 Ws W:World):Prop where
 o:W.heap[bw]? = some (.cells (vals K v) 25 (0,0))
 r:∀ i,i < K→∃ A c,v i = .slice A (r i).length c∧Kd.F Kd.string W (fun q =>q≠bw) A (r i).length (r i)
 fz:∀ k,k < bw→W.heap[k]? = Ws.heap[k]?
 be:Below B W0 W
 bb:B≤bw
section
variable {B bw K:Nat} {v:Nat→Value} {r:Nat→List ByteArray} {W0 Ws W W1:World}
theorem WR.below (h:WR B bw K v r W0 Ws W) (hb:Below W.heap.size W W1):WR B bw K v r W0 Ws W1:=by
 have hl:=a1J h.o;have hbb:=h.bb;refine ⟨a0P h.o hb,fun i hi =>?_,fun k hk =>by rw [hb.block k qD0];exact h.fz k hk,h.be.trans (hb.mono qD0),h.bb⟩;obtain ⟨A,c,e,hF⟩:=h.r i hi;exact ⟨A,c,e,Kd.a1Z hF hb⟩
theorem WR.put (h:WR B bw K v r W0 Ws W) {base:Nat} (hbase:bw < base) {i:Nat} (hi:i < K) {v1:Value} {xs:List ByteArray} (hr:Kd.R Kd.string 9 W base (fun _ =>True) v1 xs):WR B bw K (Tarj.upd v i v1) (Tarj.upd r i xs) W0 Ws (W.setCell ⟨bw,i,none⟩ v1):=by
 refine ⟨a3G h.o i _ (b7N _ _ _ _),fun j hj =>?_,fun k hk =>by rw [Below.heap_setCell _ _ _ _ (show k≠bw by omega)];exact h.fz k hk,h.be.setCell (p:=⟨bw,i,none⟩) h.bb _,h.bb⟩;by_cases e:j = i
 ·subst e;simp only [Tarj.upd,if_true];obtain ⟨A,c,e1⟩:=Kd.a1Y hr;refine ⟨A,c,e1,?_⟩;have hr2:Kd.R Kd.string 9 W base (fun q =>q≠bw) v1 xs:=Kd.a6P rfl hr (fun k hk =>by have:=a2M (Kd.a3A hr) k hk;omega);rw [e1] at hr2;exact Kd.b0B (p:=⟨bw,j,none⟩) (Kd.N_F (Kd.R_N hr2)) (fun _ hq =>hq) _
 ·simp only [Tarj.upd,if_neg e];obtain ⟨A,c,e1,hF⟩:=h.r j hj;exact ⟨A,c,e1,Kd.b0B (p:=⟨bw,i,none⟩) hF (fun _ hq =>hq) _⟩
theorem WR.start (hB:B≤W.heap.size) (hbe:Below B W0 W):WR B W.heap.size K (fun _ =>.slice none 0 0) (fun _ =>[]) W0 (W.alloc (.cells (vals K (fun _ =>.slice none 0 0)) 25)) (W.alloc (.cells (vals K (fun _ =>.slice none 0 0)) 25)) :=
 ⟨World.alloc_heap_new W _,fun i hi =>⟨none,0,rfl,Kd.F_nil _ _ _⟩,fun _ _ =>rfl,hbe.trans ((a0C (zL0 W.heap.size W) _).mono hB),hB⟩
theorem WR.cell (h:WR B bw K v r W0 Ws W) {i:Nat} (hi:i < K):∃ A c,W.cell? ⟨bw,i,none⟩ = some (.slice A (r i).length c)∧W.frozen? ⟨bw,i,none⟩ = false∧Kd.F Kd.string W (fun q =>q≠bw) A (r i).length (r i):=by
 obtain ⟨A,c,e,hF⟩:=h.r i hi;refine ⟨A,c,?_,a0Q h.o i,hF⟩;rw [← e];exact (a0L h.o i).trans (a7U _ hi)
end
theorem infoLS:(Tryz.prog.info? 25).map (fun i =>(i.zero,i.size,i.bytes)) = some (some (.slice none 0 0),1,24):=by kernel_rfl
theorem makeLS (K:Nat) (hK:K≤1000) (W:World):(Instr.makeSlice 56 (.int .i64 (K:Int)) (.int .i64 (K:Int))).run Tryz.prog W = .ok (.slice (some ⟨W.heap.size,0,none⟩) K K) (W.alloc (.cells (vals K (fun _ =>.slice none 0 0)) 25)):=by
 have h:=a4Z (P:=Tryz.prog) 56 25 (.slice none 0 0) 24 Tryz.underlying56 infoLS rfl qF0 (K:Int) (zJ0 K) qU2 W;rw [zP0] at h;rw [h]
 congr 3
 unfold madeCells vals;apply Array.ext_getElem?;intro j;by_cases hj:j < K
 ·simp [hj,Nat.mod_one]
 ·simp [hj]
theorem b5W (nm:ByteArray):∀ (l:List S34) (i:Nat),firstIx nm l i < (i:Int) + l.length:=by
 intro l
 induction l with
 | nil =>intro i;simp only [firstIx,zN1];omega
 | cons f r ih =>
  intro i;have:=ih (i + 1);simp only [firstIx,zX0]
  split
  ·omega
  ·omega
theorem b9S (fs:List S34) (L:List S65) (x:Int) (h:x ∈ coll fs L):0≤x∧x < fs.length:=by
 unfold coll at h;rw [List.mem_flatMap] at h;obtain ⟨s,_,h⟩:=h;unfold calledBy at h
 split at h
 ·rename_i hc
  simp at h;have:=b5W s.f3 fs 0;have h2:x = funIx fs s.f3:=h
  have h3:=hc.2;rw [h2];refine ⟨h3,?_⟩;unfold funIx at *
  omega
 ·cases h
theorem a9B {fs:List S34} (hn:fs.length≤1000):mayB (callsF fs) = true:=by
 have hl:(callsF fs).length = fs.length:=by unfold callsF;simp
 have hg:∀ v,v < fs.length→∃ f,(callsF fs).getD v [] = callsOf fs f:=fun v hv =>by
  unfold callsF;rw [zK0,List.getElem?_map,zF0 hv];exact ⟨_,rfl⟩
 refine c2F (by rw [hl];exact hn) (fun v hv =>?_) (fun v hv m hm =>?_)
 ·obtain ⟨f,e⟩:=hg v qD0;rw [e];unfold callsOf
  split
  ·unfold allIx;rw [zQ3];exact (zN3).imp (fun h =>by simp only [Int.ofNat_eq_natCast];omega)
  ·exact csr13 _
 ·obtain ⟨f,e⟩:=hg v qD0;rw [e] at hm;rw [hl];unfold callsOf at hm
  split at hm
  ·unfold allIx at hm;obtain ⟨y,hy,rfl⟩:=zG2.1 hm;have:=zZ0.1 hy;simp only [Int.ofNat_eq_natCast];omega
  ·exact b9S fs _ m ((csm13 _ _).1 hm)
section
variable {fs:List S34} {num:Nat→Nat}
theorem b6J {x:ByteArray} {k:Nat}:∀ i:Nat,x ∈ wrA fs num i k ↔ ∃ j,j < i∧num j = k∧x ∈ ownF (fnAt fs j)
 | 0 =>⟨fun h =>(by cases h),fun ⟨j,h,_⟩ =>absurd h (zZ2 j)⟩
 | i + 1 =>by
  have ih:=b6J (x:=x) (k:=k) i;rw [b0D];simp only [Tarj.upd];by_cases e:k = num i
  ·rw [if_pos e,a6G,← e,ih];constructor
   ·rintro (⟨j,a,b,c⟩ | h)
    ·exact ⟨j,by omega,b,c⟩
    ·exact ⟨i,by omega,e.symm,h⟩
   ·rintro ⟨j,a,b,c⟩;rcases zV2 j i with q | q
    ·exact .inl ⟨j,q,b,c⟩
    ·obtain rfl:j = i:=by omega
     exact .inr c
  ·rw [if_neg e,ih];constructor
   ·rintro ⟨j,a,b,c⟩;exact ⟨j,by omega,b,c⟩
   ·rintro ⟨j,a,b,c⟩;refine ⟨j,?_,b,c⟩;rcases zV2 j i with q | q
    ·exact q
    ·obtain rfl:j = i:=by omega
     exact absurd b.symm e
theorem c0C (k:Nat):∀ i:Nat,RisB (wrA fs num i k)
 | 0 =>RisB.nil
 | i + 1 =>by
  rw [b0D];simp only [Tarj.upd]
  split
  ·exact a4U _ _
  ·exact c0C k i
theorem b4L {k j:Nat}:∀ (row:List Nat) (r:Nat→List ByteArray),(∀ i,RisB (r i))→RisB (wrRow k row r j)
 | [],r,h =>h j
 | m :: t,r,h =>b4L t (Tarj.upd r k (unionF (r k) (r m))) (fun i =>by
   simp only [Tarj.upd]
   split
   ·exact a4U _ _
   ·exact h i)
theorem b9Z {adj:Nat→List Nat} {r:Nat→List ByteArray} (h:∀ i,RisB (r i)):∀ k i,RisB (wrB adj k r i)
 | 0,i =>h i
 | k + 1,i =>by rw [b0C];exact b4L _ _ (b9Z h k)
theorem a8D {k j:Nat} (e:j≠k):∀ (row:List Nat) (r:Nat→List ByteArray),wrRow k row r j = r j
 | [],r =>rfl
 | m :: t,r =>(a8D e t (Tarj.upd r k (unionF (r k) (r m)))).trans (by simp only [Tarj.upd,if_neg e])
theorem b4M {k:Nat} {x:ByteArray}:∀ (row:List Nat) (r:Nat→List ByteArray),k ∉ row→(x ∈ wrRow k row r k ↔ x ∈ r k∨∃ m,m ∈ row∧x ∈ r m)
 | [],r,_ =>by simp [wrRow]
 | m :: t,r,hk =>by
  have h1:m≠k:=fun e =>hk (e ▸ zU0)
  have h2:k ∉ t:=fun e =>hk (zV0 _ e)
  have ih:=b4M (x:=x) t (Tarj.upd r k (unionF (r k) (r m))) h2;refine Iff.trans ih ?_;simp only [Tarj.upd,if_true,a6G];constructor
  ·rintro ((h | h) | ⟨q,hq,h⟩)
   ·exact .inl h
   ·exact .inr ⟨m,zU0,h⟩
   ·rw [if_neg (fun e:q = k =>h2 (e ▸ hq))] at h;exact .inr ⟨q,zV0 _ hq,h⟩
  ·rintro (h | ⟨q,hq,h⟩)
   ·exact .inl (.inl h)
   ·rcases zS0.1 hq with rfl | hq
    ·exact .inl (.inr h)
    ·refine .inr ⟨q,hq,?_⟩;rw [if_neg (fun e:q = k =>h2 (e ▸ hq))];exact h
end
theorem rch_out {adj:Nat→List Nat} {num:Nat→Nat} {k:Nat} {y z:Nat} (r:Rch adj y z):num y = k→num z≠k→∃ a b,Rch adj y a∧num a = k∧b ∈ adj a∧num b≠k∧Rch adj b z:=by
 induction r with
 | refl x =>intro h1 h2;exact absurd h1 h2
 | @step x y z h r ih =>
  intro h1 h2;by_cases e:num y = k
  ·obtain ⟨a,b,q1,q2,q3,q4,q5⟩:=ih e h2;exact ⟨a,b,.step h q1,q2,q3,q4,q5⟩
  ·exact ⟨x,y,.refl _,h1,h,e,r⟩
section
variable {adj:Nat→List Nat} {N M:Nat} {num:Nat→Nat} {r0:Nat→List ByteArray}
theorem b3J {k j:Nat}:j ∈ rowK adj N num k ↔ j≠k∧∃ x,x < N∧num x = k∧∃ y,y ∈ adj x∧num y = j:=by
 unfold rowK;rw [b0M,a6J]
theorem c0A (hN:∀ x,x < N→∀ y,y ∈ adj x→y < N) (h:Nmb adj N M num) {x:ByteArray}:∀ K:Nat,K≤M →
  (∀ i,K≤i→wrB (rowK adj N num) K r0 i = r0 i)∧∀ y,y < N→num y < K→(x ∈ wrB (rowK adj N num) K r0 (num y) ↔ ∃ z,Rch adj y z∧x ∈ r0 (num z))
 | 0,_ =>⟨fun _ _ =>rfl,fun _ _ h =>absurd h (zZ2 _)⟩
 | K + 1,hK =>by
  obtain ⟨i1,i2⟩:=c0A hN h (x:=x) K qD0;rw [b0C];refine ⟨fun i hi =>by rw [a8D qD0];exact i1 i qD0,fun y hy hyK =>?_⟩;by_cases e:num y = K
  ·rw [e,b4M _ _ (fun hm =>(b3J.1 hm).1 rfl),i1 K (zM0 _)];constructor
   ·rintro (h1 | ⟨m,hm,h1⟩)
    ·exact ⟨y,.refl _,by rw [e];exact h1⟩
    ·obtain ⟨m1,a,a1,a2,b,b1,b2⟩:=b3J.1 hm;have hb:=hN a a1 b b1;have hd:=h.down hN a1 (.one b1);rw [← b2] at h1;obtain ⟨z,z1,z2⟩:=(i2 b hb qD0).1 h1;have s:=(h.cls y a hy a1).1 qD0;exact ⟨z,s.1.trans (.step b1 z1),z2⟩
   ·rintro ⟨z,z1,z2⟩;by_cases ez:num z = K
    ·rw [ez] at z2;exact .inl z2
    ·obtain ⟨a,b,q1,q2,q3,q4,q5⟩:=rch_out z1 e ez;have ha:=q1.lt hN hy;have hb:=hN a ha b q3;have hd:=h.down hN ha (.one q3);exact .inr ⟨num b,b3J.2 ⟨q4,a,ha,q2,b,q3,rfl⟩,(i2 b hb qD0).2 ⟨z,q5,z2⟩⟩
  ·rw [a8D e];exact i2 y hy qD0
end
section
variable {fs:List S34}
theorem b6C (fs:List S34):(callsF fs).length = fs.length:=by unfold callsF;simp
theorem b6I (hn:fs.length≤1000) {i:Nat} (hi:i < fs.length) {x:ByteArray}:x ∈ wrF fs (numN (callsF fs) i) ↔ ∃ z,z < fs.length∧Rch (adjF (callsF fs)) i z∧x ∈ ownF (fnAt fs z):=by
 have hm:=a9B hn;have h:=a7O hm;have hN:=(a6E hm).adj;have hl:=b6C fs;have hi':i < (callsF fs).length:=by omega
 unfold wrF;rw [(c0A hN h (x:=x) (manyN (callsF fs)) (zM0 _)).2 i hi' (h.lt i hi')];constructor
 ·rintro ⟨z,z1,z2⟩;have hz:=z1.lt hN hi';obtain ⟨j,j1,j2,j3⟩:=(b6J _).1 z2;have s:=(h.cls j z qD0 hz).1 j2;exact ⟨j,j1,z1.trans s.2,j3⟩
 ·rintro ⟨z,z0,z1,z2⟩;exact ⟨z,z1,(b6J _).2 ⟨z,z0,rfl,z2⟩⟩
theorem b6H (k:Nat):RisB (wrF fs k):=by
 unfold wrF;exact b9Z (fun i =>c0C i _) _ k
theorem a8S (fs:List S34):(sigsF fs).length = fs.length:=by unfold sigsF;simp
theorem b4W {i:Nat} (hi:i < fs.length):(sigsF fs)[i]? = some ⟨(fnAt fs i).f0,(((fnAt fs i).f1.length:Nat):Int),wrF fs (numN (callsF fs) i)⟩:=by
 unfold sigsF;rw [List.getElem?_map,List.getElem?_range hi];rfl
end
theorem c1A:∀ (a b:List Int),a.Pairwise (· < ·)→b.Pairwise (· < ·)→(∀ x,x ∈ a ↔ x ∈ b)→a = b:=by
 intro a
 induction a with
 | nil =>
  intro b _ _ h;cases b with
  | nil =>rfl
  | cons y t =>exact absurd ((h y).2 qI0) qI0
 | cons x r ih =>
  intro b ha hb h;cases b with
  | nil =>exact absurd ((h x).1 qI0) qI0
  | cons y t =>
   rw [zR2] at ha hb;have exy:x = y:=by
    rcases zS0.1 ((h x).1 qI0) with e | e
    ·exact e
    ·rcases zS0.1 ((h y).2 qI0) with e2 | e2
     ·exact e2.symm
     ·have h1:=hb.1 x e;have h2:=ha.1 y e2;omega
   subst exy
   congr 1
   refine ih t ha.2 hb.2 (fun z =>⟨fun hz =>?_,fun hz =>?_⟩)
   ·rcases zS0.1 ((h z).1 (zV0 _ hz)) with e | e
    ·subst e;have:=ha.1 z hz;omega
    ·exact e
   ·rcases zS0.1 ((h z).2 (zV0 _ hz)) with e | e
    ·subst e;have:=hb.1 z hz;omega
    ·exact e
theorem c1I (fs:List S34) (hl:LowP fs) (i:Nat) (hi:i < fs.length) (g:Int):Ev (fun k =>r12_calls.f fs (i:Int) g) (leads fs (flat (a0S fs (i:Int)).f2) g):=by
 unfold r12_calls.f;rw [if_pos ⟨hl,zJ0 i,by omega⟩];exact Ev.const _
def rowR (fs:List S34) (f:S34) (n:Nat):List Int:=((List.range n).filter (fun (k:Nat) =>leads fs (flat f.f2) (k:Int))).map Int.ofNat
theorem b7R (fs:List S34) (f:S34) (n:Nat):(rowR fs f n).length≤n:=by
 unfold rowR;rw [zP1];exact zE0 (zD3 _ _) qI0
theorem c1K (fs:List S34) (hl:LowP fs):Ev (fun k =>r12_Calls.f k fs) (fs.map fun f =>rowR fs f fs.length):=by
 have hlen:=hl.1;have row:∀ (i:Nat) (hi:i < fs.length) (out:List (List Int)) (ho:out.length≤2000000) (res:List (List Int)),Ev (fun k =>r12_Calls.l0 k (out ++ [rowR fs (a0S fs (i:Int)) fs.length]) ((i + 1:Nat):Int) fs) res →
   ∀ d j:Nat,j + d = fs.length→Ev (fun k =>r12_Calls.l1 k out (i:Int) (rowR fs (a0S fs (i:Int)) j) (j:Int) fs) res:=by
  intro i hi out ho res h d
  induction d with
  | zero =>
   intro j hj;have d1:¬ (j:Int) < (fs.length:Int):=by omega
   have d2:out.length < 5864062014805:=by omega
   refine Ev.step ?_;simp only [r12_Calls.l1,if_neg d1,if_pos d2];rw [pzB i qD0,show j = fs.length by omega];exact h
  | succ d ihd =>
   intro j hj;have d1:(j:Int) < (fs.length:Int):=by omega
   have d2:(rowR fs (a0S fs (i:Int)) j).length < 17592186044416:=by have:=b7R fs (a0S fs (i:Int)) j;omega
   have e:=ihd (j + 1) qD0;refine Ev.step ?_;simp only [r12_Calls.l1,if_pos d1];refine Ev.bind (c1I fs hl i hi (j:Int)) ?_;have hs:rowR fs (a0S fs (i:Int)) (j + 1) = rowR fs (a0S fs (i:Int)) j ++ (if leads fs (flat (a0S fs (i:Int)).f2) (j:Int) = true then [(j:Int)] else []):=by
    unfold rowR;rw [List.range_succ,List.filter_append,List.map_append]
    congr 1
    by_cases hb:leads fs (flat (a0S fs (i:Int)).f2) (j:Int) = true <;> simp [hb]
   rw [hs] at e;by_cases hb:leads fs (flat (a0S fs (i:Int)).f2) (j:Int) = true
   ·rw [if_pos hb] at e;simp only [if_pos hb,if_pos d2];rw [pzB j qD0];exact e
   ·rw [if_neg hb,zU1] at e;simp only [if_neg hb];rw [pzB j qD0];exact e
 have main:∀ d i:Nat,i + d = fs.length→Ev (fun k =>r12_Calls.l0 k ((fs.take i).map fun f =>rowR fs f fs.length) (i:Int) fs) (fs.map fun f =>rowR fs f fs.length):=by
  intro d
  induction d with
  | zero =>
   intro i hi;have c:¬ (i:Int) < (fs.length:Int):=by omega
   refine Ev.step ?_;simp only [r12_Calls.l0,if_neg c];rw [zX2 qD0];exact Ev.const _
  | succ d ihd =>
   intro i hi;have hil:i < fs.length:=by omega
   have c:(i:Int) < (fs.length:Int):=by omega
   have e:=ihd (i + 1) qD0;rw [zW0 hil,List.map_append,zH2,zT2,← b6O hil] at e;refine Ev.step ?_;simp only [r12_Calls.l0,if_pos c];have:=row i hil _ qG1 _ e fs.length 0 qD0;simpa [rowR] using this
 have:=main fs.length 0 qD0;simp only [r12_Calls.f];simpa using this
theorem srt_mem (xs:List Int) (x:Int):x ∈ srt xs ↔ x ∈ xs:=(List.mergeSort_perm xs _).mem_iff
theorem c0K (xs:List Int) (i j:Nat) (hi:i < (srt xs).length) (hj:j < (srt xs).length) (h:i≤j):(srt xs)[i]≤(srt xs)[j]:=by
 have hp:(srt xs).Pairwise (fun a b =>decide (a≤b) = true):=List.pairwise_mergeSort (fun a b c h1 h2 =>by simp only [zW1] at *;omega) (fun a b =>by simp only [zY2,zW1];omega) xs;by_cases e:i = j
 ·subst e;omega
 ·have:=(List.pairwise_iff_getElem.1 hp) i j hi hj qD0;simpa using this
theorem cs_rises (xs:List Int):(Lib.compact (srt xs)).Pairwise (· < ·) :=
 List.Pairwise.imp (fun {a b} h =>by have:=h.1;have:=h.2;omega) (a6X (srt xs) (fun a b =>a≤b) (fun a b h1 h2 =>by omega) (fun i j hi hj h =>c0K xs i j hi hj h))
theorem cs_mem (xs:List Int) (x:Int):x ∈ Lib.compact (srt xs) ↔ x ∈ xs:=(a8L _ _).trans (srt_mem _ _)
theorem b9Q (nm:ByteArray):∀ (l:List S34) (i:Nat),firstIx nm l i < (i:Int) + l.length:=by
 intro l
 induction l with
 | nil =>intro i;simp only [firstIx,zN1];omega
 | cons f r ih =>
  intro i;have:=ih (i + 1);simp only [firstIx,zX0]
  split
  ·omega
  ·omega
theorem funIx_lt (fs:List S34) (nm:ByteArray):funIx fs nm < fs.length:=by have:=b9Q nm fs 0;unfold funIx;omega
theorem coll_mem (fs:List S34) (L:List S65) (x:Int):x ∈ coll fs L ↔ ∃ s ∈ L,s.f0 = 5∧0≤funIx fs s.f3∧funIx fs s.f3 = x:=by
 unfold coll;rw [List.mem_flatMap];constructor
 ·rintro ⟨s,hs,h⟩;unfold calledBy at h
  split at h
  ·rename_i hc;simp at h;exact ⟨s,hs,hc.1,hc.2,h.symm⟩
  ·simp at h
 ·rintro ⟨s,hs,h5,h0,rfl⟩;exact ⟨s,hs,by unfold calledBy;rw [if_pos ⟨h5,h0⟩];simp⟩
theorem b9C (fs:List S34) (f:S34) (n:Nat):(rowR fs f n).Pairwise (· < ·):=by
 unfold rowR;rw [zQ3];exact List.Pairwise.imp (fun {a b} h =>zG1.2 h) (List.Pairwise.filter _ zN3)
theorem rowR_mem (fs:List S34) (f:S34) (n:Nat) (x:Int):x ∈ rowR fs f n ↔ 0≤x∧x < n∧leads fs (flat f.f2) x = true:=by
 unfold rowR;simp only [zG2,zR1,zZ0];constructor
 ·rintro ⟨a,⟨h1,h2⟩,rfl⟩;exact ⟨by simp,by simpa using h1,h2⟩
 ·rintro ⟨h0,h1,h2⟩;exact ⟨x.toNat,⟨by omega,by rw [zV3 h0];exact h2⟩,by simp;omega⟩
theorem b7C (fs:List S34) (f:S34):callsOf fs f = rowR fs f fs.length:=by
 unfold callsOf;by_cases ha:applies (flat f.f2) = true
 ·rw [if_pos ha];unfold allIx rowR
  congr 1
  symm
  rw [List.filter_eq_self];intro k _;unfold leads applies at *;obtain ⟨s,hs,h6⟩:=zL3.1 ha;exact zL3.2 ⟨s,hs,by rw [h6];rfl⟩
 ·rw [if_neg ha];refine c1A _ _ (cs_rises _) (b9C _ _ _) (fun x =>?_);rw [cs_mem,coll_mem,rowR_mem];constructor
  ·rintro ⟨s,hs,h5,h0,rfl⟩;refine ⟨h0,funIx_lt _ _,?_⟩;unfold leads;exact zL3.2 ⟨s,hs,by simp [h5]⟩
  ·rintro ⟨h0,h1,h2⟩;unfold leads at h2;obtain ⟨s,hs,h⟩:=zL3.1 h2;simp only [zY2,zB1,beq_iff_eq] at h;rcases h with h | ⟨h5,h⟩
   ·exact absurd (by unfold applies;exact zL3.2 ⟨s,hs,by simp [h]⟩) ha
   ·exact ⟨s,hs,h5,by omega,h⟩
theorem b1R (fs:List S34):callsF fs = fs.map fun f =>rowR fs f fs.length:=by
 unfold callsF;exact List.map_congr_left fun f _ =>b7C fs f
theorem b9U (fs:List S34) (i:Nat) (h:i < fs.length):(callsF fs).getD i [] = rowR fs (a0S fs (i:Int)) fs.length:=by
 rw [b1R,zK0,List.getElem?_map,zF0 h,b6O h];rfl
theorem a4X (fs:List S34):(callsF fs).length = fs.length:=by unfold callsF;simp
theorem c3K (fs:List S34) (hl:fs.length≤1000):Sm (callsF fs):=by
 refine ⟨by rw [a4X];omega,fun i =>?_⟩;by_cases h:i < fs.length
 ·rw [b9U fs i h];have:=b7R fs (a0S fs (i:Int)) fs.length;omega
 ·rw [zK0,List.getElem?_eq_none (by rw [a4X];omega)];simp
theorem rmay_row (g:List (List Int)) (hs:Sm g) (i:Nat) (hi:i < g.length) (b:Bool) (h:Ev (fun k =>r12_May.l0 k g ((i + 1:Nat):Int)) b) :
  ∀ m j:Nat,j + m = (g.getD i []).length→Ev (fun k =>r12_May.l1 k g (i:Int) (j:Int)) (rowTail g.length (g.getD i []) m j && b):=by
 have hr:=hs.2 i;have hn:=hs.1;have c1:0≤(i:Int):=zJ0 i;have c2:(i:Int) < (g.length:Int):=zG1.2 hi;intro m
 induction m with
 | zero =>
  intro j hj;refine Ev.step ?_;have c3:¬ (j:Int) < ((g.getD i []).length:Int):=by omega
  simp only [r12_May.l1,if_pos c1,if_pos c2,rdLg,if_neg c3,pz i qD0,rowTail,Bool.true_and];exact h
 | succ m ih =>
  intro j hj;have e:=ih (j + 1) qD0;refine Ev.step ?_;have c3:(j:Int) < ((g.getD i []).length:Int):=by omega
  have c4:0≤(j:Int):=zJ0 j;simp only [r12_May.l1,if_pos c1,if_pos c2,rdLg,if_pos c3,if_pos c4,pz j qD0,rowTail,okAt];by_cases d1:rd (g.getD i []) (j:Int) < 0
  ·simp only [if_pos d1,zD0 d1,zJ2,Bool.false_and];exact Ev.const _
  ·by_cases d2:rd (g.getD i []) (j:Int) ≥ (g.length:Int)
   ·simp only [if_neg d1,zO0 d1,if_pos d2,zD0 d2,zJ2,Bool.not_false,Bool.false_and,Bool.and_false];exact Ev.const _
   ·cases j with
    | zero =>
     simp only [if_neg d1,zO0 d1,if_neg d2,zO0 d2,Bool.not_false,Bool.true_and,if_neg (show ¬ ((0:Nat):Int) > 0 by decide),decide_true,Bool.true_or];exact e
    | succ j' =>
     have c5:(((j' + 1:Nat)):Int) > 0:=by omega
     have c6:0≤((j':Nat):Int):=zJ0 j';have c7:((j':Nat):Int) < ((g.getD i []).length:Int):=by omega
     simp only [if_neg d1,zO0 d1,if_neg d2,zO0 d2,Bool.not_false,Bool.true_and,if_pos c5,pm j' qD0,if_pos c6,if_pos c7,Nat.add_sub_cancel,zO0 (show ¬ j' + 1 = 0 by omega),zU2];by_cases d3:rd (g.getD i []) (j':Int) ≥ rd (g.getD i []) (((j' + 1:Nat)):Int)
     ·simp only [if_pos d3,zD0 d3,zJ2,Bool.false_and];exact Ev.const _
     ·simp only [if_neg d3,zO0 d3,Bool.not_false,Bool.true_and];exact e
theorem c0Z (g:List (List Int)) (hs:Sm g):Ev (fun k =>r12_May.f k g) (mayB g):=by
 have main:∀ m i:Nat,i + m = g.length→Ev (fun k =>r12_May.l0 k g (i:Int)) (allTail g m i):=by
  intro m
  induction m with
  | zero =>
   intro i hi;refine Ev.step ?_;have c:¬ (i:Int) < (g.length:Int):=by omega
   simp only [r12_May.l0,if_neg c,allTail];exact Ev.const _
  | succ m ih =>
   intro i hi;refine Ev.step ?_;have c:(i:Int) < (g.length:Int):=by omega
   simp only [r12_May.l0,if_pos c,allTail];exact rmay_row g hs i qD0 _ (ih (i + 1) qD0) _ 0 qD0
 exact main g.length 0 qD0
def off (s:List Bool):Nat:=(s.filter (fun b =>!b)).length
theorem a8I {s:List Bool} {v:Nat}:rdOf false s (v:Int) = true ↔ On s v:=by
 unfold rdOf On;rw [zP0,zK0];cases s[v]? with
 | none =>simp
 | some b =>simp
structure RSt (g:List (List Int)) (n:Nat) (s0 s:List Bool) (more:Bool):Prop where
 len:s.length = g.length
 self:On s n
 rch:∀ v,On s v→GRch g n v
 le:off s≤off s0
 same:more = false→s = s0
 less:more = true→off s < off s0
theorem RSt.step {g:List (List Int)} {n:Nat} {s0 s:List Bool} {more:Bool} (h:RSt g n s0 s more) {i m:Nat} (hi:On s i) (hm:(m:Int) ∈ g.getD i []) (hN:m < g.length):RSt g n s0 (s.set m true) (more || !(rdOf false s (m:Int))):=by
 by_cases hon:On s m
 ·have e:s.set m true = s:=by
   apply zM2;intro k;rw [List.getElem?_set]
   split
   ·rename_i ek;subst ek
    unfold On at hon;rw [hon];simp [(List.getElem?_eq_some_iff.1 hon).1]
   ·rfl
  rw [e,a8I.2 hon];simpa using h
 ·have hf:s[m]? = some false:=by
   have hl:m < s.length:=by rw [h.len];exact hN
   rw [zF0 hl];cases hb:s[m] with
   | false =>rfl
   | true =>exact absurd (by unfold On;rw [zF0 hl,hb]) hon
  have ho:=c1V s m hf;have hle:=h.le;have hr:rdOf false s (m:Int) = false:=by
   cases hb:rdOf false s (m:Int) with
   | false =>rfl
   | true =>exact absurd (a8I.1 hb) hon
  have h1:off (s.set m true) < off s0:=by unfold off at *;omega
  rw [hr];refine ⟨by rw [zX1];exact h.len,b5J h.self,fun v hv =>?_,zZ1 h1,fun e =>by simp at e,fun _ =>h1⟩;rcases b5K hv with rfl | hv
  ·have:=GRch.step (h.rch i hi) hm;rwa [zP0] at this
  ·exact h.rch v hv
def Shut (g:List (List Int)) (s:List Bool) (i:Nat):Prop:=∀ v,v < i→On s v→∀ m ∈ g.getD v [],On s m.toNat
section
variable {g:List (List Int)} {n:Nat} {res:List Int} {x7:Int}
theorem rr_row (hs:Sm g) (hg:∀ v,v < g.length→∀ m ∈ g.getD v [],0≤m∧m < g.length) (s0:List Bool) (i:Nat) (hi:i < g.length)
  (hnext:∀ s more,RSt g n s0 s more→(more = false→Shut g s (i + 1))→Ev (fun k =>r12_Reach.l2 k g s x7 more ((i + 1:Nat):Int)) res) :
  ∀ m j:Nat,j + m = (g.getD i []).length→∀ s more,RSt g n s0 s more→(more = false→Shut g s i∧∀ x ∈ (g.getD i []).take j,On s i→On s x.toNat)→Ev (fun k =>r12_Reach.l3 k g s x7 more (i:Int) (j:Int)) res:=by
 have hr:=hs.2 i;have hn:=hs.1;have c1:0≤(i:Int):=zJ0 i;have c2:(i:Int) < (g.length:Int):=zG1.2 hi;have fin:∀ s more,RSt g n s0 s more→(more = false→Shut g s i∧(On s i→∀ x ∈ g.getD i [],On s x.toNat))→Ev (fun k =>r12_Reach.l2 k g s x7 more ((i + 1:Nat):Int)) res:=by
  intro s more h hc;refine hnext s more h (fun e =>?_);obtain ⟨q1,q2⟩:=hc e;intro v hv hon m hm;by_cases ev:v = i
  ·subst ev;exact q2 hon m hm
  ·exact q1 v qD0 hon m hm
 intro m
 induction m with
 | zero =>
  intro j hj s more h hc;refine Ev.step ?_;have c3:¬ (j:Int) < ((g.getD i []).length:Int):=by omega
  simp only [r12_Reach.l3,if_pos c1,if_pos c2,rdLg,if_neg c3,pz i qD0];exact fin s more h (fun e =>⟨(hc e).1,fun hon x hx =>(hc e).2 x (by rw [zX2 qD0];exact hx) hon⟩)
 | succ m ih =>
  intro j hj s more h hc;refine Ev.step ?_;have hjl:j < (g.getD i []).length:=by omega
  have c3:(j:Int) < ((g.getD i []).length:Int):=by omega
  have c4:(i:Int) < (s.length:Int):=by rw [h.len];exact c2
  have c5:0≤(j:Int):=zJ0 j;by_cases hon:On s i
  ·have hmem:(g.getD i [])[j] ∈ g.getD i []:=zE1 hjl;obtain ⟨m0,m1⟩:=hg i hi _ hmem;obtain ⟨x,hx⟩:∃ x:Nat,(g.getD i [])[j] = (x:Int):=⟨((g.getD i [])[j]).toNat,by omega⟩;have hrd:rd (g.getD i []) (j:Int) = (x:Int):=by
    unfold rd;rw [zP0,zK0 (l:=g.getD i []),zF0 hjl];exact hx
   rw [hx] at hmem m1;have hxN:x < g.length:=by omega
   have d1:0≤(x:Int):=zJ0 x;have d2:(x:Int) < (s.length:Int):=by rw [h.len];exact m1
   have hst:=h.step hon hmem hxN
   have e:=ih (j + 1) qD0 (s.set x true) (more || !(rdOf false s (x:Int))) hst (fun em =>by
    simp only [Bool.or_eq_false_iff,Bool.not_eq_false'] at em;obtain ⟨e1,e2⟩:=em;have hsx:=a8I.1 e2;obtain ⟨q1,q2⟩:=hc e1;refine ⟨fun v hv ho y hy =>?_,fun y hy ho =>?_⟩
    ·rcases b5K ho with rfl | ho
     ·exact b5J (q1 _ hv hsx y hy)
     ·exact b5J (q1 v hv ho y hy)
    ·rw [zW0 hjl,zY0] at hy;rcases hy with hy | hy
     ·exact b5J (q2 y hy hon)
     ·simp only [zD1] at hy
      rw [hy,hx,zP0];exact b5J hsx)
   simp only [r12_Reach.l3,if_pos c1,if_pos c2,rdLg,if_pos c3,if_pos c4,if_pos (a8I.2 hon),if_pos c5,hrd,if_pos d1,if_pos d2,zP0,pz j qD0];cases more with
   | true =>simp only [if_true];simpa using e
   | false =>simp only [Bool.false_eq_true,if_false];simpa using e
  ·have hoff:¬ rdOf false s (i:Int) = true:=fun e =>hon (a8I.1 e)
   simp only [r12_Reach.l3,if_pos c1,if_pos c2,rdLg,if_pos c3,if_pos c4,if_neg hoff,pz i qD0];exact fin s more h (fun e =>⟨(hc e).1,fun h1 =>absurd h1 hon⟩)
theorem rr_round (hs:Sm g) (hg:∀ v,v < g.length→∀ m ∈ g.getD v [],0≤m∧m < g.length) (s0:List Bool)
  (hmore:∀ s,RSt g n s0 s true→Ev (fun k =>r12_Reach.l1 k g s (wrap64 (x7 + 1))) res) (hdone:RSt g n s0 s0 false→Shut g s0 g.length→Ev (fun k =>r12_Reach.j5 k g s0) res) :
  ∀ m i:Nat,i + m = g.length→∀ s more,RSt g n s0 s more→(more = false→Shut g s i)→Ev (fun k =>r12_Reach.l2 k g s x7 more (i:Int)) res:=by
 intro m
 induction m with
 | zero =>
  intro i hi s more h hc;refine Ev.step ?_;have c:¬ (i:Int) < (g.length:Int):=by omega
  simp only [r12_Reach.l2,if_neg c];cases more with
  | true =>simp only [if_true];exact hmore s h
  | false =>
   simp only [Bool.false_eq_true,if_false];have e:=h.same rfl;subst e;exact hdone h (by rw [show g.length = i by omega];exact hc rfl)
 | succ m ih =>
  intro i hi s more h hc;refine Ev.step ?_;have c:(i:Int) < (g.length:Int):=by omega
  simp only [r12_Reach.l2,if_pos c];exact rr_row hs hg s0 i qD0 (fun s' more' h' hc' =>ih (i + 1) qD0 s' more' h' hc') (g.getD i []).length 0 qD0 s more h (fun e =>⟨hc e,fun x hx =>by simp at hx⟩)
end
theorem rr_out (g:List (List Int)) (hs:Sm g) (s:List Bool) (hl:s.length = g.length):Ev (fun k =>r12_Reach.j5 k g s) (pick s g.length):=by
 have hn:=hs.1;have main:∀ m j:Nat,j + m = g.length→Ev (fun k =>r12_Reach.l4 k g s (pick s j) (j:Int)) (pick s g.length):=by
  intro m
  induction m with
  | zero =>
   intro j hj;refine Ev.step ?_;have c:¬ (j:Int) < (g.length:Int):=by omega
   simp only [r12_Reach.l4,if_neg c];rw [show j = g.length by omega];exact Ev.const _
  | succ m ih =>
   intro j hj;have e:=ih (j + 1) qD0;refine Ev.step ?_;have c:(j:Int) < (g.length:Int):=by omega
   have c0:0≤(j:Int):=zJ0 j;have c1:(j:Int) < (s.length:Int):=by rw [hl];exact c
   have hpl:(pick s j).length < 17592186044416:=by
    have:(pick s j).length≤j:=by
     unfold pick;rw [zP1];exact zE0 (zD3 _ _) qI0
    omega
   simp only [r12_Reach.l4,if_pos c,if_pos c0,if_pos c1,if_pos hpl,pz j qD0];have hj2:j < s.length:=by omega
   by_cases h:On s j
   ·rw [pick_on h] at e;simp only [if_pos (a8I.2 h)];exact e
   ·have hf:s[j]? = some false:=by
     rw [zF0 hj2];cases hb:s[j] with
     | false =>rfl
     | true =>exact absurd (by unfold On;rw [zF0 hj2,hb]) h
    rw [pick_off hf] at e;simp only [if_neg (fun e' =>h (a8I.1 e'))];exact e
 refine Ev.step ?_;simp only [r12_Reach.j5];have:=main g.length 0 qD0;simpa [pick] using this
theorem b8Y {g:List (List Int)} {n:Nat} {s:List Bool} (hr:∀ v,On s v→GRch g n v) (hn:On s n) (hg:∀ v,v < g.length→∀ m ∈ g.getD v [],0≤m∧m < g.length) (hl:s.length = g.length) (hc:Shut g s g.length):pick s g.length = reachL g n:=by
 have hlt:∀ v,On s v→v < g.length:=fun v hv =>by
  have:=(List.getElem?_eq_some_iff.1 hv).1;omega
 have hon:∀ v,On s v ↔ GRch g n v:=by
  intro v;constructor
  ·exact hr v
  ·intro h
   induction h with
   | refl =>exact hn
   | step _ hm ih =>exact hc _ (hlt _ ih) ih _ hm
 unfold pick reachL
 congr 1
 apply List.filter_congr;intro v hv';have:=hon v;unfold On at this;rw [zK0];cases hs:s[v]? with
 | none =>rw [hs] at this;simp at this;simp [this]
 | some b =>rw [hs] at this;cases b <;> simp at this <;> simp [this]
theorem c0W (g:List (List Int)) (n:Nat) (hs:Sm g) (hg:∀ v,v < g.length→∀ m ∈ g.getD v [],0≤m∧m < g.length):∀ (u:Nat) (s:List Bool) (r:Nat),off s≤u→s.length = g.length→On s n→(∀ v,On s v→GRch g n v)→r + off s < g.length→Ev (fun k =>r12_Reach.l1 k g s (r:Int)) (reachL g n):=by
 have hn:=hs.1;intro u
 induction u using Nat.strongRecOn with
 | _ u ih =>
  intro s r hu hl hself hr hro;refine Ev.step ?_;have c:(r:Int) < (g.length:Int):=by omega
  simp only [r12_Reach.l1,if_pos c];refine rr_round hs hg s (fun s' h' =>?_) (fun _ hsh =>?_) g.length 0 qD0 s false ⟨hl,hself,hr,zM0 _,fun _ =>rfl,fun e =>by cases e⟩ (fun _ v hv =>by omega)
  ·rw [pz r qD0];have hls:=h'.less rfl;exact ih (off s') qD0 s' (r + 1) (zM0 _) h'.len h'.self h'.rch qD0
  ·rw [← b8Y hr hself hg hl hsh];exact rr_out g hs s hl
theorem rr_begin (g:List (List Int)) (n:Nat) (hs:Sm g) (hg:∀ v,v < g.length→∀ m ∈ g.getD v [],0≤m∧m < g.length) (hn:n < g.length):∀ m i:Nat,i + m = g.length→Ev (fun k =>r12_Reach.l0 k g (n:Int) (((List.replicate g.length false).set n true).take i) (i:Int)) (reachL g n):=by
 have hN:=hs.1;obtain ⟨full,hf⟩:∃ f,f = (List.replicate g.length false).set n true:=⟨_,rfl⟩;have hl:full.length = g.length:=by rw [hf];simp
 have hget:∀ v,v < g.length→full[v]? = some ((v:Int) == (n:Int)):=by
  intro v hv;rw [hf,List.getElem?_set]
  split
  ·rename_i e;subst e;simp [hn]
  ·rename_i e
   rw [List.getElem?_replicate,if_pos hv];have:¬ (v:Int) = (n:Int):=by omega
   simp [this]
 have hself:On full n:=by unfold On;rw [hget n hn];simp
 have hr:∀ v,On full v→GRch g n v:=by
  intro v hv;have hlt:v < g.length:=by have:=(List.getElem?_eq_some_iff.1 hv).1;omega
  unfold On at hv;rw [hget v hlt] at hv;simp at hv;have:v = n:=by omega
  rw [this];exact .refl
 have hoff:off full + 1 = g.length:=by
  have h1:(List.replicate g.length false)[n]? = some false:=by rw [List.getElem?_replicate,if_pos hn]
  have h2:=c1V _ n h1;rw [← hf] at h2;unfold off;rw [h2];simp
 rw [← hf];intro m
 induction m with
 | zero =>
  intro i hi;refine Ev.step ?_;have c:¬ (i:Int) < (g.length:Int):=by omega
  simp only [r12_Reach.l0,if_neg c];rw [zX2 qD0];exact c0W g n hs hg _ full 0 (zM0 _) hl hself hr qD0
 | succ m ih =>
  intro i hi;have e:=ih (i + 1) qD0;refine Ev.step ?_;have c:(i:Int) < (g.length:Int):=by omega
  have c1:(full.take i).length < 140737488355328:=by rw [zI1];omega
  simp only [r12_Reach.l0,if_pos c,if_pos c1,pz i qD0];have ht:full.take (i + 1) = full.take i ++ [((i:Int) == (n:Int))]:=by
   rw [List.take_add_one,hget i qD0];rfl
  rw [ht] at e;exact e
theorem c0V (g:List (List Int)) (hs:Sm g) (n:Int):Ev (fun k =>r12_Reach.f k g n) (reachF g n):=by
 have jt:reachF g n = []→Ev (fun k =>r12_Reach.j0 k g n true) (reachF g n):=by
  intro h;rw [h];refine Ev.step ?_;simp only [r12_Reach.j0,if_true];exact Ev.const _
 refine Ev.bind (c0Z g hs) ?_;cases hb:mayB g with
 | false =>
  simp only [Bool.false_eq_true,if_false];exact jt (by unfold reachF;rw [if_neg (by rw [hb];simp)])
 | true =>
  simp only [if_true];by_cases h0:n < 0
  ·simp only [if_pos h0];exact jt (by unfold reachF;rw [if_neg qD0])
  ·simp only [if_neg h0];by_cases h1:n ≥ (g.length:Int)
   ·simp only [zD0 h1];exact jt (by unfold reachF;rw [if_neg qD0])
   ·simp only [zO0 h1];obtain ⟨m,rfl⟩:∃ m:Nat,n = (m:Int):=⟨n.toNat,by omega⟩;have e:reachF g (m:Int) = reachL g m:=by unfold reachF;rw [if_pos ⟨hb,by omega,by omega⟩,zP0]
    rw [e];refine Ev.step ?_;simp only [r12_Reach.j0,Bool.false_eq_true,if_false];have:=rr_begin g m hs (b6W hb) qD0 g.length 0 qD0;simpa using this
theorem grch_rch {g:List (List Int)} {a b:Nat} (h:GRch g a b):Tarj.Rch (adjF g) a b:=by
 induction h with
 | refl =>exact .refl _
 | step _ hm ih =>exact ih.trans (.one (zG2.2 ⟨_,hm,rfl⟩))
theorem rch_grch {g:List (List Int)} {a b:Nat} (h:Tarj.Rch (adjF g) a b):GRch g a b:=by
 induction h with
 | refl x =>exact .refl
 | step h _ ih =>
  obtain ⟨m,hm,rfl⟩:=zG2.1 h;exact (GRch.step .refl hm).trans ih
theorem b2N {g:List (List Int)} {a b:Nat}:(b:Int) ∈ reachL g a ↔ b < g.length∧Tarj.Rch (adjF g) a b:=by
 unfold reachL;rw [zG2];constructor
 ·rintro ⟨x,hx,e⟩;obtain rfl:x = b:=by simp only [Int.ofNat_eq_natCast] at e;omega
  rw [zR1,zZ0] at hx;exact ⟨hx.1,grch_rch (zB0 hx.2)⟩
 ·rintro ⟨h1,h2⟩;exact ⟨b,zR1.2 ⟨zZ0.2 h1,zD0 (rch_grch h2)⟩,rfl⟩
theorem b2I {g:List (List Int)} {a:Nat} {x:Int} (h:x ∈ reachL g a):∃ b:Nat,x = (b:Int)∧b < g.length∧Tarj.Rch (adjF g) a b:=by
 have h':=h;unfold reachL at h;obtain ⟨b,_,rfl⟩:=zG2.1 h;exact ⟨b,rfl,b2N.1 h'⟩
theorem b9H (g:List (List Int)) (a:Nat):(reachL g a).length≤g.length:=by
 unfold reachL;rw [zP1];exact zE0 (zD3 _ _) qI0
section
variable {g:List (List Int)}
end
theorem a9W (fs:List S34):(allOwn fs).length≤total fs:=by
 unfold allOwn total
 induction fs with
 | nil =>exact zM0 _
 | cons f r ih =>
  have:=b5H (flat f.f2);simp only [List.flatMap_cons,zQ0];omega
theorem smG_of {fs:List S34} (hl:LowP fs) (hn:fs.length≤1000) (ht:total fs≤1048576):SmG fs:=by
 refine ⟨hn,fun f hf =>?_,zE0 (a9W fs) qD0⟩;refine zE0 ?_ (zE0 ht qD0);obtain ⟨a,b,rfl⟩:=List.append_of_mem hf;unfold total;simp only [List.flatMap_append,List.flatMap_cons,zQ0];omega
def ownI (fs:List S34) (x:Int):List ByteArray:=ownF (a0S fs x)
section
variable {fs:List S34}
theorem reach_is (hn:fs.length≤1000) {i:Nat} (hi:i < fs.length):reachF (callsF fs) (i:Int) = reachL (callsF fs) i:=by
 unfold reachF;rw [if_pos ⟨a9B hn,zJ0 i,by rw [a4X];omega⟩,zP0]
theorem c1E (hn:fs.length≤1000) {i:Nat} (hi:i < fs.length):capB ((reachL (callsF fs) i).flatMap (ownI fs)) = wrF fs (numN (callsF fs) i):=by
 refine (a4W _).ext (b6H _) (fun x =>?_);rw [a6C,b6I hn hi,List.mem_flatMap];constructor
 ·rintro ⟨y,hy,hx⟩;obtain ⟨z,rfl,hz,hr⟩:=b2I hy;rw [a4X] at hz;exact ⟨z,hz,hr,hx⟩
 ·rintro ⟨z,hz,hr,hx⟩;exact ⟨(z:Int),b2N.2 ⟨by rw [a4X];exact hz,hr⟩,hx⟩
theorem b7Y (hs:SmG fs) {z:Nat} (hz:z < fs.length):(ownI fs (z:Int)).length≤1050000 :=
 zE0 (a9I _ _ (a9K _).nodup (b1G hz)) hs.u
theorem b9Y (hs:SmG fs) {i:Nat} (hi:i < fs.length):(wrF fs (numN (callsF fs) i)).length≤(allOwn fs).length :=
 a9I _ _ (b6H _).nodup (fun x hx =>by
  obtain ⟨z,hz,_,hx⟩:=(b6I hs.n hi).1 hx
  exact b1G hz x hx)
theorem capI_len (hs:SmG fs) (R:List Int) (hR:∀ y,y ∈ R→∃ z:Nat,y = (z:Int)∧z < fs.length):(capB (R.flatMap (ownI fs))).length≤1050000:=by
 refine zE0 (a9I _ (allOwn fs) (a4W _).nodup (fun x hx =>?_)) hs.u;rw [a6C,List.mem_flatMap] at hx;obtain ⟨y,hy,hx⟩:=hx;obtain ⟨z,rfl,hz⟩:=hR y hy;exact b1G hz x hx
theorem rdI_take (R:List Int) (j:Nat) (hj:j < R.length):R.take (j + 1) = R.take j ++ [rd R (j:Int)]:=by
 rw [b6N hj,zW0 hj]
theorem rd_mem14 (R:List Int) (j:Nat) (hj:j < R.length):rd R (j:Int) ∈ R:=by rw [b6N hj];exact zE1 hj
theorem b8X {i:Nat} (hi:i < fs.length):(sigsF fs).take (i + 1) = (sigsF fs).take i ++ [⟨(a0S fs (i:Int)).f0,(((a0S fs (i:Int)).f1.length:Nat):Int),wrF fs (numN (callsF fs) i)⟩]:=by
 have h1:i < (sigsF fs).length:=by rw [a8S];exact hi
 rw [zW0 h1]
 congr 2
 have h2:=b4W hi;rw [zF0 h1] at h2;exact zI0 h2
theorem b7V (hl:LowP fs) (hs:SmG fs):Ev (fun k =>r14_Sigs.f k fs) (sigsF fs):=by
 have hn:=hs.n;have hsm:=c3K fs hn;have hc:=c1K fs hl;rw [← b1R] at hc;unfold r14_Sigs.f;refine Ev.bind hc (Ev.bind (c0Z _ hsm) ?_);rw [a9B hn];simp only [if_true];have hg:∀ i:Nat,i < fs.length→∀ y,y ∈ reachL (callsF fs) i→∃ z:Nat,y = (z:Int)∧z < fs.length:=fun i hi y hy =>by
  obtain ⟨z,h1,h2,_⟩:=b2I hy;rw [a4X] at h2;exact ⟨z,h1,h2⟩
 have hev:∀ i:Nat,i < fs.length→Ev (fun k =>r12_Reach.f k (callsF fs) (i:Int)) (reachL (callsF fs) i):=fun i hi =>by
  rw [← reach_is hn hi];exact c0V _ hsm _
 have hro:=fun (i:Nat) (hi:i < fs.length) =>c1E hn hi
 obtain ⟨g,hgg⟩:∃ g,g = callsF fs:=⟨_,rfl⟩;rw [← hgg] at hg hev hro ⊢;have ow:∀ y:Int,(∃ z:Nat,y = (z:Int)∧z < fs.length)→∀ w:List ByteArray,w.length≤1050000→∀ {res:List S42} {K:List ByteArray→Nat→Option (List S42)},Ev (fun k =>K (unionF w (ownI fs y)) k) res →
   Ev (fun k =>(r14_Own.f ((a0S fs y).f0) ((a0S fs y).f1) ((a0S fs y).f2)).bind fun t355 =>((r14_Union.f w t355).bind fun t358 =>K t358 k)) res:=by
  rintro y ⟨z,rfl,hz⟩ w hw res K h;have hf:=hl.2 _ (b3L hz);exact Ev.bind (c1J _ hf.2.2 hf.2.1) (Ev.bind (b1F _ _ qD0 (zE0 (b7Y hs hz) qD0)) h)
 suffices h:∀ m i:Nat,i + m = fs.length→Ev (fun k =>r14_Sigs.l0 k g ((sigsF fs).take i) (i:Int) fs) (sigsF fs) by
  have:=h fs.length 0 qD0;rwa [zD2] at this
 intro m
 induction m with
 | zero =>
  intro i hi;have hnl:¬ ((i:Int) < (fs.length:Int)):=by rw [show i = fs.length from hi];exact zY3 _
  refine Ev.step ?_;simp only [r14_Sigs.l0,if_neg hnl];rw [show i = (sigsF fs).length by rw [a8S];exact hi,zH1];exact Ev.const _
 | succ m ih =>
  intro i hi;have hil:i < fs.length:=by omega
  have c1:(0:Int)≤(i:Int):=zJ0 i;have c2:(i:Int) < (fs.length:Int):=zG1.2 hil;have hw:=pz14 i qD0;have e:=ih (i + 1) qD0;rw [b8X hil] at e;refine Ev.step ?_;simp only [r14_Sigs.l0,if_pos c2];refine Ev.bind (hev i hil) ?_;have hR:=hg i hil;have hRo:=hro i hil;have hRl:(reachL g i).length≤1000:=zE0 (b9H g i) (by rw [hgg,a4X];exact hn);generalize reachL g i = R at hR hRo hRl;have hcap:((sigsF fs).take i).length < 2932031007402:=by rw [zI1];omega
  suffices h:∀ q j:Nat,j + q = R.length→Ev (fun k =>r14_Sigs.l1 k g ((sigsF fs).take i) (i:Int) (capB ((R.take j).flatMap (ownI fs))) R (j:Int) fs) (sigsF fs) by
   have:=h R.length 0 qD0;rw [zD2,List.flatMap_nil,b0N] at this;exact this
  intro q
  induction q with
  | zero =>
   intro j hj;have hnl:¬ ((j:Int) < (R.length:Int)):=by rw [show j = R.length from hj];exact zY3 _
   refine Ev.step ?_;simp only [r14_Sigs.l1,if_neg hnl,if_pos c1,if_pos c2,if_pos hcap,hw];rw [show j = R.length from hj,zH1,hRo,hgg];rw [hgg] at e;exact e
  | succ q ihq =>
   intro j hj;have hjl:j < R.length:=by omega
   have d1:(0:Int)≤(j:Int):=zJ0 j;have d2:(j:Int) < (R.length:Int):=zG1.2 hjl;obtain ⟨z,hz,hzl⟩:=hR _ (rd_mem14 R j hjl);have d3:(0:Int)≤rd R (j:Int):=by omega
   have d4:rd R (j:Int) < (fs.length:Int):=by omega
   have hwj:=pz14 j qD0;have e2:=ihq (j + 1) qD0;rw [rdI_take R j hjl,List.flatMap_append,List.flatMap_cons,List.flatMap_nil,zU1,← b4T] at e2;refine Ev.step ?_;simp only [r14_Sigs.l1,if_pos d1,if_pos d2,if_pos d3,if_pos d4,hwj];exact ow _ ⟨z,hz,hzl⟩ _ (capI_len hs _ (fun y hy =>hR y (zS3 hy))) e2
end
theorem same_any (l:List S42) (A A':Option Addr) (c c':Nat) (w:World) (hC:Kd.C k42 w A l.length l) (hC':Kd.C k42 w A' l.length l) (hl:l.length≤1000000) (hb:∀ i:Nat,i < l.length→(a3M l (i:Int)).f2.length≤8000000000000) :
  Calls Tryz.prog 13 #[.slice A l.length c,.slice A' l.length c'] w fun e w' =>e = .returned (.bool true)∧Below w.heap.size w w':=by
 have K0:=zA0 hC;have K1:=zA0 hC';have HT:=zA0 (fun (i:Nat) (hi:i < l.length) =>b3E _ (hb i hi));have HB:=zA0 (zL0 w.heap.size w);clear hC hC' hb;go_enter Tryz.func13,Tryz.ntmps13
 go_wp2;go_loopg [5] l.length (fun kq v5 w' =>∃ j:Nat,j + kq = l.length∧v5 = .int .i64 j∧Hid (Below w.heap.size w w'))
 case atStart =>exact ⟨0,zY1 _,rfl,HB⟩
 case round =>
  obtain ⟨j,hj,rfl,HB⟩:=hrel;by_cases hlt:j < l.length
  ·obtain ⟨ad,V,d,e0,x0,x1,x2,m,n⟩:=b1U (Kd.a0H K0.out HB.out) (j:Int) (zJ0 j) (zG1.2 hlt);obtain ⟨ad',V',d',e0',x0',x1',x2',m',n'⟩:=b1U (Kd.a0H K1.out HB.out) (j:Int) (zJ0 j) (zG1.2 hlt);subst e0;subst e0';rw [zP0] at x0 x1 x2 x0' x1' x2';obtain ⟨kt,hkt⟩:=HT.out j hlt;have hw:=pz14 j qD0;have c_j:(0:Int)≤(j:Int):=zJ0 j;have c_n:(j:Int) < (l.length:Int):=zG1.2 hlt;have N0:=zA0 n;have M0:=zA0 m;have N1:=zA0 n';have M1:=zA0 m';have HK:=zA0 (hkt kt (zM0 _));obtain ⟨k1,rfl⟩:∃ k1,gk = k1 + 1:=Nat.exists_eq_add_one_of_ne_zero qK1;clear m n m' n' hkt;generalize a3M l (j:Int) = s at x0 x1 x2 x0' x1' x2' N0 M0 N1 M1 HK;go_wp2
   go_quiet (first | (go_at_call 10;(with_reducible refine (r14_Texts.calls kt _ _ s.f2 _ _ s.f2 true _ ?side1 ?side2 ?side3 ?side4 HK.out).mono ?_);(case side1 =>repeat (first | exact N0.out | (with_reducible refine Kd.a1C ?_ _) | (with_reducible refine Kd.a1K ?_)));(case side2 =>exact M0.out);(case side3 =>repeat (first | exact N1.out | (with_reducible refine Kd.a1C ?_ _) | (with_reducible refine Kd.a1K ?_)));(case side4 =>exact M1.out);rintro e w' ⟨rfl,⟨nd,rfl⟩⟩;(try first | exact ⟨rfl,_,World.drewN_drewN _ _ _⟩ | exact ⟨rfl,_,Eq.trans (World.drewN_drewN _ _ _) (congrArg (World.drewN _) (zA1 _ _ _))⟩)))
   go_wp2;go_roundg k1
   case measure =>exact zR0 _
   case rel =>exact ⟨j + 1,by rw [zA1,zC1 1];exact hj,by first | rw [hw] | simp [hw],zA0 (a0K HB.out (by repeat (first | exact zL0 _ _ | apply a0A | apply a0E)))⟩
  ·have hje:j = l.length:=Nat.le_antisymm qA2 (Nat.le_of_not_lt hlt);go_wp2;go_ret;exact qQ3
end Go.Proofs.YthhgfncliffggaaGreat.Man
namespace Go.Proofs.YthhgfncliffggaaGreat.Pr
open Go.RowKit Go.Proofs.YthhgfncliffggaaGreatW.PrintWords Go.Proofs.YthhgfncliffggaaGreatW.PrintLast Go.Proofs.YthhgfncliffggaaGreatW.PrintMore
attribute [local go_sem] a3J a3I a4D a4C a3F a3E a3T a3S   -- for this text's walks alone
open Classical in
noncomputable def r14_Same.f (l0:List (S42)) (l1:List (S42)):Option (Bool):=if l0 = l1∧l0.length≤1000000∧(∀ i:Nat,i < l0.length→(a3M l0 (i:Int)).f2.length≤8000000000000) then some true else none
theorem r14_Same.calls (A0:Option Addr) (c0:Nat) (l0:List (S42)) (A1:Option Addr) (c1:Nat) (l1:List (S42)) (r:Bool) (w:World) (hr0:Kd.C k42 w A0 l0.length l0) (hc0:l0.length≤c0) (hr1:Kd.C k42 w A1 l1.length l1) (hc1:l1.length≤c1) (h:r14_Same.f l0 l1 = some r) :
  Calls Tryz.prog 13 #[.slice A0 l0.length c0,.slice A1 l1.length c1] w fun e w' =>e = .returned (.bool r)∧Below w.heap.size w w' :=
 by
 unfold r14_Same.f at h
 split at h
 ·next hN =>
  cases h;obtain ⟨e1,h1,h2⟩:=hN;cases e1;exact Man.same_any l0 A0 A1 c0 c1 w hr0 hr1 h1 h2
 ·cases h
end Go.Proofs.YthhgfncliffggaaGreat.Pr
namespace Go.Proofs.YthhgfncliffggaaGreat.Man
open Go.RowKit Go.Shelf Go.Proofs.YthhgfncliffggaaGreat.Pr Go.Proofs.YthhgfncliffggaaGreatW.PrintWords Go.Proofs.YthhgfncliffggaaGreatW.PrintMore Go.Proofs.YthhgfncliffggaaGreat.Tarj
theorem RS.far {B R bl K:Nat} {lw:Nat→Nat} {v:Value} {l:List Nat} {W:World} (h:RS B R bl K lw v l W) {q:Nat} (h1:R≠q) (h2:bl≠q) (h3:some q≠v.ownBlock) (i:Nat) (u:Value):RS B R bl K lw v l (W.setCell ⟨q,i,none⟩ u):=by
 refine ⟨a2K h.r h1 _,a2K h.lo h2 _,?_,h.mem,h.b,h.bl,h.len⟩;exact Kd.a2W (Kd.b4D (p:=⟨q,i,none⟩) (Kd.a6P (ok:=fun k =>some k = v.ownBlock) rfl h.st (fun k hk =>hk.symm)) (fun k hk e =>h3 (by rw [← hk];exact congrArg some (show q = k from e.symm))) _) (fun _ _ =>trivial)
structure PS (B R bl blf K:Nat) (lw:Nat→Nat) (v:Value) (l:List Nat) (left:Nat→Nat) (W1 Wr W:World):Prop where
 rs:RS R R bl K lw v l W
 hp:Hp (kys lw l) l.length
 lf:W.heap[blf]? = some (.cells (ints K left) 3 (0,0))
 fz:∀ k,k < R→k≠blf→W.heap[k]? = Wr.heap[k]?
 be:Below B W1 W
 sz:Wr.heap.size≤W.heap.size
 bb:B≤blf∧blf < R∧bl≠blf∧R < Wr.heap.size
structure NM (R bn K:Nat) (num:Nat→Nat) (v:Value) (W:World):Prop where
 nm:W.heap[bn]? = some (.cells (ints K num) 3 (0,0))
 nb:R < bn∧some bn≠v.ownBlock
def lfA (r:Nat→List Nat) (i:Nat):Nat→Nat:=fun x =>if x < i then (r x).length else 0
theorem lfA_zero (r:Nat→List Nat):lfA r 0 = fun _ =>0:=by funext x;simp [lfA]
theorem lfA_succ (r:Nat→List Nat) (i:Nat):Tarj.upd (lfA r i) i (r i).length = lfA r (i + 1):=by
 funext x
 simp only [lfA,Tarj.upd];by_cases e:x = i
 ·subst e;simp
 ·rw [if_neg e];by_cases h:x < i
  ·rw [if_pos h,if_pos qD0]
  ·rw [if_neg h,if_neg qD0]
def mixF (num cls:Nat→Nat) (i:Nat):Nat→Nat:=fun x =>if x < i then num (cls x) else cls x
theorem c2D (num cls:Nat→Nat):mixF num cls 0 = cls:=by funext x;simp [mixF]
theorem mixF_at (num cls:Nat→Nat) (i:Nat):mixF num cls i i = cls i:=by simp [mixF]
theorem c2E (num cls:Nat→Nat) (i:Nat):Tarj.upd (mixF num cls i) i (num (cls i)) = mixF num cls (i + 1):=by
 funext x
 simp only [mixF,Tarj.upd];by_cases e:x = i
 ·subst e;simp
 ·rw [if_neg e];by_cases h:x < i
  ·rw [if_pos h,if_pos qD0]
  ·rw [if_neg h,if_neg qD0]
theorem tAss (x:Nat) (w:World):(Instr.typeAssert (.iface 3 (.int .i64 (x:Int))) 20 3 false).run Tryz.prog w = .ok (.int .i64 (x:Int)) w:=by kernel_rfl
section
variable {B R bl blf bn K:Nat} {lw:Nat→Nat} {v v':Value} {l l':List Nat} {left num:Nat→Nat} {W1 Wr W W':World}
theorem PS.own (h:PS B R bl blf K lw v l left W1 Wr W):∀ k,v.ownBlock = some k→R≤k:=fun k hk =>a2M (Kd.a3A h.rs.st) k hk
theorem PS.hz (h:PS B R bl blf K lw v l left W1 Wr W):R≤W.heap.size:=zE0 (zZ1 h.bb.2.2.2) h.sz
theorem PS.ht (h:PS B R bl blf K lw v l left W1 Wr W) (hr:RS R R bl K lw v' l' W') (hh:Hp (kys lw l') l'.length) (ht:Ht R R W v W' v'):PS B R bl blf K lw v' l' left W1 Wr W':=by
 have hb:=h.bb;refine ⟨hr,hh,?_,fun k hk hne =>?_,h.be.trans (ht.be.mono qD0),zE0 h.sz ht.be.size,h.bb⟩
 ·rw [ht.be.block _ hb.2.1];exact h.lf
 ·rw [ht.be.block _ hk];exact h.fz k hk hne
theorem PS.setLeft (h:PS B R bl blf K lw v l left W1 Wr W) (m x:Nat):PS B R bl blf K lw v l (Tarj.upd left m x) W1 Wr (W.setCell ⟨blf,m,none⟩ (.int .i64 (x:Nat))):=by
 obtain ⟨b1,b2,b3,b4⟩:=h.bb;refine ⟨h.rs.far (show R≠blf by omega) b3 (fun e =>by have:=h.own blf e.symm;omega) _ _,h.hp,a3G h.lf m _ (a6W _ _ _ _),fun k hk hne =>?_,h.be.setCell (p:=⟨blf,m,none⟩) b1 _,by rw [World.size_setCell];exact h.sz,h.bb⟩;rw [Below.heap_setCell _ _ _ _ hne];exact h.fz k hk hne
theorem NM.ht (h:NM R bn K num v W) (hlt:bn < W.heap.size) (ht:Ht R R W v W' v'):NM R bn K num v' W':=by
 refine ⟨by rw [ht.bk bn hlt (by have:=h.nb.1;omega) h.nb.2];exact h.nm,h.nb.1,fun e =>?_⟩;rcases ht.at_ with q | ⟨b,q,hb⟩
 ·rw [q] at e;exact h.nb.2 e
 ·rw [q] at e;injection e with e;omega
theorem NM.setLeft (h:NM R bn K num v W) (hlt:blf < R) (m:Nat) (u:Value):NM R bn K num v (W.setCell ⟨blf,m,none⟩ u) :=
 ⟨a2K h.nm (show bn≠blf by have:=h.nb.1;omega) _,h.nb⟩
theorem NM.set (h:NM R bn K num v W) (m x:Nat):NM R bn K (Tarj.upd num m x) v (W.setCell ⟨bn,m,none⟩ (.int .i64 (x:Nat))) :=
 ⟨a3G h.nm m _ (a6W _ _ _ _),h.nb⟩
theorem PS.setNum (h:PS B R bl blf K lw v l left W1 Wr W) (n:NM R bn K num v W) (m:Nat) (u:Value):PS B R bl blf K lw v l left W1 Wr (W.setCell ⟨bn,m,none⟩ u):=by
 obtain ⟨b1,b2,b3,b4⟩:=h.bb;have hn:=n.nb;have hl:=h.rs.bl;refine ⟨h.rs.far (show R≠bn by omega) (show bl≠bn by omega) hn.2 _ _,h.hp,a2K h.lf (show blf≠bn by omega) _,fun k hk hne =>?_,h.be.setCell (p:=⟨bn,m,none⟩) (by show B≤bn;omega) _,by rw [World.size_setCell];exact h.sz,h.bb⟩;rw [Below.heap_setCell _ _ _ _ (show k≠bn by omega)];exact h.fz k hk hne
theorem PS.drew (h:PS B R bl blf K lw v l left W1 Wr W) (n:Nat):PS B R bl blf K lw v l left W1 Wr (W.drewN n) :=
 ⟨h.rs.drew n,h.hp,h.lf,h.fz,h.be.trans (a0A (zL0 _ _) n),h.sz,h.bb⟩
theorem PS.below (h:PS B R bl blf K lw v l left W1 Wr W) (hb:Below W.heap.size W W'):PS B R bl blf K lw v l left W1 Wr W':=by
 have hz:=h.hz;have hbb:=h.bb;refine ⟨h.rs.below hb,h.hp,a0P h.lf hb,fun k hk hne =>by rw [hb.block k qD0];exact h.fz k hk hne,h.be.trans (hb.mono qD0),zE0 h.sz hb.size,h.bb⟩
theorem PS.lt (h:PS B R bl blf K lw v l left W1 Wr W):∀ k,v.ownBlock = some k→k < W.heap.size:=fun k hk =>by
 obtain ⟨cells,hc⟩:=a2T (Kd.a3A h.rs.st) k hk;exact a1J hc
theorem NM.start (h:PS B R bl blf K lw v l left W1 Wr W):NM R W.heap.size K (fun _ =>0) v (W.alloc (.cells (ints K (fun _ =>0)) 3)) :=
 ⟨World.alloc_heap_new _ _,zJ1 h.bb.2.2.2 h.sz,fun e =>zA2 _ (h.lt _ e.symm)⟩
theorem PS.old (h:PS B R bl blf K lw v l left W1 Wr W) {A:Option Addr} {n:Nat} {L:List (List Int)} (hF:Kd.F kL Wr (fun q =>q < blf) A n L):Kd.F kL W (fun q =>q < blf) A n L :=
 Kd.a6A hF (fun k hk _ =>h.fz k (by have:=h.bb;omega) qD0)
theorem PS.start {w:World} (hlo:w.heap[bl]? = some (.cells (ints K lw) 3 (0,0))) (hlf:w.heap[blf]? = some (.cells (ints K left) 3 (0,0))) (hbe:Below B W1 w) (hB:B≤blf) (hne:bl≠blf) :
  PS B w.heap.size bl blf K lw (.slice none 0 0) [] left W1 (w.alloc (.cells #[.slice none 0 0,.slice (some ⟨bl,0,none⟩) K K] 88)) (w.alloc (.cells #[.slice none 0 0,.slice (some ⟨bl,0,none⟩) K K] 88)):=by
 have h1:=a1J hlo;have h2:=a1J hlf;refine ⟨⟨World.alloc_heap_new _ _,a0J hlo _,Kd.b0A _ _ _ _ _,by simp,zM0 _,h1,by simp⟩,fun i h0 hi =>absurd hi (zZ2 _),a0J hlf _,fun _ _ _ =>rfl,hbe.trans ((a0C (zL0 w.heap.size w) _).mono qD0),zM0 _,hB,h2,hne,a1J (World.alloc_heap_new w _)⟩
end
attribute [local go_sem] Oper.semAt_some
theorem of_try (g:List (List Int)) (hgo:GOk g) (A:Option Addr) (c kM:Nat) (W:World) (hg:kL.C W A g.length g) (hlc:g.length≤c) (hmay:graph_May.f kM g = some true) :
  Calls Tryz.prog 29 #[.slice A g.length c] W fun e W' =>∃ bo M num,e = .returned (.slice (some ⟨bo,0,none⟩) g.length g.length)∧Nmb (adjF g) g.length M num∧W.heap.size≤bo∧W'.heap[bo]? = some (.cells (ints g.length num) 3 (0,0))∧Below W.heap.size W W':=by
 have hmayc:=fun w (h:kL.C w A g.length g) =>graph_May.calls kM A c g true w h hlc hmay
 have HMAY:=zA0 hmayc;have HG:=zA0 hg;have GO:=zA0 hgo;have hgl:=hgo.len;clear hmayc hg hgo hmay;go_enter Tryz.func29,Tryz.ntmps29
 go_upto_region 3 with (first
  | (go_at_call 28;(with_reducible refine (HMAY.out _ HG.out).mono ?_;rintro z w1 ⟨rfl,hdr⟩;have HDR:=zA0 hdr;clear hdr)))
 obtain ⟨nd,rfl⟩:=HDR.out.out;have hgF:Kd.F kL (W.drewN nd) (fun k =>k < (W.drewN nd).heap.size) A g.length g:=Kd.C_F (Kd.a5S 3 (Kd.a8Y .i64)) (Kd.a0H HG.out (a0A (zL0 _ _) nd));have hb1:Below W.heap.size W (W.drewN nd):=a0A (zL0 _ _) nd;clear HDR;generalize W.drewN nd = W1 at hgF hb1 ⊢;have HGF:=zA0 hgF;have HB1:=zA0 hb1;have HMI:=zA0 (makeI g.length hgl);have HMB:=zA0 (makeB g.length hgl);clear hgF hb1;refine (wpIn_wide (n:=5)).1 ?_;refine wpIn_region_any mixedO ?_;refine a3R _ (fun _ =>undef) (fun done val Z =>S3 A g.length c W1 done val Z) rfl qE0 _ ?hz3 ?st3 ?en3
 case hz3 =>exact S3.start A g.length c W1
 case st3 =>
  intro i o done val a Z ho hdn hdep hag hS K2 hK2;have hm:i < 13:=by
   by_cases h:i < 13
   ·exact h
   ·rw [Array.getElem?_eq_none qG1] at ho;cases ho
  obtain rfl | rfl | rfl | rfl | rfl | rfl | rfl | rfl | rfl | rfl | rfl | rfl | rfl:i = 0∨i = 1∨i = 2∨i = 3∨i = 4∨i = 5∨i = 6∨i = 7∨i = 8∨i = 9∨i = 10∨i = 11∨i = 12:=by omega
  ·cases ho;have e0:a.eval (.tmp 0) = .slice A g.length c:=hag.keep 0 rfl;refine a0G (i:=0) (r:=.slice A g.length c) (w':=Z) rfl rfl (fun c h =>by cases h) rfl ?_ (hK2 _ _ (hS.do_ 0 rfl rfl));have ec:∀ v,a.eval (.const v) = v:=fun _ =>rfl
   generalize a.eval = ev at *;simp [execOp,go_sem,ec,e0]
  ·cases ho;have e0:a.eval (.tmp 0) = .slice A g.length c:=hag.keep 0 rfl;refine a0G (i:=1) (r:=.slice A g.length c) (w':=Z) rfl rfl (fun c h =>by cases h) rfl ?_ (hK2 _ _ (hS.do_ 1 rfl rfl));have ec:∀ v,a.eval (.const v) = v:=fun _ =>rfl
   generalize a.eval = ev at *;simp [execOp,go_sem,ec,e0]
  ·cases ho;have e28:=(hag.val_ (j:=1) (t:=28) rfl (hdep ⟨1,.data⟩ qI0 rfl)).trans (hS.v1 (hdep ⟨1,.data⟩ qI0 rfl));refine a0G (i:=2) (r:=.int .i64 (g.length:Nat)) (w':=Z) rfl rfl (fun c h =>by cases h) rfl ?_ (hK2 _ _ (hS.do_ 2 rfl rfl));have ec:∀ v,a.eval (.const v) = v:=fun _ =>rfl
   generalize a.eval = ev at *;simp [execOp,go_sem,ec,e28]
  ·cases ho;have e29:=(hag.val_ (j:=2) (t:=29) rfl (hdep ⟨2,.data⟩ qI0 rfl)).trans (hS.v2 (hdep ⟨2,.data⟩ qI0 rfl));have hmk:=HMI.out Z;refine a0G (i:=3) (r:=.slice (some ⟨Z.heap.size,0,none⟩) g.length g.length) (w':=Z.alloc (.cells (ints g.length (fun _ =>0)) 3)) rfl rfl (fun c h =>by cases h) rfl ?_ (hK2 _ _ (hS.do3 hdn));generalize a.eval = ev at *;simp [execOp,go_sem,e29,hmk]
  ·cases ho;have e0:a.eval (.tmp 0) = .slice A g.length c:=hag.keep 0 rfl;refine a0G (i:=4) (r:=.slice A g.length c) (w':=Z) rfl rfl (fun c h =>by cases h) rfl ?_ (hK2 _ _ (hS.do_ 4 rfl rfl));have ec:∀ v,a.eval (.const v) = v:=fun _ =>rfl
   generalize a.eval = ev at *;simp [execOp,go_sem,ec,e0]
  ·cases ho;have e31:=(hag.val_ (j:=4) (t:=31) rfl (hdep ⟨4,.data⟩ qI0 rfl)).trans (hS.v4 (hdep ⟨4,.data⟩ qI0 rfl));refine a0G (i:=5) (r:=.int .i64 (g.length:Nat)) (w':=Z) rfl rfl (fun c h =>by cases h) rfl ?_ (hK2 _ _ (hS.do_ 5 rfl rfl));have ec:∀ v,a.eval (.const v) = v:=fun _ =>rfl
   generalize a.eval = ev at *;simp [execOp,go_sem,ec,e31]
  ·cases ho;have e32:=(hag.val_ (j:=5) (t:=32) rfl (hdep ⟨5,.data⟩ qI0 rfl)).trans (hS.v5 (hdep ⟨5,.data⟩ qI0 rfl));have hmk:=HMI.out Z;refine a0G (i:=6) (r:=.slice (some ⟨Z.heap.size,0,none⟩) g.length g.length) (w':=Z.alloc (.cells (ints g.length (fun _ =>0)) 3)) rfl rfl (fun c h =>by cases h) rfl ?_ (hK2 _ _ (hS.do6 hdn));generalize a.eval = ev at *;simp [execOp,go_sem,e32,hmk]
  ·cases ho;have e0:a.eval (.tmp 0) = .slice A g.length c:=hag.keep 0 rfl;refine a0G (i:=7) (r:=.slice A g.length c) (w':=Z) rfl rfl (fun c h =>by cases h) rfl ?_ (hK2 _ _ (hS.do_ 7 rfl rfl));have ec:∀ v,a.eval (.const v) = v:=fun _ =>rfl
   generalize a.eval = ev at *;simp [execOp,go_sem,ec,e0]
  ·cases ho;have e34:=(hag.val_ (j:=7) (t:=34) rfl (hdep ⟨7,.data⟩ qI0 rfl)).trans (hS.v7 (hdep ⟨7,.data⟩ qI0 rfl));refine a0G (i:=8) (r:=.int .i64 (g.length:Nat)) (w':=Z) rfl rfl (fun c h =>by cases h) rfl ?_ (hK2 _ _ (hS.do_ 8 rfl rfl));have ec:∀ v,a.eval (.const v) = v:=fun _ =>rfl
   generalize a.eval = ev at *;simp [execOp,go_sem,ec,e34]
  ·cases ho;have e35:=(hag.val_ (j:=8) (t:=35) rfl (hdep ⟨8,.data⟩ qI0 rfl)).trans (hS.v8 (hdep ⟨8,.data⟩ qI0 rfl));have hmk:=HMB.out Z;refine a0G (i:=9) (r:=.slice (some ⟨Z.heap.size,0,none⟩) g.length g.length) (w':=Z.alloc (.cells (bls g.length (fun _ =>false)) 4)) rfl rfl (fun c h =>by cases h) rfl ?_ (hK2 _ _ (hS.do9 hdn));generalize a.eval = ev at *;simp [execOp,go_sem,e35,hmk]
  ·cases ho;have e27:=(hag.val_ (j:=0) (t:=27) rfl (hdep ⟨0,.data⟩ qI0 rfl)).trans (hS.v0 (hdep ⟨0,.data⟩ qI0 rfl));have e30:=hag.val_ (j:=3) (t:=30) rfl (hdep ⟨3,.data⟩ qI0 rfl);have e33:=hag.val_ (j:=6) (t:=33) rfl (hdep ⟨6,.data⟩ qI0 rfl);have e36:=hag.val_ (j:=9) (t:=36) rfl (hdep ⟨9,.data⟩ qI0 rfl);obtain ⟨⟨p3,hs3,_⟩,⟨p6,hs6,_⟩,⟨p9,hs9,_⟩⟩:=zC3 (hS.s3 (hdep ⟨3,.data⟩ qI0 rfl)) (zC3 (hS.s6 (hdep ⟨6,.data⟩ qI0 rfl)) (hS.s9 (hdep ⟨9,.data⟩ qI0 rfl)));rw [hs3] at e30;rw [hs6] at e33;rw [hs9] at e36;refine a0G (i:=10) (r:=.agg #[.slice A g.length c,.slice (some ⟨p3,0,none⟩) g.length g.length,.slice (some ⟨p6,0,none⟩) g.length g.length,.slice none 0 0,.slice (some ⟨p9,0,none⟩) g.length g.length,.int .i64 0,.slice none 0 0]) (w':=Z) rfl rfl (fun c h =>by cases h) rfl ?_ (hK2 _ _ (hS.do10 hdn hs3 hs6 hs9 (hdep ⟨3,.data⟩ qI0 rfl) (hdep ⟨6,.data⟩ qI0 rfl) (hdep ⟨9,.data⟩ qI0 rfl)));generalize a.eval = ev at *;simp [execOp,go_sem,e27,e30,e33,e36]
  ·cases ho;have e37:=hag.val_ (j:=10) (t:=37) rfl (hdep ⟨10,.data⟩ qI0 rfl);obtain ⟨p3,p6,p9,hs10⟩:=hS.s10 (hdep ⟨10,.data⟩ qI0 rfl);rw [hs10.1] at e37;unfold fin0 at e37;refine a0G (i:=11) (r:=.pointer (some ⟨Z.heap.size,0,none⟩)) (w':=Z.alloc (.cells #[.slice A g.length c,.slice (some ⟨p3,0,none⟩) g.length g.length,.slice (some ⟨p6,0,none⟩) g.length g.length,.slice none 0 0,.slice (some ⟨p9,0,none⟩) g.length g.length,.int .i64 0,.slice none 0 0] 83)) rfl rfl (fun c h =>by cases h) rfl ?_ (hK2 _ _ (hS.do11 hdn (hdep ⟨10,.data⟩ qI0 rfl) hs10.2.1 hs10.2.2.1 hs10.2.2.2));generalize a.eval = ev at *;simp [execOp,go_sem,e37]
  ·cases ho;have e38:=hag.val_ (j:=11) (t:=38) rfl (hdep ⟨11,.data⟩ qI0 rfl);obtain ⟨F,p3,p6,p9,hs11⟩:=hS.s11 (hdep ⟨11,.data⟩ qI0 rfl);rw [hs11.1] at e38;refine a0G (i:=12) (r:=.pointer (some ⟨F,0,none⟩)) (w':=Z) rfl rfl (fun c h =>by cases h) rfl ?_ (hK2 _ _ (hS.do12 hdn (hdep ⟨11,.data⟩ qI0 rfl) hs11.1));generalize a.eval = ev at *;simp [execOp,go_sem,e38]
 case en3 =>
  intro Z done val hdn hS;simp only [putTmps,dstOf,zV1,zX0,zN1,Nat.reduceAdd,zE2,zM1,zT1,zN0,zC0,zG0,zH0];obtain ⟨F,b1,b2,b4,e12,fs0⟩:=hS.fs (hdn 12 qF0) HGF.out;rw [e12];have HOL:=zA0 (OL.start fs0 hS.be hS.be.size);obtain ⟨B,hB⟩:∃ B,W1.heap.size = B:=⟨_,rfl⟩;rw [hB] at HOL;have HBS:=zA0 hB;clear hS hdn fs0 e12 hB HMI HMB;go_wp2;go_loopg [41] g.length (fun kq v41 w' =>∃ (n:Nat) (s:St) (vs vk:Value),n + kq = g.length∧v41 = .int .i64 (n:Nat)∧Hid (OL B F b1 b2 b4 A c g W1 n s vs vk w'))
  case atStart =>exact ⟨0,_,_,_,by omega,rfl,HOL⟩
  case round =>
   obtain ⟨n,s,vs,vk,hn',rfl,HL⟩:=hrel;clear HOL;have ck:=HL.out.fs.cf;by_cases hn:n < g.length
   ·have hn0:(0:Int)≤(n:Int):=zJ0 n;have cn:=HL.out.fs.cn hn;have hw:=pzS n qD0;obtain ⟨k1,rfl⟩:∃ k1,gk = k1 + 1:=⟨gk - 1,by omega⟩;by_cases hi0:s.index n = 0
    ·have hib:((s.index n:Int) == 0) = true:=by rw [hi0];rfl
     have hcall:=c0E g GO.out A c B F b1 b2 b4 g.length s [] n vs vk wr HL.out.fs HL.out.inv HL.out.ct HL.out.tt hi0 hn (fun _ h =>by cases h) (a7T _ _) HL.out.bz;have HCALL:=zA0 hcall;have HI0:=zA0 hi0;clear hcall hi0
     go_wp2_with (first
      | (go_at_call 49;(with_reducible refine HCALL.out.mono ?_;rintro z w2 ⟨rfl,⟨vs3,vk3,hfs3⟩,hbe3⟩;have HFS3:=zA0 hfs3;have HBE3:=zA0 hbe3;clear hfs3 hbe3 ck cn)))
     go_roundg k1
     case measure =>exact zR0 _
     case rel =>
      refine ⟨n + 1,_,vs3,vk3,by rw [zA1,zC1 1];exact hn',by first | rw [hw] | simp [hw],zA0 ⟨?_,?_,?_,?_,HFS3.out,HL.out.be.trans HBE3.out,zE0 HL.out.bz HBE3.out.size⟩⟩
      ·rw [b2G,← HL.out.is,if_pos HI0.out]
      ·obtain ⟨e,p⟩:=b3D GO.out.adj g.length s [] n HL.out.inv HI0.out hn (fun _ h =>by cases h) (a7T _ _);exact p.inv
      ·rw [(b0V GO.out.adj g.length n s hn HI0.out).1];exact HL.out.ct
      ·exact (b0V GO.out.adj g.length n s hn HI0.out).2 HL.out.tt
    ·have hib:((s.index n:Int) == 0) = false:=by simpa using hi0
     have HI0:=zA0 hi0;clear hi0;go_wp2;clear ck cn;go_roundg k1
     case measure =>exact zR0 _
     case rel =>exact ⟨n + 1,s,vs,vk,by rw [zA1,zC1 1];exact hn',by first | rw [hw] | simp [hw],zA0 ⟨by rw [b2G,← HL.out.is,if_neg HI0.out],HL.out.inv,HL.out.ct,HL.out.tt,HL.out.fs,HL.out.be,HL.out.bz⟩⟩
   ·have hne:n = g.length:=by omega
    subst hne;have hkl:=b8F HL.out.inv HL.out.tt HL.out.ct;obtain ⟨Ak,cK,ek⟩:=Kd.a3V HL.out.fs.kn;obtain ⟨K,hK⟩:∃ K,K = s.knots.length:=⟨_,rfl⟩;have hKm:(s.knots.map toI).length = K:=by rw [zP1,hK]
    rw [hKm] at ek;subst ek;obtain ⟨bof,hbof⟩:∃ b,wr.heap.size = b:=⟨_,rfl⟩;obtain ⟨W4,hW4⟩:∃ W4,wr.alloc (.cells (ints g.length (fun _ =>0)) 3) = W4:=⟨_,rfl⟩;obtain ⟨bl,hbl⟩:∃ b,W4.heap.size = b:=⟨_,rfl⟩;obtain ⟨W5,hW5⟩:∃ W5,W4.alloc (.cells (ints K (fun _ =>0)) 3) = W5:=⟨_,rfl⟩;have hmi1:=makeI g.length hgl wr;have hmi2:=makeI K qD0 W4;rw [hbof,hW4] at hmi1;rw [hbl,hW5] at hmi2;have hkc:K≤cK:=by
     obtain ⟨_,h2,_⟩:=Kd.a2G HL.out.fs.kn;exact h2
    have hkF:Kd.F kL wr (fun k =>k < wr.heap.size) Ak s.knots.length (s.knots.map toI):=by
     have h1:=Kd.N_F (Kd.a8O HL.out.fs.kn);rw [hK] at h1;exact Kd.a2Z h1 (fun k hk =>hk.2)
    have hba:Below bof wr W5:=by
     rw [← hW5,← hW4,← hbof];exact a0C (a0C (zL0 _ _) _) _
    have hkm:KM B bof bof bl g.length K s.knots (.slice Ak K cK) (ofAt s.knots 0) (lowAt s.knots 0) W1 W5:=by
     have hlt:wr.heap.size < W4.heap.size:=by rw [← hW4];exact a1J (World.alloc_heap_new wr _)
     rw [hbof,hbl] at hlt;have hz:=HL.out.bz;rw [hbof] at hkF hz;refine ⟨Kd.a1Z hkF (by rw [hbof];exact hba),?_,?_,HL.out.be.trans (hba.mono hz),⟨zM0 _,zZ1 hlt,hz⟩,Nat.ne_of_lt hlt⟩
     ·rw [← hW5,← hW4,← hbof];exact a0J (World.alloc_heap_new wr _) _
     ·have:lowAt s.knots 0 = fun _ =>0:=by funext x;simp [lowAt]
      rw [this,← hW5,← hbl];exact World.alloc_heap_new _ _
    have HKM:=zA0 hkm;have HBA:=zA0 hba;have HKL:=zA0 hkl;have HKK:=zA0 hK;have hFb:F < bof:=by rw [← hbof];exact a1J HL.out.fs.f
    have HFB:=zA0 hFb;clear hkm hkF hkl hK hKm hba hFb;go_upto_region 11 with (fail)
    have fs4:=HL.out.fs.below (show Below wr.heap.size wr W4 from by rw [← hW4];exact a0C (zL0 wr.heap.size wr) _);clear ck;have ck:=fs4.cf;go_upto_region 12 with (fail)
    have fs5:=HL.out.fs.below (show Below wr.heap.size wr W5 from by rw [hbof];exact HBA.out);clear ck hmi1 hmi2 fs4;have ck:=fs5.cf;obtain ⟨Wa,hWa⟩:∃ W,W = wr:=⟨_,rfl⟩;have HWA:=zA0 hWa;rw [← hWa] at HBA;have HFS:=zA0 (show FS B F b1 b2 b4 A c g s vs (.slice Ak K cK) Wa from by rw [hWa];exact HL.out.fs);have HIS:=zA0 HL.out.is;have HIV:=zA0 HL.out.inv;have HBZ:=zA0 (show bof = Wa.heap.size from by rw [hWa];exact hbof.symm);clear fs5 hWa hbof hbl hW4 hW5 HL;go_wp2;clear ck;go_loopg [70] K (fun kq v70 w' =>∃ (k:Nat),k + kq = K∧v70 = .int .i64 (k:Nat)∧Hid (Below bof Wa w')∧Hid (KM B bof bof bl g.length K s.knots (.slice Ak K cK) (ofAt s.knots k) (lowAt s.knots k) W1 w'))
    case atStart =>exact ⟨0,by omega,rfl,HBA,HKM⟩
    case round =>
     obtain ⟨k,hk',rfl,HBW,HQ⟩:=hrel;clear HKM HBA;by_cases hk:k < K
     ·obtain ⟨ad,A0,c0,eA,hrow,hle,hF0⟩:=rowA HQ.out.kn k (by rw [← HKK.out];exact hk);have eA':Ak = some ad:=eA;subst eA';obtain ⟨l,hl⟩:∃ l,l = s.knots.getD k []:=⟨_,rfl⟩;have hml:(s.knots.map toI).getD k [] = toI l:=by
       rw [hl,zK0,zK0,List.getElem?_map,zF0 (by rw [← HKK.out];exact hk)];rfl
      rw [hml,a1U] at hrow hle hF0;have hlm:l ∈ s.knots:=by
       rw [hl,zK0,zF0 (by rw [← HKK.out];exact hk)];exact zE1 _
      have hlp:0 < l.length:=List.length_pos_iff.2 (HIV.out.kcl l hlm).1;have hln:∀ x,x ∈ l→x < g.length:=fun x hx =>HIV.out.vlt x ((HIV.out.kmem x).1 ⟨l,hlm,hx⟩).1
      have HLN:=zA0 hln;have HLL:=zA0 hl;have HF0:=zA0 hF0;obtain ⟨ad0,eA0,hz0⟩:=Kd.a2R (Kd.a5P HF0.out) 0 (Int.le_refl 0) qD0;subst eA0;obtain ⟨x0,hx0⟩:∃ x,x = l.getD 0 0:=⟨_,rfl⟩;have hz1:wr.cell? (ad0.add 0) = some (.int .i64 (x0:Nat)):=by
       rw [show (0:Nat) = (0:Int).toNat from rfl,hz0];unfold rd;rw [show (0:Int).toNat = 0 from rfl,a7I _ _ hlp,hx0,zK0,zF0 hlp];rfl
      have hz2:wr.cell? ad0 = some (.int .i64 (x0:Nat)):=by
       have e:ad0.add 0 = ad0:=by unfold Addr.add;simp
       rwa [e] at hz1
      have zl:=a0L HQ.out.lo k;have zlf:=a0Q HQ.out.lo k;rw [a3K _ hk] at zl;have hw:=pzS k (by have:=HKL.out;have:=HKK.out;omega);have hk0:(0:Int)≤(k:Int):=zJ0 k;obtain ⟨k1,rfl⟩:∃ k1,gk = k1 + 1:=⟨gk - 1,by omega⟩;have HX0:=zA0 hx0;clear hl hml hlm hln hF0 hz0 hx0;go_upto_region 16 with (fail)
      have hq1:=HQ.out.setLo k x0;have hlow:Tarj.upd (lowAt s.knots k) k x0 = lowAt s.knots (k + 1):=by rw [b9N,HX0.out,HLL.out]
      rw [hlow] at hq1;have hge:=HQ.out.ge;have hF6:Kd.F kI (wr.setCell ⟨bl,k,none⟩ (.int .i64 (x0:Nat))) (fun q =>q < bof) (some ad0) l.length (toI l):=Kd.b0B (p:=⟨bl,k,none⟩) HF0.out (fun q hq e =>by (have e':q = bl:=e);omega) _;have HF6:=zA0 hF6;have HBW6:=zA0 (HBW.out.setCell (p:=⟨bl,k,none⟩) hge.2.1 (.int .i64 (x0:Nat)));have HQ1:=zA0 (show KM B bof bof bl g.length K s.knots (.slice (some ad) K cK) (ofRow k (l.take 0) (ofAt s.knots k)) (lowAt s.knots (k + 1)) W1 _ from by rw [zD2];exact hq1);clear hq1 hlow hz1 hz2 zl zlf hrow hF6 hge HQ HF0 HBW;generalize wr.setCell ⟨bl,k,none⟩ (.int .i64 (x0:Nat)) = W6 at HQ1 HF6 HBW6 ⊢;go_wp2;go_loopg [83] l.length (fun kq v83 w' =>∃ (j:Nat),j + kq = l.length∧v83 = .int .i64 (j:Nat)∧Hid (Below bof Wa w')∧Hid (Kd.F kI w' (fun q =>q < bof) (some ad0) l.length (toI l))∧Hid (KM B bof bof bl g.length K s.knots (.slice (some ad) K cK) (ofRow k (l.take j) (ofAt s.knots k)) (lowAt s.knots (k + 1)) W1 w'))
      case atStart =>exact ⟨0,by omega,rfl,HBW6,HF6,HQ1⟩
      case round =>
       obtain ⟨j,hj,rfl,HBW7,HF7,HQ7⟩:=hrel;by_cases hlt:j < l.length
       ·obtain ⟨x,hx,hxn⟩:∃ x,x = l[j]∧x < g.length:=⟨_,rfl,HLN.out _ (zE1 hlt)⟩;obtain ⟨ad1,eA1,hz0⟩:=Kd.a2R (Kd.a5P HF7.out) (j:Int) (zJ0 j) (zG1.2 hlt);cases eA1;rw [zP0] at hz0;have hz1:wr.cell? (ad0.add j) = some (.int .i64 (x:Nat)):=by
         rw [hz0];unfold rd;rw [zP0,a7I _ _ hlt,hx]
        have zo:=a0L HQ7.out.of x;have zof:=a0Q HQ7.out.of x;rw [a3K _ hxn] at zo;have hx0:(0:Int)≤(x:Int):=zJ0 x;have hlen:=(Kd.a5P HF7.out).2.1;have hwj:wrap64 ((j:Int) + 1) = ((j + 1:Nat):Int):=by simp only [wrap64];omega
        have hge:=HQ7.out.ge;have HF9:=zA0 (Kd.b0B (p:=⟨bof,x,none⟩) HF7.out (fun q hq e =>by (have e':q = bof:=e);omega) (.int .i64 (k:Nat)));have HBW9:=zA0 (HBW7.out.setCell (p:=⟨bof,x,none⟩) (zM0 _) (.int .i64 (k:Nat)));have hq9:=HQ7.out.setOf x k;rw [hx,← b9L k l j hlt,← hx] at hq9;have HQ9:=zA0 hq9;obtain ⟨k2,rfl⟩:∃ k2,gk = k2 + 1:=⟨gk - 1,by omega⟩;have HJ:=zA0 hj;clear hz0 hq9 hge hx hlen HF7 HQ7 HBW7 HX0 HF6 HQ1 HBW6 hk' hj;go_wp2;go_roundg k2
        case measure =>exact zR0 _
        case rel =>exact ⟨j + 1,by rw [zA1,zC1 1];exact HJ.out,by first | rw [hwj] | simp [hwj],HBW9,HF9,HQ9⟩
       ·have hje:j = l.length:=by omega
        have hq9:=HQ7.out;rw [hje,zH1,HLL.out,← b5N] at hq9;have HQ9:=zA0 hq9;clear hq9 hje;go_wp2;go_roundg k1
        case measure =>exact zR0 _
        case rel =>exact ⟨k + 1,by rw [zA1,zC1 1];exact hk',by first | rw [hw] | simp [hw],HBW7,HQ9⟩
     ·have hke:K = k:=by omega
      subst hke;have hKN:K≤1000:=by have:=HKL.out;have:=HKK.out;omega
      have hfs8:=HFS.out.below (show Below Wa.heap.size Wa wr from by rw [← HBZ.out];exact HBW.out);have ck:=hfs8.cf;obtain ⟨cls,hcls⟩:∃ f,f = ofAt s.knots K:=⟨_,rfl⟩;obtain ⟨lw,hlw⟩:∃ f,f = lowAt s.knots K:=⟨_,rfl⟩;have hks:s.knots = knotsF (adjF g) g.length:=by rw [HIS.out];rfl
      have hKH:=kh_ok GO.out.adj hks HKK.out;have hq8:=HQ.out;rw [← hcls,← hlw] at hKH hq8;have hge8:=hq8.ge;have hg8:Kd.F kL wr (fun q =>q < wr.heap.size) A g.length g:=Kd.a2Z hfs8.gF (fun q hq =>by have:=a1J hq8.of;omega);have hfold:=b8K g GO.out A c bof K cls wr hg8 hq8.of hKN hKH.cl hlc;rw [show (fun i =>cmpN (rowsAt cls (adjF g) g.length i)) = rowK (adjF g) g.length cls from rfl] at hfold;have HFOLD:=zA0 hfold;have HKH:=zA0 hKH;have HQ8:=zA0 hq8;have hlwof:=zA0 (zC3 hq8.of hq8.lo);clear hfold hg8 hq8 hKH hks hfs8 hcls hlw HQ HIS HIV HFS hge8
      go_upto_region 23 with (first
       | (go_at_call 50;(with_reducible refine HFOLD.out.mono ?_;rintro z w8 ⟨bo,rfl,⟨v8,hfd8⟩,hbe8⟩;have HFD8:=zA0 hfd8;have HBE8:=zA0 hbe8;clear hfd8 hbe8)))
      clear ck;have hmay8:=b4Y (K:=K) HKH.out.hN HKH.out.cl hKN;obtain ⟨kT,hkT⟩:=gturn_ev _ (a6E hmay8).sm;have hturn:=graph_Turn.calls kT (some ⟨bo,0,none⟩) K (rowsK (adjF g) g.length cls K) _ w8 (by rw [a5T];exact HFD8.out.reads hKN) (by rw [a5T];exact zM0 _) (hkT kT (zM0 _));rw [a5T,turnK_eq HKH.out.hN HKH.out.cl hKN] at hturn;have HTURN:=zA0 hturn;clear hturn hkT hmay8
      go_upto_region 24 with (first
       | (go_at_call 51;(with_reducible refine HTURN.out.mono ?_;rintro z w9 ⟨v9,rfl,hs9,hbe9⟩;have HS9:=zA0 hs9;have HBE9:=zA0 hbe9;clear hs9 hbe9)))
      have hs9l:((List.range K).map fun k =>toI (turnK (adjF g) g.length cls K k)).length = K:=by simp
      obtain ⟨At,cT,et⟩:=Kd.a3V (Kd.S_N HS9.out);rw [hs9l] at et;subst et;have hcT:K≤cT:=by
       obtain ⟨_,h2,_⟩:=Kd.a2G (Kd.S_N HS9.out);exact h2
      have htF:Kd.F kL w9 (fun q =>q < w9.heap.size) At K ((List.range K).map fun k =>toI (turnK (adjF g) g.length cls K k)):=by
       have h1:=Kd.N_F (Kd.a8O (Kd.S_N HS9.out));exact Kd.a2Z h1 (fun q hq =>hq.2)
      obtain ⟨blf,hblf⟩:∃ b,w9.heap.size = b:=⟨_,rfl⟩;obtain ⟨w10,hw10⟩:∃ w,w9.alloc (.cells (ints K (fun _ =>0)) 3) = w:=⟨_,rfl⟩;have hmi3:=makeI K hKN w9;rw [hblf,hw10] at hmi3;have hlf10:w10.heap[blf]? = some (.cells (ints K (fun _ =>0)) 3 (0,0)):=by rw [← hw10,← hblf];exact World.alloc_heap_new _ _
      have hbe10:Below w9.heap.size w9 w10:=by rw [← hw10];exact a0C (zL0 _ _) _
      have HTF:=zA0 htF;have HBE10:=zA0 hbe10;have HLF10:=zA0 hlf10;have HBLF:=zA0 hblf;clear htF hbe10 hlf10 hblf hw10 hs9l;go_upto_region 25 with (fail)
      clear hmi3;go_upto_region 26 with (fail)
      obtain ⟨r,hr⟩:∃ r,r = rowK (adjF g) g.length cls:=⟨_,rfl⟩;obtain ⟨tn,htn⟩:∃ t,t = turnK (adjF g) g.length cls K:=⟨_,rfl⟩;have hkh:=HKH.out;have hfd:=HFD8.out;have htf:=HTF.out;rw [← hr,← htn] at hkh;rw [← hr] at hfd;rw [← htn] at htf;have hz1:=HBE8.out.size;have hz2:=HBE9.out.size;have hbfl:=a1J HQ8.out.of;have hbll:=a1J HQ8.out.lo;have hge:=HQ8.out.ge;have hbl:=HBLF.out;have hb810:Below w8.heap.size w8 w10:=HBE9.out.trans (HBE10.out.mono hz2);have hbr10:Below wr.heap.size wr w10:=HBE8.out.trans (hb810.mono hz1);have hps:=PS.start (a0P HQ8.out.lo hbr10) HLF10.out (HQ8.out.be.trans (hbr10.mono qD0)) (show B≤blf by omega) (show bl≠blf by omega);obtain ⟨R,hR⟩:∃ R,w10.heap.size = R:=⟨_,rfl⟩;obtain ⟨Wr,hWr⟩:∃ w,w10.alloc (.cells #[.slice none 0 0,.slice (some ⟨bl,0,none⟩) K K] 88) = w:=⟨_,rfl⟩;have hbrr:Below w10.heap.size w10 Wr:=by rw [← hWr];exact a0C (zL0 _ _) _
      rw [hR,hWr,← lfA_zero r] at hps;rw [hR,hWr];have hbo:Wr.heap[bo]? = some (.cells (vals K v8) 43 (0,0)):=a0P (a0P hfd.o hb810) hbrr;have hbol:bo < blf:=zJ1 (a1J hfd.o) qD0;have hbofr:Wr.heap[bof]? = some (.cells (ints g.length cls) 3 (0,0)):=a0P (a0P HQ8.out.of hbr10) hbrr;have hv8:∀ i,i < K→∃ A c,v8 i = .slice A (r i).length c:=fun i hi =>by
       obtain ⟨A,c,e⟩:=Kd.a1Y (hfd.r i hi);rw [a1U] at e;exact ⟨A,c,e⟩
      have htr:Kd.F kL Wr (fun q =>q < blf) At K ((List.range K).map fun k =>toI (tn k)):=by
       rw [hbl] at htf;exact Kd.a6A htf (fun k hk hlt =>(hbrr.block k (by have:=HBE10.out.size;omega)).trans (HBE10.out.block k hlt))
      have HKH2:=zA0 hkh;have HPS0:=zA0 hps;have HBO:=zA0 (zC3 hbo hbol);have HBOF:=zA0 (zC3 hbofr (show bof < blf by omega));have HV8:=zA0 hv8;have HTR:=zA0 htr;have HBB:=zA0 (show W.heap.size≤bof by have:=HBS.out;have:=HB1.out.size;omega);have HBG:=zA0 (show B≤bof by omega);have HBG2:=zA0 (show W.heap.size≤B by have:=HBS.out;have:=HB1.out.size;omega);clear hkh hfd htf hz1 hz2 hbfl hbll hge hbl hb810 hbr10 hps hbrr hbo hbol hbofr hv8 htr hr htn hR hWr HKH HFD8 HTF HBE8 HBE9 HBE10 HLF10 HBLF HS9 HTURN HFOLD HQ8 hlwof HBW;clear HKK HKL HWA HBZ HFB;go_wp2;go_loopg [111] K (fun kq v111 w' =>∃ (i:Nat) (v:Value) (l:List Nat),i + kq = K∧v111 = .int .i64 (i:Nat)∧Hid (PS B R bl blf K lw v l (lfA r i) W1 Wr w')∧Hid ((∀ k,k ∈ l ↔ k < i∧(r k).length = 0)∧l.Nodup))
      case atStart =>exact ⟨0,_,[],by omega,rfl,HPS0,zA0 ⟨fun k =>⟨fun h =>(by cases h),fun h =>absurd h.1 (zZ2 _)⟩,List.nodup_nil⟩⟩
      case round =>
       obtain ⟨i,v,l,hi',rfl,HPS,HLM⟩:=hrel;clear HPS0;by_cases hi:i < K
       ·obtain ⟨A0,c0,e0⟩:=HV8.out i hi;have hzo:wr.heap[bo]? = some (.cells (vals K v8) 43 (0,0)):=(HPS.out.fz bo (by have:=HPS.out.bb;have:=HBO.out.2;omega) (by have:=HBO.out.2;omega)).trans HBO.out.1;have zr:wr.cell? ⟨bo,i,none⟩ = some (.slice A0 (r i).length c0):=by rw [← e0];exact (a0L hzo i).trans (a7U _ hi)
        have zl:wr.cell? ⟨blf,i,none⟩ = some (.int .i64 (lfA r i i:Nat)):=(a0L HPS.out.lf i).trans (a3K _ hi);have zlf:=a0Q HPS.out.lf i;have hw:=pzS i qD0;have hi0:(0:Int)≤(i:Int):=zJ0 i;obtain ⟨k1,rfl⟩:∃ k1,gk = k1 + 1:=⟨gk - 1,by omega⟩;clear hzo e0;go_upto_region 30 with (fail)
        have hps6:=HPS.out.setLeft i (r i).length;rw [lfA_succ] at hps6;have HPS6:=zA0 hps6;clear hps6 zr zl zlf;generalize wr.setCell ⟨blf,i,none⟩ (.int .i64 ((r i).length:Nat)) = W6 at HPS6 ⊢;have zl:W6.cell? ⟨blf,i,none⟩ = some (.int .i64 (lfA r (i + 1) i:Nat)):=(a0L HPS6.out.lf i).trans (a3K _ hi);rw [show lfA r (i + 1) i = (r i).length from by unfold lfA;rw [if_pos (zR0 i)]] at zl;by_cases h0:(r i).length = 0
        ·have hib:(((r i).length:Int) == 0) = true:=by rw [h0];rfl
         have hll:l.length≤i:=b0H HLM.out.2 (fun x hx =>((HLM.out.1 x).1 hx).1);have hpush:=b5T HPS6.out.rs HPS6.out.hp i hi qD0 HPS6.out.hz;have HPUSH:=zA0 hpush;have H0:=zA0 h0;clear hpush hll h0
         go_wp2_with (first
          | (go_at_call 52;(with_reducible refine HPUSH.out.mono ?_;rintro z w7 ⟨rfl,v7,l7,hrs7,hpm7,hhp7,hht7⟩;have HRS7:=zA0 hrs7;have HPM7:=zA0 hpm7;have HHP7:=zA0 hhp7;have HHT7:=zA0 hht7;clear hrs7 hpm7 hhp7 hht7 zl)))
         go_roundg k1
         case measure =>exact zR0 _
         case rel =>
          refine ⟨i + 1,v7,l7,by rw [zA1,zC1 1];exact hi',by first | rw [hw] | simp [hw],zA0 (HPS6.out.ht HRS7.out HHP7.out HHT7.out),zA0 ⟨fun k =>?_,?_⟩⟩
          ·rw [HPM7.out.mem_iff,zY0,zD1,HLM.out.1 k];constructor
           ·rintro (q | rfl)
            ·exact ⟨by omega,q.2⟩
            ·exact ⟨zR0 _,H0.out⟩
           ·rintro ⟨q1,q2⟩;by_cases e:k = i
            ·exact .inr e
            ·exact .inl ⟨by omega,q2⟩
          ·refine HPM7.out.nodup_iff.2 (List.nodup_append.2 ⟨HLM.out.2,by simp,fun a ha b hb e =>?_⟩);rw [zD1.1 hb] at e;have:=((HLM.out.1 a).1 ha).1;omega
        ·have hib:(((r i).length:Int) == 0) = false:=by simpa using h0
         have H0:=zA0 h0;clear h0;go_wp2;go_roundg k1
         case measure =>exact zR0 _
         case rel =>
          refine ⟨i + 1,v,l,by rw [zA1,zC1 1];exact hi',by first | rw [hw] | simp [hw],HPS6,zA0 ⟨fun k =>?_,HLM.out.2⟩⟩;rw [HLM.out.1 k];exact ⟨fun q =>⟨by omega,q.2⟩,fun q =>⟨by (by_cases e:k = i;· exact absurd (e ▸ q.2) H0.out);omega,q.2⟩⟩
       ·have hie:K = i:=by omega
        subst hie;have hki:=KI.start (l:=l) HKH2.out (left:=lfA r K) (fun k hk =>by unfold lfA;rw [if_pos hk]) HLM.out.1 HLM.out.2;have hnm:=NM.start HPS.out;have hps2:=HPS.out.below (a0C (zL0 wr.heap.size wr) (.cells (ints K (fun _ =>0)) 3));have hmi4:=makeI K hKN wr;obtain ⟨bn,hbn⟩:∃ b,wr.heap.size = b:=⟨_,rfl⟩;obtain ⟨w12,hw12⟩:∃ w,wr.alloc (.cells (ints K (fun _ =>0)) 3) = w:=⟨_,rfl⟩;rw [hbn,hw12] at hmi4 hnm;rw [hw12] at hps2;have HKI:=zA0 hki;have HNM:=zA0 hnm;have HPS2:=zA0 hps2;clear hki hnm hps2 hbn hw12 HPS HLM;go_upto_region 34 with (fail)
        clear hmi4;go_wp2;go_loopg [18] K (fun kq v18 w' =>∃ (n:Nat) (dn:Nat→Bool) (num left:Nat→Nat) (v:Value) (l:List Nat),n + kq = K∧v18 = .int .i64 (n:Nat)∧Hid (PS B R bl blf K lw v l left W1 Wr w')∧Hid (NM R bn K num v w')∧Hid (KI (adjF g) g.length K cls r n dn num left l))
        case atStart =>exact ⟨0,_,_,_,_,_,by omega,rfl,HPS2,HNM,HKI⟩
        case round =>
         obtain ⟨n,dn,num,left,v,l,hn2,rfl,HPS,HNM,HKI⟩:=hrel;clear HPS2;have hlen:=b6Z HPS.out.rs;have HLEN:=zA0 hlen;have hll:=b0H HKI.out.ln (fun x hx =>HKI.out.num_lt x hx);have hn0:(0:Int)≤(n:Int):=zJ0 n;have hnK:=HKI.out.len;have hw:=pzS n qD0;clear hlen;by_cases hl0:0 < l.length
         ·have hgt:(l.length:Int) > 0:=by omega
          have hpop:=hpop_any HPS.out.rs HPS.out.hp hl0 HPS.out.hz;have HPOP:=zA0 hpop;have hta:=tAss;obtain ⟨k1,rfl⟩:∃ k1,gk = k1 + 1:=by
           cases l with
           | nil =>exact absurd hl0 (zA2 0)
           | cons y l' =>
            obtain ⟨q1,q2,_⟩:=(HKI.out.lm y).1 zU0;have h1:=HKI.out.ct;have h2:=nd_in (dn:=dn) q2 (List.nodup_range (n:=K)) (zZ0.2 q1);exact ⟨gk - 1,by omega⟩
          clear hpop hl0 hll
          go_upto_region 38 with (first
           | (go_at_call 53;(with_reducible refine HLEN.out.mono ?_;rintro z w2 ⟨rfl,hw2⟩;obtain rfl:wr = w2:=hw2.symm))
           | (go_at_call 54;(with_reducible refine HPOP.out.mono ?_;rintro z w2 ⟨x,v2,l2,rfl,hrs2,hpm2,hhp2,hht2,hmin2⟩;have HRS2:=zA0 hrs2;have HPM2:=zA0 hpm2;have HHP2:=zA0 hhp2;have HHT2:=zA0 hht2;have HMIN2:=zA0 hmin2;clear hrs2 hpm2 hhp2 hht2 hmin2)))
          clear hta hgt;have hxl:x ∈ l:=HPM2.out.mem_iff.1 zU0;have hxK:=HKI.out.num_lt x hxl;have hps2:=HPS.out.ht HRS2.out HHP2.out HHT2.out;have hnm2:=HNM.out.ht (a1J HNM.out.nm) HHT2.out;have hx0:(0:Int)≤(x:Int):=zJ0 x;have zn:w2.cell? ⟨bn,x,none⟩ = some (.int .i64 (num x:Nat)):=(a0L hnm2.nm x).trans (a3K _ hxK);have znf:=a0Q hnm2.nm x;have HPS3:=zA0 (hps2.setNum hnm2 x (.int .i64 (n:Nat)));have HNM3:=zA0 (hnm2.set x n);have HXL:=zA0 hxl;clear hps2 hnm2 HRS2 HHP2 HHT2 HPS HNM hxl;go_upto_region 39 with (fail)
          clear zn znf;generalize w2.setCell ⟨bn,x,none⟩ (.int .i64 (n:Nat)) = W3 at HPS3 HNM3 ⊢;obtain ⟨ad,A0,c0,eA,hrow,hle,hF0⟩:=rowA (HPS3.out.old HTR.out) x hxK;subst eA;obtain ⟨t,ht⟩:∃ t,t = tn x:=⟨_,rfl⟩;have hgt3:((List.range K).map fun k =>toI (tn k)).getD x [] = toI t:=by
           rw [ht,zK0,List.getElem?_map,List.getElem?_range hxK];rfl
          rw [hgt3,a1U] at hrow hle hF0;have HF0:=zA0 hF0;have HT:=zA0 ht;have htnd:t.Nodup:=by rw [ht];exact HKH2.out.tnn x hxK
          have HTND:=zA0 htnd;have htK:∀ m,m ∈ t→m < K∧dn m = false∧1≤left m∧m≠x∧m ∉ l:=fun m hm =>HKI.out.told HKH2.out HXL.out (by rw [← ht];exact hm)
          have HTK:=zA0 htK;have hl2n:l2.Nodup:=(List.nodup_cons.1 (HPM2.out.nodup_iff.2 HKI.out.ln)).2;have hl2l:∀ m,m ∈ t→m ∉ l2:=fun m hm q =>(htK m hm).2.2.2.2 (HPM2.out.mem_iff.1 (zV0 _ q))
          have HL2L:=zA0 hl2l;have hlb:∀ m,m < K→left m≤1000:=fun m hm =>by
           rw [HKI.out.lf m hm];refine zE0 (zD3 _ _) (zE0 (b0H (K:=K) (HKH2.out.rn m hm) (fun y hy =>?_)) hKN);obtain ⟨_,q,_,_,u,hu,e⟩:=(HKH2.out.rm m hm y).1 hy;exact e ▸ HKH2.out.cl u (HKH2.out.hN q qI1 u hu)
          have HLB:=zA0 hlb;have HKJ0:=zA0 (KJ.start t left hl2n);clear hgt3 hF0 ht htnd htK hl2n hl2l hlb;go_wp2;go_loopg [153] t.length (fun kq v153 w' =>∃ (j:Nat) (left1:Nat→Nat) (v1:Value) (l1:List Nat),j + kq = t.length∧v153 = .int .i64 (j:Nat)∧Hid (Kd.F kI w' (fun q =>q < blf) A0 t.length (toI t))∧Hid (PS B R bl blf K lw v1 l1 left1 W1 Wr w')∧Hid (NM R bn K (Tarj.upd num x n) v1 w')∧Hid (KJ t left l2 j left1 l1))
          case atStart =>exact ⟨0,_,_,_,by omega,rfl,HF0,HPS3,HNM3,HKJ0⟩
          case round =>
           obtain ⟨j,left1,v1,l1,hj,rfl,HF,HPS,HNM,HKJ⟩:=hrel;clear HPS3 HNM3 HKJ0 HF0;by_cases hlt:j < t.length
           ·obtain ⟨m,hm⟩:∃ m,m = t[j]:=⟨_,rfl⟩;have hmt:m ∈ t:=by rw [hm];exact zE1 hlt
            obtain ⟨hmK,hmd,hml,hmx,_⟩:=HTK.out m hmt;obtain ⟨ad1,eA1,hz0⟩:=Kd.a2R (Kd.a5P HF.out) (j:Int) (zJ0 j) (zG1.2 hlt);subst eA1;rw [zP0] at hz0;have hz1:wr.cell? (ad1.add j) = some (.int .i64 (m:Nat)):=by
             rw [hz0];unfold rd;rw [zP0,a7I _ _ hlt,hm]
            have hval:left1 m = left m:=by rw [hm];exact HKJ.out.val HTND.out hlt
            have hl1:1≤left1 m:=by rw [hval];exact hml
            have hlm:left1 m≤1000:=by rw [hval];exact HLB.out m hmK
            have zl:wr.cell? ⟨blf,m,none⟩ = some (.int .i64 (left1 m:Nat)):=(a0L HPS.out.lf m).trans (a3K _ hmK);have zlf:=a0Q HPS.out.lf m;have hm0:(0:Int)≤(m:Int):=zJ0 m;have hlen:=(Kd.a5P HF.out).2.1;have hwj:wrap64 ((j:Int) + 1) = ((j + 1:Nat):Int):=by simp only [wrap64];omega
            have hws:wrap64 ((left1 m:Int) - 1) = ((left1 m - 1:Nat):Int):=by simp only [wrap64];omega
            have hml2:m ∉ l2:=HL2L.out m hmt;have HM:=zA0 hm;have HML2:=zA0 hml2;have HJ:=zA0 hj;obtain ⟨k2,rfl⟩:∃ k2,gk = k2 + 1:=⟨gk - 1,by omega⟩;clear hz0 hval hl1 hlm hlen hml hmd hmx hml2 hmt hm hj;go_upto_region 43 with (fail)
            have HPS5:=zA0 (HPS.out.setLeft m (left1 m - 1));have HNM5:=zA0 (HNM.out.setLeft HPS.out.bb.2.1 m (.int .i64 ((left1 m - 1:Nat))));have HF5:=zA0 (Kd.b0B (p:=⟨blf,m,none⟩) HF.out (fun q hq e =>by (have e':q = blf:=e);omega) (.int .i64 ((left1 m - 1:Nat))));clear zl zlf hws hz1;generalize wr.setCell ⟨blf,m,none⟩ (.int .i64 ((left1 m - 1:Nat))) = W5 at HPS5 HNM5 HF5 ⊢;have zl:W5.cell? ⟨blf,m,none⟩ = some (.int .i64 ((left1 m - 1:Nat):Int)):=by
             have:=(a0L HPS5.out.lf m).trans (a3K _ hmK);rw [Tarj.a4F] at this;exact this
            by_cases h0:left1 m - 1 = 0
            ·have hib:(((left1 m - 1:Nat):Int) == 0) = true:=by rw [h0];rfl
             have hml1:m ∉ l1:=by rw [HM.out];exact HKJ.out.new HTND.out hlt (by rw [← HM.out];exact HML2.out)
             have hcn:(m :: l1).length≤K:=b0H (List.nodup_cons.2 ⟨hml1,HKJ.out.ln⟩) (fun y hy =>(zS0.1 hy).elim (fun e =>e ▸ hmK) (fun q =>HPS.out.rs.mem y q));rw [zX0] at hcn;have hpush:=b5T HPS5.out.rs HPS5.out.hp m hmK qD0 HPS5.out.hz;have HPUSH:=zA0 hpush;have H0:=zA0 h0;clear hpush hcn hml1 h0
             go_wp2_with (first
              | (go_at_call 52;(with_reducible refine HPUSH.out.mono ?_;rintro z w7 ⟨rfl,v7,l7,hrs7,hpm7,hhp7,hht7⟩;have HRS7:=zA0 hrs7;have HPM7:=zA0 hpm7;have HHP7:=zA0 hhp7;have HHT7:=zA0 hht7;clear hrs7 hpm7 hhp7 hht7 zl)))
             go_roundg k2
             case measure =>exact zR0 _
             case rel =>
              refine ⟨j + 1,Tarj.upd left1 m (left1 m - 1),v7,l7,by rw [zA1,zC1 1];exact HJ.out,by first | rw [hwj] | simp [hwj],zA0 (Kd.a6A HF5.out (fun q hq hlt2 =>HHT7.out.be.block q (by have:=HPS5.out.bb;omega))),zA0 (HPS5.out.ht HRS7.out HHP7.out HHT7.out),zA0 (HNM5.out.ht (a1J HNM5.out.nm) HHT7.out),zA0 ?_⟩;have hm:=HM.out;have:=HKJ.out.step HTND.out hlt (by rw [← hm];exact HML2.out) (l1:=l7) (by rw [← hm,if_pos H0.out];exact HPM7.out);rw [← hm] at this;exact this
            ·have hib:(((left1 m - 1:Nat):Int) == 0) = false:=by simpa using h0
             have H0:=zA0 h0;clear h0;go_wp2;go_roundg k2
             case measure =>exact zR0 _
             case rel =>
              refine ⟨j + 1,Tarj.upd left1 m (left1 m - 1),v1,l1,by rw [zA1,zC1 1];exact HJ.out,by first | rw [hwj] | simp [hwj],HF5,HPS5,HNM5,zA0 ?_⟩;have hm:=HM.out;have:=HKJ.out.step HTND.out hlt (by rw [← hm];exact HML2.out) (l1:=l1) (by rw [← hm,if_neg H0.out]);rw [← hm] at this;exact this
           ·have hje:t.length = j:=by omega
            have hKI2:=HKI.out.next HKH2.out HPM2.out HMIN2.out (left1:=left1) (l1:=l1) (by rw [← HT.out,hje];exact HKJ.out);have HKI2:=zA0 hKI2;clear hKI2 hje;go_wp2;go_roundg k1
            case measure =>exact zR0 _
            case rel =>exact ⟨n + 1,_,_,left1,v1,l1,by rw [zA1,zC1 1];exact hn2,by first | rw [hw] | simp [hw],HPS,HNM,HKI2⟩
         ·have hln:l = []:=List.eq_nil_of_length_eq_zero qD0;subst hln;have hNmb:=HKI.out.done HKH2.out;have HNMB:=zA0 hNmb;have hgt:¬ (((([]:List Nat).length:Nat):Int) > 0):=by simp
          have hbb:=HPS.out.bb;have hofr:=(HPS.out.fz bof (by have:=HBOF.out.2;omega) (by have:=HBOF.out.2;omega)).trans HBOF.out.1;rw [← c2D num cls] at hofr;have HFIN:=zA0 (show wr.heap[bof]? = some (.cells (ints g.length (mixF num cls 0)) 3 (0,0))∧wr.heap[bn]? = some (.cells (ints K num) 3 (0,0))∧Below B W1 wr from ⟨hofr,HNM.out.nm,HPS.out.be⟩);have HNE:=zA0 (show bof≠bn∧B≤bof from ⟨by have:=HBOF.out.2;have:=HNM.out.nb.1;omega,HBG.out⟩);clear hNmb hl0 hll hbb hofr HPS HNM HKI
          go_upto_region 46 with (first
           | (go_at_call 53;(with_reducible refine HLEN.out.mono ?_;rintro z w2 ⟨rfl,hw2⟩;obtain rfl:wr = w2:=hw2.symm)))
          go_wp2;go_loopg [176] g.length (fun kq v176 w' =>∃ (i:Nat),i + kq = g.length∧v176 = .int .i64 (i:Nat)∧Hid (w'.heap[bof]? = some (.cells (ints g.length (mixF num cls i)) 3 (0,0))∧w'.heap[bn]? = some (.cells (ints K num) 3 (0,0))∧Below B W1 w'))
          case atStart =>exact ⟨0,by omega,rfl,HFIN⟩
          case round =>
           obtain ⟨i,hi',rfl,HI⟩:=hrel;clear HFIN;by_cases hi:i < g.length
           ·have hcK:=HKH2.out.cl i hi;have zo:wr.cell? ⟨bof,i,none⟩ = some (.int .i64 (cls i:Nat)):=by
             have:=(a0L HI.out.1 i).trans (a3K _ hi);rw [mixF_at] at this;exact this
            have zof:=a0Q HI.out.1 i;have zn:wr.cell? ⟨bn,cls i,none⟩ = some (.int .i64 (num (cls i):Nat)):=(a0L HI.out.2.1 (cls i)).trans (a3K _ hcK);have hi0:(0:Int)≤(i:Int):=zJ0 i;have hc0:(0:Int)≤(cls i:Int):=zJ0 (cls i);have hwi:=pzS i qD0;obtain ⟨k1,rfl⟩:∃ k1,gk = k1 + 1:=⟨gk - 1,by omega⟩
            have HI2:=zA0 (show (wr.setCell ⟨bof,i,none⟩ (.int .i64 (num (cls i):Nat))).heap[bof]? = some (.cells (ints g.length (mixF num cls (i + 1))) 3 (0,0))∧(wr.setCell ⟨bof,i,none⟩ (.int .i64 (num (cls i):Nat))).heap[bn]? = some (.cells (ints K num) 3 (0,0))∧Below B W1 (wr.setCell ⟨bof,i,none⟩ (.int .i64 (num (cls i):Nat))) from
             ⟨by rw [← c2E];exact a3G HI.out.1 i _ (a6W _ _ _ _),a2K HI.out.2.1 (Ne.symm HNE.out.1) _,HI.out.2.2.setCell (p:=⟨bof,i,none⟩) HNE.out.2 _⟩)
            clear HI;go_wp2;go_roundg k1
            case measure =>exact zR0 _
            case rel =>exact ⟨i + 1,by rw [zA1,zC1 1];exact hi',by first | rw [hwi] | simp [hwi],HI2⟩
           ·have hie:g.length = i:=by omega
            go_wp2;go_ret;refine ⟨bof,n,_,rfl,HNMB.out,HBB.out,?_,HB1.out.trans (HI.out.2.2.mono HBG2.out)⟩;rw [HI.out.1]
            congr 2
            rw [← hie];unfold ints
            congr 1
            apply List.map_congr_left;intro q hq;rw [zZ0] at hq;unfold mixF;rw [if_pos hq]
attribute [local go_sem] Oper.semAt_some a3J a3I a4D a4C
theorem toL_ints (N:Nat) (num:Nat→Nat):(ints N num).toList = (toL N num).map (Value.int .i64):=by
 unfold ints toL;rw [List.map_map];rfl
theorem R_ints {W:World} {b base N:Nat} {num:Nat→Nat} (h:W.heap[b]? = some (.cells (ints N num) 3 (0,0))) (hb:base≤b) (hN:N≤1000):kI.R 3 W base (fun _ =>True) (.slice (some ⟨b,0,none⟩) N N) (toL N num):=by
 refine Kd.a3Z ?_ (fun _ _ =>trivial);have hs:(ints N num).size = N:=by unfold ints;simp
 refine ⟨by show ((toL N num).map (Value.int .i64)).length = (toL N num).length * 1;simp,.inr ⟨b,N,ints N num,by rw [a8F],hb,h,by rw [a8F];exact zM0 _,zE0 hN qF0,by rw [hs];omega,?_⟩⟩;rw [a8F,toL_ints,zX2 (by simp [a8F])]
 rfl
theorem FD.own {B bo M:Nat} {v:Nat→Value} {r:Nat→List Nat} {W:World} (h:FD B bo M v r W) (hM:M≤1000):Kd.S kL 43 W B (fun _ =>True) (.slice (some ⟨bo,0,none⟩) M M) ((List.range M).map fun i =>toI (r i)):=by
 classical
 let f:Nat→Nat:=fun k =>if q:∃ i,i < M∧(v i).ownBlock = some k then Classical.choose q else 0
 have hf:∀ i,i < M→∀ k,(v i).ownBlock = some k→f k = i:=fun i hi k hk =>by
  have q:∃ i,i < M∧(v i).ownBlock = some k:=⟨i,hi,hk⟩;have e:f k = Classical.choose q:=dif_pos q;obtain ⟨h1,h2⟩:=Classical.choose_spec q;rw [e];apply Classical.byContradiction;intro hne;exact h.d _ i h1 hi hne k h2 hk
 have hs:(vals M v).size = M:=by unfold vals;simp
 refine ⟨f,fun _ _ =>trivial,(List.range M).map v,⟨by show ((List.range M).map v).length = (((List.range M).map fun i =>toI (r i)).zipIdx).length * 1;simp,.inr ⟨bo,M,vals M v,by simp,h.b,h.o,by simp,zE0 hM qF0,by rw [hs];show M = M * 1;omega,?_⟩⟩,⟨by show ((List.range M).map v).length = (((List.range M).map fun i =>toI (r i)).zipIdx).length * 1;simp,fun j p hp =>?_⟩⟩
 ·unfold vals;show ((List.range M).map v).take _ = _;rw [zX2 (by simp;show M≤M * 1;omega)]
 ·rw [List.getElem?_zipIdx] at hp;obtain ⟨x,hx,rfl⟩:=zF1.1 hp;obtain ⟨hj,rfl⟩:=List.getElem?_eq_some_iff.1 hx;have hj':j < M:=by simpa using hj
  simp only [List.getElem_map,List.getElem_range];refine ⟨v j,?_,?_⟩
  ·show (((List.range M).map v).drop (j * 1)).take 1 = [v j];rw [zB3,zO2 (by simpa using hj'),zF3,zD2];simp
  ·refine Kd.a6P rfl (h.r j hj') (fun k hk =>⟨⟨trivial,fun e =>?_⟩,by rw [hf j hj' k hk];simp⟩);have:k = bo:=by simpa [Value.ownBlock] using e
   exact (h.r j hj').1 k hk this
theorem of_no (k:Nat) (g:List (List Int)) (A:Option Addr) (c:Nat) (w:World) (hc:g.length≤c) (hC:kL.C w A g.length g) (hm:graph_May.f k g = some false) :
  Calls Tryz.prog 29 #[.slice A g.length c] w fun e w' =>e = .returned (.slice none 0 0)∧Below w.heap.size w w':=by
 have HM:=zA0 (graph_May.calls k A c g false w hC hc hm);clear hC;go_enter Tryz.func29,Tryz.ntmps29
 go_wp2_with (first
  | (go_at_call 28;(with_reducible refine HM.out.mono ?_;rintro z w1 ⟨rfl,hdr⟩;have HB:=zA0 hdr.below;clear hdr)))
 go_ret;exact qQ3
theorem b3R (g:List (List Int)) (hm:mayB g = true) (A:Option Addr) (c:Nat) (W:World) (hC:kL.C W A g.length g) (hc:g.length≤c) :
  Calls Tryz.prog 29 #[.slice A g.length c] W fun e W' =>∃ bo,e = .returned (.slice (some ⟨bo,0,none⟩) g.length g.length)∧W.heap.size≤bo∧W'.heap[bo]? = some (.cells (ints g.length (numN g)) 3 (0,0))∧Below W.heap.size W W':=by
 obtain ⟨kM,hk⟩:=b1L g (a6E hm).sm;rw [hm] at hk;refine (of_try g (a6E hm) A c kM W hC hc (hk kM (zM0 _))).mono ?_;rintro e W' ⟨bo,M,num,rfl,h1,h2,h3,h4⟩;refine ⟨bo,rfl,h2,?_,h4⟩;rw [h3];have:=(of_eq hm h1).2.1
 congr 2
 unfold ints
 congr 1
 apply List.map_congr_left;intro x hx;rw [this x (zZ0.1 hx)]
theorem of_any (g:List (List Int)) (hs:Sm g) (A:Option Addr) (c:Nat) (W:World) (hC:kL.C W A g.length g) (hc:g.length≤c) :
  Calls Tryz.prog 29 #[.slice A g.length c] W fun e W' =>∃ v,e = .returned v∧kI.R 3 W' W.heap.size (fun _ =>True) v (ofF g)∧Below W.heap.size W W':=by
 by_cases hm:mayB g = true
 ·refine (b3R g hm A c W hC hc).mono ?_;rintro e W' ⟨bo,rfl,h2,h3,h4⟩;refine ⟨_,rfl,?_,h4⟩;unfold ofF;rw [if_pos hm];exact R_ints h3 h2 (a4N hm).1
 ·obtain ⟨kM,hk⟩:=b1L g hs;rw [Bool.eq_false_iff.2 hm] at hk;refine (of_no kM g A c W hc hC (hk kM (zM0 _))).mono ?_;rintro e W' ⟨rfl,h⟩;refine ⟨_,rfl,?_,h⟩;unfold ofF;rw [if_neg hm];exact Kd.b0A _ _ _ _ _
theorem b8D (g:List (List Int)) (hs:Sm g) (A:Option Addr) (c:Nat) (W:World) (hC:kL.C W A g.length g) (hc:g.length≤c) :
  Calls Tryz.prog 30 #[.slice A g.length c] W fun e W' =>e = .returned (.int .i64 (manyF g))∧Below W.heap.size W W':=by
 have HOF:=zA0 (of_any g hs A c W hC hc);obtain ⟨N,num,hN,hb,hL,hM⟩:∃ N num,N≤1000∧(∀ x,x < N→num x≤1000)∧ofF g = toL N num∧manyF g = ((pmx num N:Nat):Int):=by
  by_cases hm:mayB g = true
  ·have h:=a7O hm;have hml:=b6X hm;have hN:=(a4N hm).1;refine ⟨g.length,numN g,hN,fun x hx =>by have:=h.lt x hx;omega,by unfold ofF;rw [if_pos hm],?_⟩;rw [pmx_all h];rfl
  ·refine ⟨0,fun _ =>0,by omega,fun x hx =>absurd hx (zZ2 _),by unfold ofF;rw [if_neg hm];rfl,?_⟩;unfold manyF;rw [c2G hm];rfl
 rw [hL] at HOF;rw [hM];have HBD:=zA0 hb;clear hL hM hC hb;go_enter Tryz.func30,Tryz.ntmps30
 go_upto_region 2 with (fail)
 go_wp2_with (first
  | (go_at_call 29;(with_reducible refine HOF.out.mono ?_;rintro z w1 ⟨v1,rfl,hr1,hb1⟩;obtain ⟨A1,c1,e1⟩:=Kd.a1Y hr1;rw [a8F] at e1;subst e1;have HR1:=zA0 hr1;have HB1:=zA0 hb1;clear hr1 hb1)))
 go_loopg [3,9] N (fun kq v3 v9 w' =>∃ (i:Nat),i + kq = N∧v9 = .int .i64 (i:Nat)∧v3 = .int .i64 (pmx num i:Nat)∧w' = w1)
 case atStart =>exact ⟨0,by omega,rfl,rfl,rfl⟩
 case round =>
  obtain ⟨i,hi',rfl,rfl,rfl⟩:=hrel;by_cases hi:i < N
  ·obtain ⟨A2,c2,e2,_,hC2⟩:=Kd.a4E HR1.out;rw [a8F] at e2;cases e2;obtain ⟨ad,eA,hz⟩:=Kd.a2R hC2 (i:Int) (zJ0 i) (by rw [a8F];exact zG1.2 hi);subst eA;rw [zP0,toL_rd hi] at hz;have hi0:(0:Int)≤(i:Int):=zJ0 i;have hn:=HBD.out i hi;have hw:=pzS i qD0;have hwn:=pzS (num i) hn;obtain ⟨k1,rfl⟩:∃ k1,gk = k1 + 1:=⟨gk - 1,by omega⟩;clear hC2 hn;by_cases hq:pmx num i < num i + 1
   ·have hq':((pmx num i:Nat):Int) < ((num i:Nat):Int) + 1:=by omega
    have hp:pmx num (i + 1) = num i + 1:=by rw [show pmx num (i + 1) = max (pmx num i) (num i + 1) from rfl];omega
    clear hq;go_wp2;go_roundg k1
    case measure =>exact zR0 _
    case rel =>exact ⟨i + 1,by rw [zA1,zC1 1];exact hi',by first | rw [hw] | simp [hw],congrArg (Value.int .i64) (by rw [hp];omega),rfl⟩
   ·have hq':¬ ((pmx num i:Nat):Int) < ((num i:Nat):Int) + 1:=by omega
    have hp:pmx num (i + 1) = pmx num i:=by rw [show pmx num (i + 1) = max (pmx num i) (num i + 1) from rfl];omega
    clear hq;go_wp2;go_roundg k1
    case measure =>exact zR0 _
    case rel =>exact ⟨i + 1,by rw [zA1,zC1 1];exact hi',by first | rw [hw] | simp [hw],congrArg (Value.int .i64) (by rw [hp]),rfl⟩
  ·have hie:i = N:=by omega
   subst hie;go_wp2;go_ret;exact ⟨rfl,HB1.out⟩
theorem b2H:∀ (a b:List Nat),a.Pairwise (· < ·)→b.Pairwise (· < ·)→(∀ x,x ∈ a ↔ x ∈ b)→a = b
 | [],[],_,_,_ =>rfl
 | [],y :: b,_,_,h =>by cases (h y).2 zU0
 | x :: a,[],_,_,h =>by cases (h x).1 zU0
 | x :: a,y :: b,ha,hb,h =>by
  obtain ⟨a1,a2⟩:=zR2.1 ha;obtain ⟨b1,b2⟩:=zR2.1 hb;have e:x = y:=by
   rcases zS0.1 ((h x).1 zU0) with q | q
   ·exact q
   ·rcases zS0.1 ((h y).2 zU0) with w | w
    ·exact w.symm
    ·have:=b1 x q;have:=a1 y w;omega
  subst e
  congr 1
  refine b2H a b a2 b2 (fun z =>?_);constructor
  ·intro hz;rcases zS0.1 ((h z).1 (zV0 _ hz)) with q | q
   ·have:=a1 z hz;omega
   ·exact q
  ·intro hz;rcases zS0.1 ((h z).2 (zV0 _ hz)) with q | q
   ·have:=b1 z hz;omega
   ·exact q
open Classical in
theorem b2P {g:List (List Int)} (hm:mayB g = true):foldF g = (List.range (manyN g)).map fun i =>toI (rowK (adjF g) g.length (numN g) i):=by
 unfold foldF;apply List.map_congr_left;intro k _;unfold foldR toI
 congr 1
 refine b2H _ _ ((zN3).filter _) (b2R _) (fun x =>?_);rw [zR1,zZ0,decide_eq_true_iff];unfold rowK;rw [b0M,a6J];constructor
 ·exact fun h =>h.2
 ·rintro ⟨h1,x',hx,e,y,hy,e2⟩;exact ⟨by rw [← e2];exact (a7O hm).lt y ((a6E hm).adj x' hx y hy),h1,x',hx,e,y,hy,e2⟩
theorem fold_no (k:Nat) (g:List (List Int)) (A:Option Addr) (c:Nat) (w:World) (hc:g.length≤c) (hC:kL.C w A g.length g) (hm:graph_May.f k g = some false) :
  Calls Tryz.prog 31 #[.slice A g.length c] w fun e w' =>e = .returned (.slice none 0 0)∧Below w.heap.size w w':=by
 have HM:=zA0 (graph_May.calls k A c g false w hC hc hm);clear hC;go_enter Tryz.func31,Tryz.ntmps31
 go_wp2_with (first
  | (go_at_call 28;(with_reducible refine HM.out.mono ?_;rintro z w1 ⟨rfl,hdr⟩;have HB:=zA0 hdr.below;clear hdr)))
 go_ret;exact qQ3
theorem fold_yes (k:Nat) (g:List (List Int)) (hm:mayB g = true) (A:Option Addr) (c:Nat) (w:World) (hc:g.length≤c) (hC:kL.C w A g.length g) (hk:graph_May.f k g = some true) :
  Calls Tryz.prog 31 #[.slice A g.length c] w fun e w' =>∃ v,e = .returned v∧Kd.S kL 43 w' w.heap.size (fun _ =>True) v (foldF g)∧Below w.heap.size w w':=by
 have HC:=zA0 hC;have HM:=zA0 (graph_May.calls k A c g true w hC hc hk);have hgo:=a6E hm;have hMN:manyN g≤1000:=zE0 (b6X hm) (a4N hm).1;have HOF:=zA0 (fun (w1:World) (h:kL.C w1 A g.length g) =>b3R g hm A c w1 h hc);have HMN:=zA0 (fun (w1:World) (h:kL.C w1 A g.length g) =>b8D g hgo.sm A c w1 h hc);rw [b2P hm];have emn:manyF g = ((manyN g:Nat):Int):=rfl;have HFD:=zA0 (fun (w3:World) (bof:Nat) (h:Kd.F kL w3 (fun q =>q < w3.heap.size) A g.length g) (ho:w3.heap[bof]? = some (.cells (ints g.length (numN g)) 3 (0,0))) =>b8K g hgo A c bof (manyN g) (numN g) w3 h ho hMN (a7O hm).lt hc);rw [show (fun i =>cmpN (rowsAt (numN g) (adjF g) g.length i)) = rowK (adjF g) g.length (numN g) from rfl] at HFD;rw [emn] at HMN;clear hC hgo emn;have HB:=zA0 (zL0 w.heap.size w);go_enter Tryz.func31,Tryz.ntmps31
 go_wp2_with (first
  | (go_at_call 28;(with_reducible refine HM.out.mono ?_;rintro z w1 ⟨rfl,hdr⟩;have HB:=zA0 hdr.below;clear hdr))
  | (go_at_call 29;(with_reducible refine (HOF.out _ (Kd.a0H HC.out HB.out)).mono ?_;rintro z w2 ⟨bof,rfl,hlo,hbf,hb2⟩;have HB:=zA0 (a0K HB.out hb2);have HBF:=zA0 hbf;clear hlo hbf hb2))
  | (go_at_call 30;(with_reducible refine (HMN.out _ (Kd.a0H HC.out HB.out)).mono ?_;rintro z w3 ⟨rfl,hb3⟩;have HB:=zA0 (a0K HB.out hb3);have HBF:=zA0 (a0P HBF.out hb3);clear hb3))
  | (go_at_call 50;(with_reducible refine (HFD.out _ _ (Kd.C_F (Kd.a5S 3 (Kd.a8Y .i64)) (Kd.a0H HC.out HB.out)) HBF.out).mono ?_;rintro z w4 ⟨bo,rfl,⟨v4,hfd⟩,hb4⟩;have HFR:=zA0 (hfd.own hMN);have HSZ:=zA0 HB.out.size;have HB:=zA0 (a0K HB.out hb4);clear hfd hb4)))
 go_ret;exact ⟨_,rfl,Kd.b1V HFR.out HSZ.out,HB.out⟩
theorem c2S (g:List (List Int)) (hs:Sm g) (A:Option Addr) (c:Nat) (w:World) (hC:kL.C w A g.length g) (hc:g.length≤c) :
  Calls Tryz.prog 31 #[.slice A g.length c] w fun e w' =>∃ v,e = .returned v∧Kd.S kL 43 w' w.heap.size (fun _ =>True) v (foldF g)∧Below w.heap.size w w':=by
 obtain ⟨kM,hk⟩:=b1L g hs;by_cases hm:mayB g = true
 ·rw [hm] at hk;exact fold_yes kM g hm A c w hc hC (hk kM (zM0 _))
 ·rw [Bool.eq_false_iff.2 hm] at hk;refine (fold_no kM g A c w hc hC (hk kM (zM0 _))).mono ?_;rintro e W' ⟨rfl,h⟩;refine ⟨_,rfl,?_,h⟩;have:foldF g = []:=by unfold foldF;rw [c2G hm];rfl
  rw [this];exact Kd.S_nil _ _ _ _ _
open Go.Lib
theorem C_slice {α:Type} {d:Kd α} {w:World} {A:Option Addr} {c:Nat} {xs:List α} {e base:Nat} {ok:Nat→Prop} (h:Kd.R d e w base ok (.slice A xs.length c) xs):d.C w A xs.length xs:=(Kd.a1H h).2.2
def ST9 (W:World) (bw k:Nat) (xs ys:List ByteArray) (s:Nat) (v:Nat→Value) (Z:World):Prop:=match s with
 | 0 =>Below W.heap.size W Z
 | 1 =>Below W.heap.size W Z∧Kd.R Kd.string 9 Z W.heap.size (fun _ =>True) (v 0) xs
 | 2 =>Below W.heap.size W Z∧Kd.R Kd.string 9 Z W.heap.size (fun _ =>True) (v 1) ys
 | _ =>∃ A c Z0,Z = Z0.setCell ⟨bw,k,none⟩ (.slice A ys.length c)∧Below W.heap.size W Z0∧Kd.R Kd.string 9 Z0 W.heap.size (fun _ =>True) (.slice A ys.length c) ys
theorem ST9.below {W Z:World} {bw k s:Nat} {xs ys:List ByteArray} {v:Nat→Value} (hs:s < 3) (h:ST9 W bw k xs ys s v Z):Below W.heap.size W Z:=by
 match s,hs with
 | 0,_ =>exact h
 | 1,_ =>exact h.1
 | 2,_ =>exact h.1
def ST17 (W:World) (bw k:Nat) (ys:List ByteArray) (s:Nat) (v:Nat→Value) (Z:World):Prop:=match s with
 | 0 =>Below W.heap.size W Z
 | 1 =>Below W.heap.size W Z∧Kd.R Kd.string 9 Z W.heap.size (fun _ =>True) (v 0) ys
 | _ =>∃ A c Z0,Z = Z0.setCell ⟨bw,k,none⟩ (.slice A ys.length c)∧Below W.heap.size W Z0∧Kd.R Kd.string 9 Z0 W.heap.size (fun _ =>True) (.slice A ys.length c) ys
theorem ST17.below {W Z:World} {bw k s:Nat} {ys:List ByteArray} {v:Nat→Value} (hs:s < 2) (h:ST17 W bw k ys s v Z):Below W.heap.size W Z:=by
 match s,hs with
 | 0,_ =>exact h
 | 1,_ =>exact h.1
def ST24 (W3 W:World) (bx:Nat) (xs:List ByteArray) (nm:ByteArray) (m:Nat) (out:List S42) (s:Nat) (v:Nat→Value) (Z:World):Prop:=match s with
 | 0 =>Below W.heap.size W Z
 | 1 =>Below W.heap.size W Z∧Kd.R Kd.string 9 Z W.heap.size (fun _ =>True) (v 0) xs
 | 2 =>Below W.heap.size W Z∧Kd.R Kd.string 9 Z W.heap.size (fun _ =>True) (v 0) xs∧v 1 = .agg #[.string nm,.int .i64 (m:Nat),v 0]
 | 3 =>∃ A c Z0,Z = Z0.alloc (.cells #[.string nm,.int .i64 (m:Nat),.slice A xs.length c] 42)∧v 2 = .slice (some ⟨Z0.heap.size,0,none⟩) 1 1∧Below W.heap.size W Z0∧Kd.R Kd.string 9 Z0 W.heap.size (fun _ =>True) (.slice A xs.length c) xs
 | 4 =>Below W3.heap.size W3 Z∧Z.heap[bx]? = W.heap[bx]?∧Kd.N k42 42 Z W3.heap.size (fun q =>W3.heap.size≤q) (v 3) (out ++ [⟨nm,((m:Nat):Int),xs⟩])
 | _ =>Below W3.heap.size W3 Z∧Z.heap[bx]? = W.heap[bx]?∧Kd.N k42 42 Z W3.heap.size (fun q =>W3.heap.size≤q) (v 4) (out ++ [⟨nm,((m:Nat):Int),xs⟩])
theorem ST24.cell {W3 W Z:World} {bx m s:Nat} {xs:List ByteArray} {nm:ByteArray} {out:List S42} {v:Nat→Value} (hbx:bx < W.heap.size) (h3:Below W3.heap.size W3 W) (h:ST24 W3 W bx xs nm m out s v Z):Below W3.heap.size W3 Z∧Z.heap[bx]? = W.heap[bx]?:=by
 have hB:∀ Y,Below W.heap.size W Y→Below W3.heap.size W3 Y∧Y.heap[bx]? = W.heap[bx]?:=fun Y hb =>⟨h3.trans (hb.mono h3.size),hb.block bx hbx⟩
 match s with
 | 0 =>exact hB Z h
 | 1 =>exact hB Z h.1
 | 2 =>exact hB Z h.1
 | 3 =>
  obtain ⟨A,c,Z0,rfl,_,hb,_⟩:=h;exact hB _ (hb.trans ((a0C (zL0 _ _) _).mono hb.size))
 | 4 =>exact ⟨h.1,h.2.1⟩
 | _ + 5 =>exact ⟨h.1,h.2.1⟩
theorem b7Q (w:World) (fs:List S34) (A:Option Addr) (c:Nat) (hlc:fs.length≤c) (hC:Kd.C k34 w A fs.length fs) (hsm:SmG fs) :
  Calls Tryz.prog 9 #[.agg #[.slice A fs.length c]] w fun e w' =>∃ v,e = .returned v∧Kd.N k42 42 w' w.heap.size (fun k =>w.heap.size≤k) v (sigsF fs)∧Below w.heap.size w w':=by
 have hn:=hsm.n;have HC:=zA0 hC;have HSM:=zA0 hsm;have hb0:Below w.heap.size w (w.alloc (.cells #[.slice A fs.length c] 24)):=a0C (zL0 _ _) _;have HCALLS:=zA0 (c3J _ fs A c hlc (Kd.a0H hC hb0) qD0 (fun f hf =>zE0 (hsm.b f hf) qF0));have HB0:=zA0 hb0;have HP0:=zA0 (World.alloc_heap_new w (.cells #[.slice A fs.length c] 24));have hm:=a9B hn;have hgl:(callsF fs).length = fs.length:=by unfold callsF;simp
 have hfin:sigsF fs = (List.range fs.length).map fun i =>⟨(fnAt fs i).f0,(((fnAt fs i).f1.length:Nat):Int),wrB (rowK (adjF (callsF fs)) (callsF fs).length (numN (callsF fs))) (manyN (callsF fs)) (wrA fs (numN (callsF fs)) fs.length) (numN (callsF fs) i)⟩:=rfl
 clear hC hsm hb0;go_enter Tryz.func9,Tryz.ntmps9
 go_upto_region 2 with (first
  | (go_at_call 27;(with_reducible refine HCALLS.out.mono ?_;rintro z w2 ⟨v1,rfl,hs1,hb1⟩;have HS1:=zA0 hs1;have HB1:=zA0 hb1;clear hs1 hb1)))
 have hs1:=HS1.out;generalize callsF fs = g at hm hgl hfin hs1;have HGL:=zA0 hgl;clear HS1 HCALLS hgl;obtain ⟨Ag,cg,eg⟩:=Kd.a3V (Kd.S_N hs1);subst eg;obtain ⟨_,hcg,hCg⟩:=Kd.a2G (Kd.S_N hs1);have hgF:Kd.F kL w2 (fun q =>q < w2.heap.size) Ag g.length g:=Kd.a2Z (Kd.N_F (Kd.a8O (Kd.S_N hs1))) (fun q hq =>hq.2);have hgo:=a6E hm;obtain ⟨kM,hkM⟩:=b1L g hgo.sm;rw [hm] at hkM;have HMAY:=zA0 (graph_May.calls kM Ag cg g true w2 hCg hcg (hkM kM (zM0 _)));have hb2:Below w.heap.size w w2:=HB0.out.trans (HB1.out.mono HB0.out.size);have hp2:=a0P HP0.out HB1.out;have HGF:=zA0 hgF;have HB2:=zA0 hb2;have HP2:=zA0 hp2;clear hs1 hCg hgF hkM hb2 hp2 HB0 HB1 HP0
 go_upto_region 4 with (first
  | (go_at_call 28;(with_reducible refine HMAY.out.mono ?_;rintro z w3 ⟨rfl,hdr⟩;have HB3:=zA0 hdr.below;clear hdr)))
 have hgF3:=Kd.a1Z HGF.out HB3.out;have HOF:=zA0 (b3R g hm Ag cg w3 (Kd.a5P hgF3) hcg);have HGF3:=zA0 hgF3;have HP3:=zA0 (a0P HP2.out HB3.out);have HBB3:=zA0 (HB2.out.trans (HB3.out.mono HB2.out.size));have HSZ3:=zA0 HB3.out.size;clear hgF3 HMAY HGF HP2 HB2 HB3
 go_upto_region 5 with (first
  | (go_at_call 29;(with_reducible refine HOF.out.mono ?_;rintro z w4 ⟨bo,rfl,hbo1,hbo2,hb4⟩;have HBO:=zA0 hbo2;have HB4:=zA0 hb4;clear hbo1 hbo2 hb4)))
 have hgF4:=Kd.a1Z HGF3.out HB4.out;have HMANY:=zA0 (b8D g hgo.sm Ag cg w4 (Kd.a5P hgF4) hcg);have emn:manyF g = ((manyN g:Nat):Int):=rfl;rw [emn] at HMANY;have hK:manyN g≤1000:=zE0 (b6X hm) (a4N hm).1;have hnum:∀ x,x < fs.length→numN g x < manyN g:=fun x hx =>(a7O hm).lt x (by have:=HGL.out;omega)
 have HFOLD:=zA0 (fun (W:World) (h:kL.C W Ag g.length g) =>c2S g hgo.sm Ag cg W h hcg);rw [b2P hm] at HFOLD;have htlt:∀ k m,m ∈ rowK (adjF g) g.length (numN g) k→m < manyN g:=fun k m hmm =>c0Y hgo.adj (fun x hx =>(a7O hm).lt x hx) hmm
 have HGF4:=zA0 hgF4;have HP4:=zA0 (a0P HP3.out HB4.out);have HBB4:=zA0 (HBB3.out.trans (HB4.out.mono HBB3.out.size));have HLT:=zA0 (show w3.heap.size≤w4.heap.size∧w2.heap.size≤w3.heap.size from ⟨HB4.out.size,HSZ3.out⟩);clear hgF4 emn HOF HGF3 HP3 HBB3 HB4 HSZ3 hm hgo;obtain ⟨K,hKe⟩:∃ K,K = manyN g:=⟨_,rfl⟩;obtain ⟨num,hnumE⟩:∃ n,n = numN g:=⟨_,rfl⟩;obtain ⟨tr,htrE⟩:∃ t,t = rowK (adjF g) g.length (numN g):=⟨_,rfl⟩;rw [← htrE] at HFOLD hfin htlt;rw [← hnumE] at hfin hnum HBO;rw [← hKe] at hfin hnum HMANY hK HFOLD htlt;have HTLT:=zA0 htlt;have HNUM:=zA0 hnum;have HFIN:=zA0 hfin;clear hKe hnumE htrE hfin hnum htlt;have hmk:=makeLS K hK
 go_upto_region 6 with (first
  | (go_at_call 30;(with_reducible refine HMANY.out.mono ?_;rintro z w5 ⟨rfl,hb5⟩;have HB5:=zA0 hb5;clear hb5)))
 clear hmk HMANY;have hw0:=WR.start (K:=K) (B:=w.heap.size) (W0:=w) (W:=w5) (zE0 HBB4.out.size HB5.out.size) (HBB4.out.trans (HB5.out.mono HBB4.out.size));obtain ⟨bw,hbw⟩:∃ b,w5.heap.size = b:=⟨_,rfl⟩;obtain ⟨Ws,hWs⟩:∃ W,w5.alloc (.cells (vals K (fun _ =>.slice none 0 0)) 25) = W:=⟨_,rfl⟩;have hbs:Below w5.heap.size w5 Ws:=by rw [← hWs];exact a0C (zL0 _ _) _
 rw [hbw,hWs] at hw0;rw [hbw,hWs];have hbo5:Ws.heap[bo]? = some (.cells (ints g.length num) 3 (0,0)):=a0P (a0P HBO.out HB5.out) hbs;have hbol:bo < bw:=by rw [← hbw];exact a1J (a0P HBO.out HB5.out)
 have hp5:Ws.heap[w.heap.size]? = some (.cells #[.slice A fs.length c] 24 (0,0)):=a0P (a0P HP4.out HB5.out) hbs;have hpl:w.heap.size < bw:=by rw [← hbw];exact a1J (a0P HP4.out HB5.out)
 have hgF5:Kd.F kL Ws (fun q =>q < bw) Ag g.length g:=Kd.a2Z (Kd.a1Z (Kd.a1Z HGF4.out HB5.out) hbs) (fun q hq =>by have h1:=HLT.out;have h2:=HB5.out.size;omega);have HW0:=zA0 hw0;have HBO5:=zA0 (zC3 hbo5 hbol);have HP5:=zA0 (zC3 hp5 hpl);have HGF5:=zA0 hgF5;have zp:Ws.cell? ⟨w.heap.size,0,none⟩ = some (.slice A fs.length c):=(a0L hp5 0).trans rfl;clear hw0 hbs hbo5 hbol hp5 hpl hgF5 hbw hWs HBO HB5 HGF4 HP4 HBB4 HLT;go_upto_region 7 with (fail)
 clear zp;go_loopg [28] fs.length (fun kq v28 w' =>∃ (i:Nat) (v:Nat→Value),i + kq = fs.length∧v28 = .int .i64 (i:Nat)∧Hid (WR w.heap.size bw K v (wrA fs num i) w Ws w'))
 case atStart =>exact ⟨0,_,by omega,rfl,HW0⟩
 case round =>
  obtain ⟨i,v,hi',rfl,HW⟩:=hrel;clear HW0;by_cases hi:i < fs.length
  ·obtain ⟨ad,A1,c1,A2,c2,eA,x0,x1,x2,l1,g1,l2,g2⟩:=a5F (Kd.a0H HC.out HW.out.be) (i:Int) (zJ0 i) (zG1.2 hi);subst eA;rw [zP0] at x0 x1 x2;obtain ⟨f,hf⟩:∃ f,f = a0S fs (i:Int):=⟨_,rfl⟩;rw [← hf] at x0 x1 x2 l1 g1 l2 g2;have hfm:f ∈ fs:=by rw [hf];exact b8L hi
   have hi0:(0:Int)≤(i:Int):=zJ0 i;have hw:=pz i qD0;have hnK:=HNUM.out i hi;obtain ⟨k1,rfl⟩:∃ k1,gk = k1 + 1:=⟨gk - 1,by omega⟩;have hba:Below wr.heap.size wr (wr.alloc (.cells #[.string f.f0,.slice A1 f.f1.length c1,.slice A2 f.f2.length c2] 34)):=a0C (zL0 _ _) _;have HFM:=zA0 hfm;have HFE:=zA0 hf;have G2:=zA0 (Kd.a0H g2 hba);have HWA:=zA0 (HW.out.below hba);have hnew:=World.alloc_heap_new wr (.cells #[.string f.f0,.slice A1 f.f1.length c1,.slice A2 f.f2.length c2] 34);have HNB:=zA0 hnew;clear hba g1 g2 hfm hf hnew;go_upto_region 9 with (fail)
   clear x0 x1 x2;generalize hbx:wr.heap.size = bx at HNB ⊢;clear hbx;generalize wr.alloc (.cells #[.string f.f0,.slice A1 f.f1.length c1,.slice A2 f.f2.length c2] 34) = Wa at G2 HWA HNB ⊢;have zb0:Wa.cell? ⟨bx,0,none⟩ = some (.string f.f0):=(a0L HNB.out 0).trans rfl;have zb1:Wa.cell? ⟨bx,1,none⟩ = some (.slice A1 f.f1.length c1):=(a0L HNB.out 1).trans rfl;have zb2:Wa.cell? ⟨bx,2,none⟩ = some (.slice A2 f.f2.length c2):=(a0L HNB.out 2).trans rfl;have hboW:Wa.heap[bo]? = some (.cells (ints g.length num) 3 (0,0)):=(HWA.out.fz bo HBO5.out.2).trans HBO5.out.1;have hig:i < g.length:=Nat.lt_of_lt_of_eq hi HGL.out.symm;have zo:Wa.cell? ⟨bo,i,none⟩ = some (.int .i64 (num i:Nat)):=(a0L hboW i).trans (a3K _ hig);obtain ⟨Ar,cr,zw,zwf,hFr⟩:=HWA.out.cell hnK;have hn0:(0:Int)≤(num i:Int):=zJ0 _;have HFR:=zA0 hFr;have HBWL:=zA0 (show bw < Wa.heap.size from a1J HWA.out.o);have hin:=(c0D (fs:=fs) num i (zZ1 hi));have HLN:=zA0 (zE0 (hin.len (num i)) HSM.out.u);have HLO:=zA0 (show (ownF f).length≤1050000 from zE0 (a9I _ _ (a9K f).nodup (fun x hx =>by have:=b1G hi x;rw [show fnAt fs i = f from HFE.out.symm] at this;exact this hx)) HSM.out.u);clear hFr hin hboW;refine (wpIn_wide (n:=5)).1 ?_;refine wpIn_region_any mixedO ?_;refine a3R _ (fun _ =>undef) (fun done val Z =>TF 17 [13,14,16] (fun ix_ =>match ix_ with | 0 =>.slice (some ⟨bw,0,none⟩) K K | 1 =>.slice (some ⟨bo,0,none⟩) g.length g.length | 2 =>.int .i64 (i:Nat) | 3 =>.pointer (some ⟨bo,i,none⟩) | 4 =>.int .i64 (num i:Nat) | 5 =>.slice (some ⟨bw,0,none⟩) K K | 6 =>.slice (some ⟨bo,0,none⟩) g.length g.length | 7 =>.int .i64 (i:Nat) | 8 =>.pointer (some ⟨bo,i,none⟩) | 9 =>.int .i64 (num i:Nat) | 10 =>.pointer (some ⟨bw,num i,none⟩) | 11 =>.slice Ar (wrA fs num i (num i)).length cr | 12 =>.agg #[.string f.f0,.slice A1 f.f1.length c1,.slice A2 f.f2.length c2] | 15 =>.pointer (some ⟨bw,num i,none⟩) | _ =>undef) (ST9 Wa bw (num i) (ownF f) (unionF (wrA fs num i (num i)) (ownF f))) done val Z) rfl qE0 _ ?hz9 ?st9 ?en9
   case hz9 =>exact TF.start qF0 qF0 (a2D (zL0 _ _))
   case st9 =>
    intro i_ o done val a Z ho hdn hdep hag hS K2 hK2;have hm:i_ < 17:=by
     by_cases h:i_ < 17
     ·exact h
     ·rw [Array.getElem?_eq_none qG1] at ho;cases ho
    obtain rfl | rfl | rfl | rfl | rfl | rfl | rfl | rfl | rfl | rfl | rfl | rfl | rfl | rfl | rfl | rfl | rfl:i_ = 0∨i_ = 1∨i_ = 2∨i_ = 3∨i_ = 4∨i_ = 5∨i_ = 6∨i_ = 7∨i_ = 8∨i_ = 9∨i_ = 10∨i_ = 11∨i_ = 12∨i_ = 13∨i_ = 14∨i_ = 15∨i_ = 16:=by omega
    ·cases ho;have e5:a.eval (.tmp 5) = .slice (some ⟨bw,0,none⟩) K K:=hag.keep 5 rfl;refine a0G (i:=0) (r:=.slice (some ⟨bw,0,none⟩) K K) (w':=Z) rfl rfl (fun c h =>by cases h) rfl ?_ (hK2 _ _ (hS.const qF0 hdn qF0 rfl));have ec:∀ v,a.eval (.const v) = v:=fun _ =>rfl
     generalize a.eval = ev at *;simp [execOp,go_sem,ec,e5]
    ·cases ho;have e4:a.eval (.tmp 4) = .slice (some ⟨bo,0,none⟩) g.length g.length:=hag.keep 4 rfl;refine a0G (i:=1) (r:=.slice (some ⟨bo,0,none⟩) g.length g.length) (w':=Z) rfl rfl (fun c h =>by cases h) rfl ?_ (hK2 _ _ (hS.const qF0 hdn qF0 rfl));have ec:∀ v,a.eval (.const v) = v:=fun _ =>rfl
     generalize a.eval = ev at *;simp [execOp,go_sem,ec,e4]
    ·cases ho;have e6:a.eval (.tmp 6) = .int .i64 (i:Nat):=hag.keep 6 rfl;refine a0G (i:=2) (r:=.int .i64 (i:Nat)) (w':=Z) rfl rfl (fun c h =>by cases h) rfl ?_ (hK2 _ _ (hS.const qF0 hdn qF0 rfl));have ec:∀ v,a.eval (.const v) = v:=fun _ =>rfl
     generalize a.eval = ev at *;simp [execOp,go_sem,ec,e6]
    ·cases ho;have e34:=(hag.val_ (j:=1) (t:=34) rfl (hdep ⟨1,.data⟩ qI0 rfl)).trans (hS.vv 1 (hdep ⟨1,.data⟩ qI0 rfl) qF0)
     try dsimp only at e34
     have e35:=(hag.val_ (j:=2) (t:=35) rfl (hdep ⟨2,.data⟩ qI0 rfl)).trans (hS.vv 2 (hdep ⟨2,.data⟩ qI0 rfl) qF0)
     try dsimp only at e35
     refine a0G (i:=3) (r:=.pointer (some ⟨bo,i,none⟩)) (w':=Z) rfl rfl (fun c h =>by cases h) ?_ ?_ (hK2 _ _ (hS.const qF0 hdn qF0 rfl))
     ·generalize a.eval = ev at *;simp [Oper.about,resolve,Target.leads,Sem.run_pure,go_sem,e34,e35,zK1.2 hig]
     ·have ec:∀ v,a.eval (.const v) = v:=fun _ =>rfl
      generalize a.eval = ev at *;simp [execOp,go_sem,ec,e34,e35,zK1.2 hig]
    ·cases ho;have e36:=(hag.val_ (j:=3) (t:=36) rfl (hdep ⟨3,.data⟩ qI0 rfl)).trans (hS.vv 3 (hdep ⟨3,.data⟩ qI0 rfl) qF0)
     try dsimp only at e36
     obtain ⟨s_,hs_,hst_⟩:=hS.some (i:=4) qF0 hdn qF0;have hb:=ST9.below qA3 hst_;have zz0:=a2Q zo hb;refine a0G (i:=4) (r:=.int .i64 (num i:Nat)) (w':=Z) rfl rfl (fun c h =>by cases h) rfl ?_ (hK2 _ _ (hS.const qF0 hdn qF0 rfl));have ec:∀ v,a.eval (.const v) = v:=fun _ =>rfl
     generalize a.eval = ev at *;simp [execOp,go_sem,ec,e36,zz0]
    ·cases ho;have e5:a.eval (.tmp 5) = .slice (some ⟨bw,0,none⟩) K K:=hag.keep 5 rfl;refine a0G (i:=5) (r:=.slice (some ⟨bw,0,none⟩) K K) (w':=Z) rfl rfl (fun c h =>by cases h) rfl ?_ (hK2 _ _ (hS.const qF0 hdn qF0 rfl));have ec:∀ v,a.eval (.const v) = v:=fun _ =>rfl
     generalize a.eval = ev at *;simp [execOp,go_sem,ec,e5]
    ·cases ho;have e4:a.eval (.tmp 4) = .slice (some ⟨bo,0,none⟩) g.length g.length:=hag.keep 4 rfl;refine a0G (i:=6) (r:=.slice (some ⟨bo,0,none⟩) g.length g.length) (w':=Z) rfl rfl (fun c h =>by cases h) rfl ?_ (hK2 _ _ (hS.const qF0 hdn qF0 rfl));have ec:∀ v,a.eval (.const v) = v:=fun _ =>rfl
     generalize a.eval = ev at *;simp [execOp,go_sem,ec,e4]
    ·cases ho;have e6:a.eval (.tmp 6) = .int .i64 (i:Nat):=hag.keep 6 rfl;refine a0G (i:=7) (r:=.int .i64 (i:Nat)) (w':=Z) rfl rfl (fun c h =>by cases h) rfl ?_ (hK2 _ _ (hS.const qF0 hdn qF0 rfl));have ec:∀ v,a.eval (.const v) = v:=fun _ =>rfl
     generalize a.eval = ev at *;simp [execOp,go_sem,ec,e6]
    ·cases ho;have e39:=(hag.val_ (j:=6) (t:=39) rfl (hdep ⟨6,.data⟩ qI0 rfl)).trans (hS.vv 6 (hdep ⟨6,.data⟩ qI0 rfl) qF0)
     try dsimp only at e39
     have e40:=(hag.val_ (j:=7) (t:=40) rfl (hdep ⟨7,.data⟩ qI0 rfl)).trans (hS.vv 7 (hdep ⟨7,.data⟩ qI0 rfl) qF0)
     try dsimp only at e40
     refine a0G (i:=8) (r:=.pointer (some ⟨bo,i,none⟩)) (w':=Z) rfl rfl (fun c h =>by cases h) ?_ ?_ (hK2 _ _ (hS.const qF0 hdn qF0 rfl))
     ·generalize a.eval = ev at *;simp [Oper.about,resolve,Target.leads,Sem.run_pure,go_sem,e39,e40,zK1.2 hig]
     ·have ec:∀ v,a.eval (.const v) = v:=fun _ =>rfl
      generalize a.eval = ev at *;simp [execOp,go_sem,ec,e39,e40,zK1.2 hig]
    ·cases ho;have e41:=(hag.val_ (j:=8) (t:=41) rfl (hdep ⟨8,.data⟩ qI0 rfl)).trans (hS.vv 8 (hdep ⟨8,.data⟩ qI0 rfl) qF0)
     try dsimp only at e41
     obtain ⟨s_,hs_,hst_⟩:=hS.some (i:=9) qF0 hdn qF0;have hb:=ST9.below qA3 hst_;have zz0:=a2Q zo hb;refine a0G (i:=9) (r:=.int .i64 (num i:Nat)) (w':=Z) rfl rfl (fun c h =>by cases h) rfl ?_ (hK2 _ _ (hS.const qF0 hdn qF0 rfl));have ec:∀ v,a.eval (.const v) = v:=fun _ =>rfl
     generalize a.eval = ev at *;simp [execOp,go_sem,ec,e41,zz0]
    ·cases ho;have e38:=(hag.val_ (j:=5) (t:=38) rfl (hdep ⟨5,.data⟩ qI0 rfl)).trans (hS.vv 5 (hdep ⟨5,.data⟩ qI0 rfl) qF0)
     try dsimp only at e38
     have e42:=(hag.val_ (j:=9) (t:=42) rfl (hdep ⟨9,.data⟩ qI0 rfl)).trans (hS.vv 9 (hdep ⟨9,.data⟩ qI0 rfl) qF0)
     try dsimp only at e42
     refine a0G (i:=10) (r:=.pointer (some ⟨bw,num i,none⟩)) (w':=Z) rfl rfl (fun c h =>by cases h) ?_ ?_ (hK2 _ _ (hS.const qF0 hdn qF0 rfl))
     ·generalize a.eval = ev at *;simp [Oper.about,resolve,Target.leads,Sem.run_pure,go_sem,e38,e42,zK1.2 hnK]
     ·have ec:∀ v,a.eval (.const v) = v:=fun _ =>rfl
      generalize a.eval = ev at *;simp [execOp,go_sem,ec,e38,e42,zK1.2 hnK]
    ·cases ho;have e43:=(hag.val_ (j:=10) (t:=43) rfl (hdep ⟨10,.data⟩ qI0 rfl)).trans (hS.vv 10 (hdep ⟨10,.data⟩ qI0 rfl) qF0)
     try dsimp only at e43
     obtain ⟨s_,hs_,hst_⟩:=hS.some (i:=11) qF0 hdn qF0;have hb:=ST9.below qA3 hst_;have zz0:=a2Q zw hb;refine a0G (i:=11) (r:=.slice Ar (wrA fs num i (num i)).length cr) (w':=Z) rfl rfl (fun c h =>by cases h) rfl ?_ (hK2 _ _ (hS.const qF0 hdn qF0 rfl));have ec:∀ v,a.eval (.const v) = v:=fun _ =>rfl
     generalize a.eval = ev at *;simp [execOp,go_sem,ec,e43,zz0]
    ·cases ho;have e7:a.eval (.tmp 7) = .pointer (some ⟨bx,0,none⟩):=hag.keep 7 rfl;obtain ⟨s_,hs_,hst_⟩:=hS.some (i:=12) qF0 hdn qF0;have hb:=ST9.below qA3 hst_;have zz0:=a2Q zb0 hb;have zz1:=a2Q zb1 hb;have zz2:=a2Q zb2 hb;refine a0G (i:=12) (r:=.agg #[.string f.f0,.slice A1 f.f1.length c1,.slice A2 f.f2.length c2]) (w':=Z) rfl rfl (fun c h =>by cases h) rfl ?_ (hK2 _ _ (hS.const qF0 hdn qF0 rfl));have ec:∀ v,a.eval (.const v) = v:=fun _ =>rfl
     generalize a.eval = ev at *;simp [execOp,go_sem,ec,e7,zz0,zz1,zz2]
    ·cases ho;have e45:=(hag.val_ (j:=12) (t:=45) rfl (hdep ⟨12,.data⟩ qI0 rfl)).trans (hS.vv 12 (hdep ⟨12,.data⟩ qI0 rfl) qF0)
     try dsimp only at e45
     have hst:Below Wa.heap.size Wa Z:=hS.get 0 qF0 hdn (.inl rfl);have hown:=b6R Z f A1 A2 c1 c2 l2 (Kd.a0H G2.out hst) (HSM.out.b f HFM.out);refine a6N (i:=13) (f:=11) rfl rfl rfl (fun _ _ =>rfl) (R:=fun e w' =>∃ v,e = .returned v∧Kd.R Kd.string 9 w' Z.heap.size (fun _ =>True) v (ownF f)∧Below Z.heap.size Z w') ?_ ?_
     ·simp only [zA3,zH2,zT2,e45];exact hown
     ·rintro e' w2 ⟨v2,rfl,hr,hb2⟩;refine ⟨v2,rfl,hK2 _ _ (hS.next 0 qF0 hdn (.inl rfl) (fun h =>absurd h qF0) (fun v' hv _ =>?_))⟩;exact ⟨hst.trans (hb2.mono hst.size),by rw [hv];exact Kd.a2H hr hst.size⟩
    ·cases ho;have e44:=(hag.val_ (j:=11) (t:=44) rfl (hdep ⟨11,.data⟩ qI0 rfl)).trans (hS.vv 11 (hdep ⟨11,.data⟩ qI0 rfl) qF0)
     try dsimp only at e44
     have e46:=hag.val_ (j:=13) (t:=46) rfl (hdep ⟨13,.data⟩ qI0 rfl);have hst:=hS.get 1 qF0 hdn (.inr (hdep ⟨13,.data⟩ qI0 rfl));obtain ⟨hb,hr1⟩:=hst;obtain ⟨Ao,co,ev0⟩:=Kd.a1Y hr1;have ev1:val 13 = .slice Ao (ownF f).length co:=ev0;rw [ev1] at e46;rw [ev0] at hr1;have hun:=a7H (wrA fs num i (num i)) (ownF f) HLN.out HLO.out Ar Ao cr co Z (Kd.a0H (Kd.a5P HFR.out) hb) (C_slice hr1);refine a6N (i:=14) (f:=15) rfl rfl rfl (fun _ _ =>rfl) (R:=fun e w' =>∃ v,e = .returned v∧Kd.R Kd.string 9 w' Z.heap.size (fun _ =>True) v (unionF (wrA fs num i (num i)) (ownF f))∧Below Z.heap.size Z w') ?_ ?_
     ·simp only [zA3,zH2,zT2,e44,e46];exact hun
     ·rintro e' w2 ⟨v2,rfl,hr,hb2⟩;refine ⟨v2,rfl,hK2 _ _ (hS.next 1 qF0 hdn (.inr (hdep ⟨13,.data⟩ qI0 rfl)) (fun h =>absurd h qF0) (fun v' hv _ =>?_))⟩;exact ⟨hb.trans (hb2.mono hb.size),by rw [hv];exact Kd.a2H hr hb.size⟩
    ·cases ho;have e33:=(hag.val_ (j:=0) (t:=33) rfl (hdep ⟨0,.data⟩ qI0 rfl)).trans (hS.vv 0 (hdep ⟨0,.data⟩ qI0 rfl) qF0)
     try dsimp only at e33
     have e37:=(hag.val_ (j:=4) (t:=37) rfl (hdep ⟨4,.data⟩ qI0 rfl)).trans (hS.vv 4 (hdep ⟨4,.data⟩ qI0 rfl) qF0)
     try dsimp only at e37
     refine a0G (i:=15) (r:=.pointer (some ⟨bw,num i,none⟩)) (w':=Z) rfl rfl (fun c h =>by cases h) ?_ ?_ (hK2 _ _ (hS.const qF0 hdn qF0 rfl))
     ·generalize a.eval = ev at *;simp [Oper.about,resolve,Target.leads,Sem.run_pure,go_sem,e33,e37,zK1.2 hnK]
     ·have ec:∀ v,a.eval (.const v) = v:=fun _ =>rfl
      generalize a.eval = ev at *;simp [execOp,go_sem,ec,e33,e37,zK1.2 hnK]
    ·cases ho;have e48:=(hag.val_ (j:=15) (t:=48) rfl (hdep ⟨15,.data⟩ qI0 rfl)).trans (hS.vv 15 (hdep ⟨15,.data⟩ qI0 rfl) qF0)
     try dsimp only at e48
     have e47:=hag.val_ (j:=14) (t:=47) rfl (hdep ⟨14,.data⟩ qI0 rfl);have hst:=hS.get 2 qF0 hdn (.inr (hdep ⟨14,.data⟩ qI0 rfl));obtain ⟨hb,hr1⟩:=hst;obtain ⟨Ao,co,ev0⟩:=Kd.a1Y hr1;have ev1:val 14 = .slice Ao (unionF (wrA fs num i (num i)) (ownF f)).length co:=ev0;rw [ev1] at e47;rw [ev0] at hr1;have zz0:=a2Q zw hb;have zzf:=a0Q (a0P HWA.out.o hb) (num i)
     refine a3L (i:=16) rfl rfl (fun c h =>by cases h) rfl (w':=Z.setCell ⟨bw,num i,none⟩ (.slice Ao (unionF (wrA fs num i (num i)) (ownF f)).length co)) ?_ (hK2 _ _ (hS.next 2 qF0 hdn (.inr (hdep ⟨14,.data⟩ qI0 rfl)) (fun _ i_ hi hni =>by
      match i_,hi with
      | 0,_ =>exact hdep ⟨0,.phase⟩ qI0 rfl
      | 1,_ =>exact hdep ⟨1,.phase⟩ qI0 rfl
      | 2,_ =>exact hdep ⟨2,.phase⟩ qI0 rfl
      | 3,_ =>exact hdep ⟨3,.phase⟩ qI0 rfl
      | 4,_ =>exact hdep ⟨4,.phase⟩ qI0 rfl
      | 5,_ =>exact hdep ⟨5,.phase⟩ qI0 rfl
      | 6,_ =>exact hdep ⟨6,.phase⟩ qI0 rfl
      | 7,_ =>exact hdep ⟨7,.phase⟩ qI0 rfl
      | 8,_ =>exact hdep ⟨8,.phase⟩ qI0 rfl
      | 9,_ =>exact hdep ⟨9,.phase⟩ qI0 rfl
      | 10,_ =>exact hdep ⟨10,.phase⟩ qI0 rfl
      | 11,_ =>exact hdep ⟨11,.phase⟩ qI0 rfl
      | 12,_ =>exact hdep ⟨12,.phase⟩ qI0 rfl
      | 13,_ =>exact absurd qF0 hni
      | 14,_ =>exact absurd qF0 hni
      | 15,_ =>exact hdep ⟨15,.data⟩ qI0 rfl
      | 16,_ =>exact absurd qF0 hni
      | q_ + 17,h =>omega) (fun v' _ _ =>⟨_,_,Z,rfl,hb,hr1⟩)))
     have ec:∀ v,a.eval (.const v) = v:=fun _ =>rfl
     generalize a.eval = ev at *;simp [execOp,go_sem,ec,e48,e47,zz0,zzf]
   case en9 =>
    intro Z done val hdn hS;simp only [putTmps,dstOf,zV1,zX0,zN1,Nat.reduceAdd,zE2,zM1,zT1,zN0,zC0,zG0,zH0];obtain ⟨A3,c3,Z0,rfl,hb9,hr9⟩:=hS.last (hdn 16 qF0);have hw10:=(HWA.out.below hb9).put HBWL.out hnK hr9;clear hS hdn zb0 zb1 zb2 zo zw zwf;have ews:Tarj.upd (wrA fs num i) (num i) (unionF (wrA fs num i (num i)) (ownF f)) = wrA fs num (i + 1):=by rw [b0D,show fnAt fs i = f from HFE.out.symm]
    rw [ews] at hw10;have HW10:=zA0 hw10;clear hw10 ews hb9 hr9;go_wp2;go_roundg k1
    case measure =>exact zR0 _
    case rel =>exact ⟨i + 1,_,by rw [zA1,zC1 1];exact hi',by first | rw [hw] | simp [hw],HW10⟩
  ·have hie:i = fs.length:=by omega
   have hwA:=HW.out;rw [hie] at hwA;obtain ⟨r1,hr1⟩:∃ r,r = wrA fs num fs.length:=⟨_,rfl⟩;have hin1:InU (allOwn fs) r1:=by rw [hr1];exact c0D num fs.length (zM0 _)
   have hfin:=HFIN.out;rw [← hr1] at hwA hfin;have hgFr:Kd.F kL wr (fun q =>q < bw) Ag g.length g:=Kd.a6A HGF5.out (fun k hk _ =>hwA.fz k hk);have HFO:=zA0 (HFOLD.out wr (Kd.a5P hgFr));obtain ⟨L,hL⟩:∃ L,L = (List.range K).map fun k =>toI (tr k):=⟨_,rfl⟩
   have hLl:L.length = K:=by rw [hL];simp
   have hLg:∀ k,k < K→L.getD k [] = toI (tr k):=fun k hk =>by rw [hL,zK0,List.getElem?_map,List.getElem?_range hk];rfl
   rw [← hL] at HFO;have HWA:=zA0 hwA;have HBWR:=zA0 (a1J hwA.o);have HIN1:=zA0 hin1;have HFIN2:=zA0 hfin;have HLG:=zA0 hLg;clear hwA hgFr hin1 hfin hLg HW HFIN HFOLD hL hi
   go_upto_region 12 with (first
    | (go_at_call 31;(refine HFO.out.mono ?_;rintro z wF ⟨vF,rfl,hsF,hbF⟩;obtain ⟨AF,cF,eF⟩:=Kd.a3V (Kd.S_N hsF);rw [hLl] at eF;subst eF;have hFF:Kd.F kL wF (fun q =>q≠bw) AF K L:=Kd.N_F (Kd.a3Q (Kd.S_N (Kd.a7B hsF)) (fun k hk =>by have h1:=hk.2.1;have h2:=HBWR.out;omega));have HFF:=zA0 hFF;have HWF:=zA0 (HWA.out.below hbF);clear hsF hbF hFF)))
   go_loopg [53] K (fun kq v53 w' =>∃ (k:Nat) (v:Nat→Value),k + kq = K∧v53 = .int .i64 (k:Nat)∧Hid (WR w.heap.size bw K v (wrB tr k r1) w Ws w')∧Hid (Kd.F kL w' (fun q =>q≠bw) AF K L))
   case atStart =>exact ⟨0,_,by omega,rfl,HWF,HFF⟩
   case round =>
    obtain ⟨k,v,hk',rfl,HW,HFL⟩:=hrel;clear HWF HFF HWA;by_cases hk:k < K
    ·obtain ⟨ad,A0,c0,eA,hrow,hle,hF0⟩:=rowA HFL.out k hk;subst eA;obtain ⟨t,ht⟩:∃ t,t = tr k:=⟨_,rfl⟩;rw [HLG.out k hk,← ht,a1U] at hrow hle hF0;have hk0:(0:Int)≤(k:Int):=zJ0 k;have hw:=pzS k qD0;obtain ⟨k1,rfl⟩:∃ k1,gk = k1 + 1:=⟨gk - 1,by omega⟩;obtain ⟨rk,hrk⟩:∃ r,r = wrB tr k r1:=⟨_,rfl⟩;have hW0:=HW.out;rw [← hrk] at hW0;have HT:=zA0 ht;have HRK:=zA0 hrk;have HF0:=zA0 hF0;have HWI:=zA0 (show WR w.heap.size bw K v (wrRow k (t.take 0) rk) w Ws wr from by rw [zD2];exact hW0);have HINK:=zA0 (show InU (allOwn fs) rk from by rw [hrk];exact c0B tr HIN1.out k);clear ht hrk hF0 hW0 HW;go_wp2;clear hrow;go_loopg [60] t.length (fun kq v60 w' =>∃ (j:Nat) (v:Nat→Value),j + kq = t.length∧v60 = .int .i64 (j:Nat)∧Hid (WR w.heap.size bw K v (wrRow k (t.take j) rk) w Ws w')∧Hid (Kd.F kL w' (fun q =>q≠bw) (some ad) K L)∧Hid (Kd.F kI w' (fun q =>q≠bw) A0 t.length (toI t)))
     case atStart =>exact ⟨0,_,by omega,rfl,HWI,HFL,HF0⟩
     case round =>
      obtain ⟨j,v,hj,rfl,HW,HFL,HFT⟩:=hrel;clear HWI HF0;by_cases hlt:j < t.length
      ·obtain ⟨m,hm⟩:∃ m,m = t[j]:=⟨_,rfl⟩;have hmK:m < K:=HTLT.out k m (by rw [hm,← HT.out];exact zE1 hlt);obtain ⟨ad1,eA1,hz0⟩:=Kd.a2R (Kd.a5P HFT.out) (j:Int) (zJ0 j) (zG1.2 hlt);subst eA1;rw [zP0] at hz0;have hz1:wr.cell? (ad1.add j) = some (.int .i64 (m:Nat)):=by
        rw [hz0];unfold rd;rw [zP0,a7I _ _ hlt,hm]
       have hm0:(0:Int)≤(m:Int):=zJ0 m;have hlen:=(Kd.a5P HFT.out).2.1;have hwj:wrap64 ((j:Int) + 1) = ((j + 1:Nat):Int):=by simp only [wrap64];omega
       have HM:=zA0 hm;have HJ:=zA0 hj;obtain ⟨k2,rfl⟩:∃ k2,gk = k2 + 1:=⟨gk - 1,by omega⟩;clear hz0 hm hlen hj;go_upto_region 17 with (fail)
       clear hz1;obtain ⟨Ak,ck,zk,zkf,hFk⟩:=HW.out.cell hk;obtain ⟨Am,cm,zm,zmf,hFm⟩:=HW.out.cell hmK;have HFk:=zA0 hFk;have HFm:=zA0 hFm;have HBWL:=zA0 (show bw < wr.heap.size from a1J HW.out.o);have hin:=b2Y k (t.take j) rk HINK.out;have HLK:=zA0 (zE0 (hin.len k) HSM.out.u);have HLM:=zA0 (zE0 (hin.len m) HSM.out.u);clear hFk hFm hin;refine (wpIn_wide (n:=5)).1 ?_;refine wpIn_region_any mixedO ?_;refine a3R _ (fun _ =>undef) (fun done val Z =>TF 13 [10,12] (fun ix_ =>match ix_ with | 0 =>.slice (some ⟨bw,0,none⟩) K K | 1 =>.int .i64 (k:Nat) | 2 =>.slice (some ⟨bw,0,none⟩) K K | 3 =>.int .i64 (k:Nat) | 4 =>.pointer (some ⟨bw,k,none⟩) | 5 =>.slice Ak (wrRow k (t.take j) rk k).length ck | 6 =>.slice (some ⟨bw,0,none⟩) K K | 7 =>.int .i64 (m:Nat) | 8 =>.pointer (some ⟨bw,m,none⟩) | 9 =>.slice Am (wrRow k (t.take j) rk m).length cm | 11 =>.pointer (some ⟨bw,k,none⟩) | _ =>undef) (ST17 wr bw k (unionF (wrRow k (t.take j) rk k) (wrRow k (t.take j) rk m))) done val Z) rfl qE0 _ ?hz17 ?st17 ?en17
       case hz17 =>exact TF.start qF0 qF0 (a2D (zL0 _ _))
       case st17 =>
        intro i_ o done val a Z ho hdn hdep hag hS K2 hK2;have hm:i_ < 13:=by
         by_cases h:i_ < 13
         ·exact h
         ·rw [Array.getElem?_eq_none qG1] at ho;cases ho
        obtain rfl | rfl | rfl | rfl | rfl | rfl | rfl | rfl | rfl | rfl | rfl | rfl | rfl:i_ = 0∨i_ = 1∨i_ = 2∨i_ = 3∨i_ = 4∨i_ = 5∨i_ = 6∨i_ = 7∨i_ = 8∨i_ = 9∨i_ = 10∨i_ = 11∨i_ = 12:=by omega
        ·cases ho;have e5:a.eval (.tmp 5) = .slice (some ⟨bw,0,none⟩) K K:=hag.keep 5 rfl;refine a0G (i:=0) (r:=.slice (some ⟨bw,0,none⟩) K K) (w':=Z) rfl rfl (fun c h =>by cases h) rfl ?_ (hK2 _ _ (hS.const qF0 hdn qF0 rfl));have ec:∀ v,a.eval (.const v) = v:=fun _ =>rfl
         generalize a.eval = ev at *;simp [execOp,go_sem,ec,e5]
        ·cases ho;have e8:a.eval (.tmp 8) = .int .i64 (k:Nat):=hag.keep 8 rfl;refine a0G (i:=1) (r:=.int .i64 (k:Nat)) (w':=Z) rfl rfl (fun c h =>by cases h) rfl ?_ (hK2 _ _ (hS.const qF0 hdn qF0 rfl));have ec:∀ v,a.eval (.const v) = v:=fun _ =>rfl
         generalize a.eval = ev at *;simp [execOp,go_sem,ec,e8]
        ·cases ho;have e5:a.eval (.tmp 5) = .slice (some ⟨bw,0,none⟩) K K:=hag.keep 5 rfl;refine a0G (i:=2) (r:=.slice (some ⟨bw,0,none⟩) K K) (w':=Z) rfl rfl (fun c h =>by cases h) rfl ?_ (hK2 _ _ (hS.const qF0 hdn qF0 rfl));have ec:∀ v,a.eval (.const v) = v:=fun _ =>rfl
         generalize a.eval = ev at *;simp [execOp,go_sem,ec,e5]
        ·cases ho;have e8:a.eval (.tmp 8) = .int .i64 (k:Nat):=hag.keep 8 rfl;refine a0G (i:=3) (r:=.int .i64 (k:Nat)) (w':=Z) rfl rfl (fun c h =>by cases h) rfl ?_ (hK2 _ _ (hS.const qF0 hdn qF0 rfl));have ec:∀ v,a.eval (.const v) = v:=fun _ =>rfl
         generalize a.eval = ev at *;simp [execOp,go_sem,ec,e8]
        ·cases ho;have e66:=(hag.val_ (j:=2) (t:=66) rfl (hdep ⟨2,.data⟩ qI0 rfl)).trans (hS.vv 2 (hdep ⟨2,.data⟩ qI0 rfl) qF0)
         try dsimp only at e66
         have e67:=(hag.val_ (j:=3) (t:=67) rfl (hdep ⟨3,.data⟩ qI0 rfl)).trans (hS.vv 3 (hdep ⟨3,.data⟩ qI0 rfl) qF0)
         try dsimp only at e67
         refine a0G (i:=4) (r:=.pointer (some ⟨bw,k,none⟩)) (w':=Z) rfl rfl (fun c h =>by cases h) ?_ ?_ (hK2 _ _ (hS.const qF0 hdn qF0 rfl))
         ·generalize a.eval = ev at *;simp [Oper.about,resolve,Target.leads,Sem.run_pure,go_sem,e66,e67,zK1.2 hk]
         ·have ec:∀ v,a.eval (.const v) = v:=fun _ =>rfl
          generalize a.eval = ev at *;simp [execOp,go_sem,ec,e66,e67,zK1.2 hk]
        ·cases ho;have e68:=(hag.val_ (j:=4) (t:=68) rfl (hdep ⟨4,.data⟩ qI0 rfl)).trans (hS.vv 4 (hdep ⟨4,.data⟩ qI0 rfl) qF0)
         try dsimp only at e68
         obtain ⟨s_,hs_,hst_⟩:=hS.some (i:=5) qF0 hdn qF0;have hb:=ST17.below qA3 hst_;have zz0:=a2Q zk hb;refine a0G (i:=5) (r:=.slice Ak (wrRow k (t.take j) rk k).length ck) (w':=Z) rfl rfl (fun c h =>by cases h) rfl ?_ (hK2 _ _ (hS.const qF0 hdn qF0 rfl));have ec:∀ v,a.eval (.const v) = v:=fun _ =>rfl
         generalize a.eval = ev at *;simp [execOp,go_sem,ec,e68,zz0]
        ·cases ho;have e5:a.eval (.tmp 5) = .slice (some ⟨bw,0,none⟩) K K:=hag.keep 5 rfl;refine a0G (i:=6) (r:=.slice (some ⟨bw,0,none⟩) K K) (w':=Z) rfl rfl (fun c h =>by cases h) rfl ?_ (hK2 _ _ (hS.const qF0 hdn qF0 rfl));have ec:∀ v,a.eval (.const v) = v:=fun _ =>rfl
         generalize a.eval = ev at *;simp [execOp,go_sem,ec,e5]
        ·cases ho;have e11:a.eval (.tmp 11) = .int .i64 (m:Nat):=hag.keep 11 rfl;refine a0G (i:=7) (r:=.int .i64 (m:Nat)) (w':=Z) rfl rfl (fun c h =>by cases h) rfl ?_ (hK2 _ _ (hS.const qF0 hdn qF0 rfl));have ec:∀ v,a.eval (.const v) = v:=fun _ =>rfl
         generalize a.eval = ev at *;simp [execOp,go_sem,ec,e11]
        ·cases ho;have e70:=(hag.val_ (j:=6) (t:=70) rfl (hdep ⟨6,.data⟩ qI0 rfl)).trans (hS.vv 6 (hdep ⟨6,.data⟩ qI0 rfl) qF0)
         try dsimp only at e70
         have e71:=(hag.val_ (j:=7) (t:=71) rfl (hdep ⟨7,.data⟩ qI0 rfl)).trans (hS.vv 7 (hdep ⟨7,.data⟩ qI0 rfl) qF0)
         try dsimp only at e71
         refine a0G (i:=8) (r:=.pointer (some ⟨bw,m,none⟩)) (w':=Z) rfl rfl (fun c h =>by cases h) ?_ ?_ (hK2 _ _ (hS.const qF0 hdn qF0 rfl))
         ·generalize a.eval = ev at *;simp [Oper.about,resolve,Target.leads,Sem.run_pure,go_sem,e70,e71,zK1.2 hmK]
         ·have ec:∀ v,a.eval (.const v) = v:=fun _ =>rfl
          generalize a.eval = ev at *;simp [execOp,go_sem,ec,e70,e71,zK1.2 hmK]
        ·cases ho;have e72:=(hag.val_ (j:=8) (t:=72) rfl (hdep ⟨8,.data⟩ qI0 rfl)).trans (hS.vv 8 (hdep ⟨8,.data⟩ qI0 rfl) qF0)
         try dsimp only at e72
         obtain ⟨s_,hs_,hst_⟩:=hS.some (i:=9) qF0 hdn qF0;have hb:=ST17.below qA3 hst_;have zz0:=a2Q zm hb;refine a0G (i:=9) (r:=.slice Am (wrRow k (t.take j) rk m).length cm) (w':=Z) rfl rfl (fun c h =>by cases h) rfl ?_ (hK2 _ _ (hS.const qF0 hdn qF0 rfl));have ec:∀ v,a.eval (.const v) = v:=fun _ =>rfl
         generalize a.eval = ev at *;simp [execOp,go_sem,ec,e72,zz0]
        ·cases ho;have e69:=(hag.val_ (j:=5) (t:=69) rfl (hdep ⟨5,.data⟩ qI0 rfl)).trans (hS.vv 5 (hdep ⟨5,.data⟩ qI0 rfl) qF0)
         try dsimp only at e69
         have e73:=(hag.val_ (j:=9) (t:=73) rfl (hdep ⟨9,.data⟩ qI0 rfl)).trans (hS.vv 9 (hdep ⟨9,.data⟩ qI0 rfl) qF0)
         try dsimp only at e73
         have hst:=hS.get 0 qF0 hdn (.inl rfl);have hb:Below wr.heap.size wr Z:=hst;have hun:=a7H (wrRow k (t.take j) rk k) (wrRow k (t.take j) rk m) HLK.out HLM.out Ak Am ck cm Z (Kd.a0H (Kd.a5P HFk.out) hb) (Kd.a0H (Kd.a5P HFm.out) hb);refine a6N (i:=10) (f:=15) rfl rfl rfl (fun _ _ =>rfl) (R:=fun e w' =>∃ v,e = .returned v∧Kd.R Kd.string 9 w' Z.heap.size (fun _ =>True) v (unionF (wrRow k (t.take j) rk k) (wrRow k (t.take j) rk m))∧Below Z.heap.size Z w') ?_ ?_
         ·simp only [zA3,zH2,zT2,e69,e73];exact hun
         ·rintro e' w2 ⟨v2,rfl,hr,hb2⟩;refine ⟨v2,rfl,hK2 _ _ (hS.next 0 qF0 hdn (.inl rfl) (fun h =>absurd h qF0) (fun v' hv _ =>?_))⟩;exact ⟨hb.trans (hb2.mono hb.size),by rw [hv];exact Kd.a2H hr hb.size⟩
        ·cases ho;have e64:=(hag.val_ (j:=0) (t:=64) rfl (hdep ⟨0,.data⟩ qI0 rfl)).trans (hS.vv 0 (hdep ⟨0,.data⟩ qI0 rfl) qF0)
         try dsimp only at e64
         have e65:=(hag.val_ (j:=1) (t:=65) rfl (hdep ⟨1,.data⟩ qI0 rfl)).trans (hS.vv 1 (hdep ⟨1,.data⟩ qI0 rfl) qF0)
         try dsimp only at e65
         refine a0G (i:=11) (r:=.pointer (some ⟨bw,k,none⟩)) (w':=Z) rfl rfl (fun c h =>by cases h) ?_ ?_ (hK2 _ _ (hS.const qF0 hdn qF0 rfl))
         ·generalize a.eval = ev at *;simp [Oper.about,resolve,Target.leads,Sem.run_pure,go_sem,e64,e65,zK1.2 hk]
         ·have ec:∀ v,a.eval (.const v) = v:=fun _ =>rfl
          generalize a.eval = ev at *;simp [execOp,go_sem,ec,e64,e65,zK1.2 hk]
        ·cases ho;have e75:=(hag.val_ (j:=11) (t:=75) rfl (hdep ⟨11,.data⟩ qI0 rfl)).trans (hS.vv 11 (hdep ⟨11,.data⟩ qI0 rfl) qF0)
         try dsimp only at e75
         have e74:=hag.val_ (j:=10) (t:=74) rfl (hdep ⟨10,.data⟩ qI0 rfl);have hst:=hS.get 1 qF0 hdn (.inr (hdep ⟨10,.data⟩ qI0 rfl));obtain ⟨hb,hr1⟩:=hst;obtain ⟨Ao,co,ev0⟩:=Kd.a1Y hr1;have ev1:val 10 = .slice Ao (unionF (wrRow k (t.take j) rk k) (wrRow k (t.take j) rk m)).length co:=ev0;rw [ev1] at e74;rw [ev0] at hr1;have zz0:=a2Q zk hb;have zzf:=a0Q (a0P HW.out.o hb) (k)
         refine a3L (i:=12) rfl rfl (fun c h =>by cases h) rfl (w':=Z.setCell ⟨bw,k,none⟩ (.slice Ao (unionF (wrRow k (t.take j) rk k) (wrRow k (t.take j) rk m)).length co)) ?_ (hK2 _ _ (hS.next 1 qF0 hdn (.inr (hdep ⟨10,.data⟩ qI0 rfl)) (fun _ i_ hi hni =>by
          match i_,hi with
          | 0,_ =>exact hdep ⟨0,.phase⟩ qI0 rfl
          | 1,_ =>exact hdep ⟨1,.phase⟩ qI0 rfl
          | 2,_ =>exact hdep ⟨2,.phase⟩ qI0 rfl
          | 3,_ =>exact hdep ⟨3,.phase⟩ qI0 rfl
          | 4,_ =>exact hdep ⟨4,.phase⟩ qI0 rfl
          | 5,_ =>exact hdep ⟨5,.phase⟩ qI0 rfl
          | 6,_ =>exact hdep ⟨6,.phase⟩ qI0 rfl
          | 7,_ =>exact hdep ⟨7,.phase⟩ qI0 rfl
          | 8,_ =>exact hdep ⟨8,.phase⟩ qI0 rfl
          | 9,_ =>exact hdep ⟨9,.phase⟩ qI0 rfl
          | 10,_ =>exact absurd qF0 hni
          | 11,_ =>exact hdep ⟨11,.data⟩ qI0 rfl
          | 12,_ =>exact absurd qF0 hni
          | q_ + 13,h =>omega) (fun v' _ _ =>⟨_,_,Z,rfl,hb,hr1⟩)))
         have ec:∀ v,a.eval (.const v) = v:=fun _ =>rfl
         generalize a.eval = ev at *;simp [execOp,go_sem,ec,e75,e74,zz0,zzf]
       case en17 =>
        intro Z done val hdn hS;simp only [putTmps,dstOf,zV1,zX0,zN1,Nat.reduceAdd,zE2,zM1,zT1,zN0,zC0,zG0,zH0];obtain ⟨A3,c3,Z0,rfl,hb9,hr9⟩:=hS.last (hdn 12 qF0);have hw10:=(HW.out.below hb9).put HBWL.out hk hr9;have HFL9:=zA0 (Kd.a1Z HFL.out hb9);have HFT9:=zA0 (Kd.a1Z HFT.out hb9);clear hS hdn zk zkf zm zmf hb9 hr9;have ew:=b8T k t j hlt;rw [← HM.out] at ew;rw [← ew] at hw10;have HW10:=zA0 hw10;have HFL10:=zA0 (Kd.b0B (p:=⟨bw,k,none⟩) HFL9.out (fun _ hq =>hq) (.slice A3 (unionF (wrRow k (t.take j) rk k) (wrRow k (t.take j) rk m)).length c3));have HFT10:=zA0 (Kd.b0B (p:=⟨bw,k,none⟩) HFT9.out (fun _ hq =>hq) (.slice A3 (unionF (wrRow k (t.take j) rk k) (wrRow k (t.take j) rk m)).length c3));clear hw10 ew;go_wp2;go_roundg k2
        case measure =>exact zR0 _
        case rel =>exact ⟨j + 1,_,by rw [zA1,zC1 1];exact HJ.out,by first | rw [hwj] | simp [hwj],HW10,HFL10,HFT10⟩
      ·have hje:j = t.length:=by omega
       have hw10:=HW.out;rw [hje,zH1,HT.out,HRK.out,← b0C] at hw10;have HW10:=zA0 hw10;clear hw10;go_wp2;go_roundg k1
       case measure =>exact zR0 _
       case rel =>exact ⟨k + 1,_,by rw [zA1,zC1 1];exact hk',by first | rw [hw] | simp [hw],HW10,HFL⟩
    ·have hke:k = K:=by omega
     have hwF:=HW.out;rw [hke] at hwF;obtain ⟨rF,hrF⟩:∃ r,r = wrB tr K r1:=⟨_,rfl⟩;have hinF:InU (allOwn fs) rF:=by rw [hrF];exact c0B tr HIN1.out K
     have hfin:=HFIN2.out;rw [← hrF] at hwF hfin;have hp6:wr.heap[w.heap.size]? = some (.cells #[.slice A fs.length c] 24 (0,0)):=(hwF.fz _ HP5.out.2).trans HP5.out.1;have zp:wr.cell? ⟨w.heap.size,0,none⟩ = some (.slice A fs.length c):=(a0L hp6 0).trans rfl;have HWF:=zA0 hwF;have HINF:=zA0 hinF;have HFIN3:=zA0 hfin;clear hwF hinF hfin hp6 HW HFL HFIN2 hke;go_upto_region 22 with (fail)
     clear zp;obtain ⟨W3,hW3⟩:∃ W,W = wr:=⟨_,rfl⟩;have hwr3:Below W3.heap.size W3 wr:=by rw [hW3];exact zL0 _ _
     rw [← hW3] at HWF;have HBE:=zA0 hwr3;clear hwr3 hW3;go_loopg [12,81] fs.length (fun kq v12 v81 w' =>∃ (i:Nat) (o:Value),i + kq = fs.length∧o = v12∧v81 = .int .i64 (i:Nat)∧Hid (Below W3.heap.size W3 w')∧Hid (Kd.N k42 42 w' W3.heap.size (fun q =>W3.heap.size≤q) o ((sigsF fs).take i)))
     case atStart =>exact ⟨0,_,by omega,rfl,rfl,HBE,zA0 (by rw [zD2];exact Kd.c3Y _ _ _ _ _)⟩
     case round =>
      obtain ⟨i,v12,hi',rfl,rfl,HB,HN⟩:=hrel;clear HBE;by_cases hi:i < fs.length
      ·obtain ⟨ad,A1,c1,A2,c2,eA,x0,x1,x2,l1,g1,l2,g2⟩:=a5F (Kd.a0H HC.out (HWF.out.be.trans (HB.out.mono HWF.out.be.size))) (i:Int) (zJ0 i) (zG1.2 hi);subst eA;rw [zP0] at x0 x1 x2;obtain ⟨f,hf⟩:∃ f,f = a0S fs (i:Int):=⟨_,rfl⟩;rw [← hf] at x0 x1 x2 l1 g1 l2 g2;have hi0:(0:Int)≤(i:Int):=zJ0 i;have hw:=pz i qD0;have hnK:=HNUM.out i hi;obtain ⟨k1,rfl⟩:∃ k1,gk = k1 + 1:=⟨gk - 1,by omega⟩;have hba:Below wr.heap.size wr (wr.alloc (.cells #[.string f.f0,.slice A1 f.f1.length c1,.slice A2 f.f2.length c2] 34)):=a0C (zL0 _ _) _;have HFE:=zA0 hf;have HB3:=zA0 (HB.out.trans (hba.mono HB.out.size));have HNA:=zA0 (Kd.a2B HN.out hba);have HNB:=zA0 (World.alloc_heap_new wr (.cells #[.string f.f0,.slice A1 f.f1.length c1,.slice A2 f.f2.length c2] 34));have HL1:=zA0 l1;clear hba g1 g2 l1 l2 hf HB HN;go_upto_region 24 with (fail)
       clear x0 x1 x2;generalize hbx:wr.heap.size = bx at HNB ⊢;clear hbx;generalize wr.alloc (.cells #[.string f.f0,.slice A1 f.f1.length c1,.slice A2 f.f2.length c2] 34) = Wa at HNA HB3 HNB ⊢;have zb0:Wa.cell? ⟨bx,0,none⟩ = some (.string f.f0):=(a0L HNB.out 0).trans rfl;have zb1:Wa.cell? ⟨bx,1,none⟩ = some (.slice A1 f.f1.length c1):=(a0L HNB.out 1).trans rfl;have hbo3:W3.heap[bo]? = some (.cells (ints g.length num) 3 (0,0)):=(HWF.out.fz bo HBO5.out.2).trans HBO5.out.1;have hig:i < g.length:=Nat.lt_of_lt_of_eq hi HGL.out.symm;have zo:W3.cell? ⟨bo,i,none⟩ = some (.int .i64 (num i:Nat)):=(a0L hbo3 i).trans (a3K _ hig);obtain ⟨Ar,cr,zw,zwf,hFr⟩:=HWF.out.cell hnK;have hn0:(0:Int)≤(num i:Int):=zJ0 _;have HFR:=zA0 (Kd.a5G hFr);have HLN:=zA0 (zE0 (HINF.out.len (num i)) HSM.out.u);have HBX:=zA0 (a1J HNB.out);have hbx43:=HNB.out;have HBXC:=zA0 (show ∀ (Z:World) (q:Nat) (x:Value),Z.heap[bx]? = Wa.heap[bx]?→Wa.cell? ⟨bx,q,none⟩ = some x→Z.cell? ⟨bx,q,none⟩ = some x from fun Z q x h1 h2 =>(a0L (h1.trans hbx43) q).trans ((a0L hbx43 q).symm.trans h2))
       have HTS:=zA0 (show (sigsF fs).take (i + 1) = (sigsF fs).take i ++ [⟨f.f0,((f.f1.length:Nat):Int),rF (num i)⟩] from by
        have h1:i < (sigsF fs).length:=by rw [HFIN3.out];simpa using hi
        rw [zW0 h1]
        congr 2
        have h2:(sigsF fs)[i]? = some ⟨f.f0,((f.f1.length:Nat):Int),rF (num i)⟩:=by
         rw [HFIN3.out,List.getElem?_map,List.getElem?_range hi];rw [HFE.out];rfl
        rw [zF0 h1] at h2
        exact zI0 h2)
       have hi1:i≤1000:=zE0 (zZ1 hi) hn;have HLO:=zA0 (zE0 (List.length_take_le i (sigsF fs)) hi1);clear hi1;obtain ⟨out,hout⟩:∃ o,o = (sigsF fs).take i:=⟨_,rfl⟩;rw [← hout] at HNA HTS HLO;have HNS:=HNA.out;clear hFr hbo3 hbx43 hout;refine (wpIn_wide (n:=5)).1 ?_;refine wpIn_region_any mixedO ?_;refine b3B _ (fun _ =>undef) (fun done val Z =>TF 18 [13,14,15,16,17] (fun ix_ =>match ix_ with | 0 =>v12 | 1 =>.pointer (some ⟨bx,0,none⟩) | 2 =>.string f.f0 | 3 =>.pointer (some ⟨bx,1,none⟩) | 4 =>.slice A1 f.f1.length c1 | 5 =>.int .i64 (f.f1.length:Nat) | 6 =>.slice (some ⟨bw,0,none⟩) K K | 7 =>.slice (some ⟨bo,0,none⟩) g.length g.length | 8 =>.int .i64 (i:Nat) | 9 =>.pointer (some ⟨bo,i,none⟩) | 10 =>.int .i64 (num i:Nat) | 11 =>.pointer (some ⟨bw,num i,none⟩) | 12 =>.slice Ar (rF (num i)).length cr | _ =>undef) (ST24 W3 Wa bx (rF (num i)) f.f0 f.f1.length out) done val Z) rfl qE0 _ ?hz24 ?st24 ?en24
       case hz24 =>exact TF.start qF0 qF0 (a2D (zL0 _ _))
       case st24 =>
        intro i_ o done val a Z ho hdn hdep hag hun hS K2 hK2;have hm:i_ < 18:=by
         by_cases h:i_ < 18
         ·exact h
         ·rw [Array.getElem?_eq_none qG1] at ho;cases ho
        obtain rfl | rfl | rfl | rfl | rfl | rfl | rfl | rfl | rfl | rfl | rfl | rfl | rfl | rfl | rfl | rfl | rfl | rfl:i_ = 0∨i_ = 1∨i_ = 2∨i_ = 3∨i_ = 4∨i_ = 5∨i_ = 6∨i_ = 7∨i_ = 8∨i_ = 9∨i_ = 10∨i_ = 11∨i_ = 12∨i_ = 13∨i_ = 14∨i_ = 15∨i_ = 16∨i_ = 17:=by omega
        ·cases ho;have e12:a.eval (.tmp 12) = v12:=hun.at 12 17 (hS.al 0 qF0 hdn qF0) rfl;refine a0G (i:=0) (r:=v12) (w':=Z) rfl rfl (fun c h =>by cases h) rfl ?_ (hK2 _ _ (hS.const qF0 hdn qF0 rfl));have ec:∀ v,a.eval (.const v) = v:=fun _ =>rfl
         generalize a.eval = ev at *;simp [execOp,go_sem,ec,e12]
        ·cases ho;have e14:a.eval (.tmp 14) = .pointer (some ⟨bx,0,none⟩):=hag.keep 14 rfl;refine a0G (i:=1) (r:=.pointer (some ⟨bx,0,none⟩)) (w':=Z) rfl rfl (fun c h =>by cases h) rfl ?_ (hK2 _ _ (hS.const qF0 hdn qF0 rfl));have ec:∀ v,a.eval (.const v) = v:=fun _ =>rfl
         generalize a.eval = ev at *;simp [execOp,go_sem,ec,e14]
        ·cases ho;have e87:=(hag.val_ (j:=1) (t:=87) rfl (hdep ⟨1,.data⟩ qI0 rfl)).trans (hS.vv 1 (hdep ⟨1,.data⟩ qI0 rfl) qF0)
         try dsimp only at e87
         obtain ⟨s_,hs_,hst_⟩:=hS.some (i:=2) qF0 hdn qF0;have hb:=ST24.cell HBX.out HB3.out hst_;have zz0:=HBXC.out Z 0 _ hb.2 zb0;refine a0G (i:=2) (r:=.string f.f0) (w':=Z) rfl rfl (fun c h =>by cases h) rfl ?_ (hK2 _ _ (hS.const qF0 hdn qF0 rfl));have ec:∀ v,a.eval (.const v) = v:=fun _ =>rfl
         generalize a.eval = ev at *;simp [execOp,go_sem,ec,e87,zz0]
        ·cases ho;have e14:a.eval (.tmp 14) = .pointer (some ⟨bx,0,none⟩):=hag.keep 14 rfl;refine a0G (i:=3) (r:=.pointer (some ⟨bx,1,none⟩)) (w':=Z) rfl rfl (fun c h =>by cases h) rfl ?_ (hK2 _ _ (hS.const qF0 hdn qF0 rfl));have ec:∀ v,a.eval (.const v) = v:=fun _ =>rfl
         generalize a.eval = ev at *;simp [execOp,go_sem,ec,e14]
        ·cases ho;have e89:=(hag.val_ (j:=3) (t:=89) rfl (hdep ⟨3,.data⟩ qI0 rfl)).trans (hS.vv 3 (hdep ⟨3,.data⟩ qI0 rfl) qF0)
         try dsimp only at e89
         obtain ⟨s_,hs_,hst_⟩:=hS.some (i:=4) qF0 hdn qF0;have hb:=ST24.cell HBX.out HB3.out hst_;have zz0:=HBXC.out Z 1 _ hb.2 zb1;refine a0G (i:=4) (r:=.slice A1 f.f1.length c1) (w':=Z) rfl rfl (fun c h =>by cases h) rfl ?_ (hK2 _ _ (hS.const qF0 hdn qF0 rfl));have ec:∀ v,a.eval (.const v) = v:=fun _ =>rfl
         generalize a.eval = ev at *;simp [execOp,go_sem,ec,e89,zz0]
        ·cases ho;have e90:=(hag.val_ (j:=4) (t:=90) rfl (hdep ⟨4,.data⟩ qI0 rfl)).trans (hS.vv 4 (hdep ⟨4,.data⟩ qI0 rfl) qF0)
         try dsimp only at e90
         refine a0G (i:=5) (r:=.int .i64 (f.f1.length:Nat)) (w':=Z) rfl rfl (fun c h =>by cases h) rfl ?_ (hK2 _ _ (hS.const qF0 hdn qF0 rfl));have ec:∀ v,a.eval (.const v) = v:=fun _ =>rfl
         generalize a.eval = ev at *;simp [execOp,go_sem,ec,e90]
        ·cases ho;have e5:a.eval (.tmp 5) = .slice (some ⟨bw,0,none⟩) K K:=hag.keep 5 rfl;refine a0G (i:=6) (r:=.slice (some ⟨bw,0,none⟩) K K) (w':=Z) rfl rfl (fun c h =>by cases h) rfl ?_ (hK2 _ _ (hS.const qF0 hdn qF0 rfl));have ec:∀ v,a.eval (.const v) = v:=fun _ =>rfl
         generalize a.eval = ev at *;simp [execOp,go_sem,ec,e5]
        ·cases ho;have e4:a.eval (.tmp 4) = .slice (some ⟨bo,0,none⟩) g.length g.length:=hag.keep 4 rfl;refine a0G (i:=7) (r:=.slice (some ⟨bo,0,none⟩) g.length g.length) (w':=Z) rfl rfl (fun c h =>by cases h) rfl ?_ (hK2 _ _ (hS.const qF0 hdn qF0 rfl));have ec:∀ v,a.eval (.const v) = v:=fun _ =>rfl
         generalize a.eval = ev at *;simp [execOp,go_sem,ec,e4]
        ·cases ho;have e13:a.eval (.tmp 13) = .int .i64 (i:Nat):=hag.keep 13 rfl;refine a0G (i:=8) (r:=.int .i64 (i:Nat)) (w':=Z) rfl rfl (fun c h =>by cases h) rfl ?_ (hK2 _ _ (hS.const qF0 hdn qF0 rfl));have ec:∀ v,a.eval (.const v) = v:=fun _ =>rfl
         generalize a.eval = ev at *;simp [execOp,go_sem,ec,e13]
        ·cases ho;have e93:=(hag.val_ (j:=7) (t:=93) rfl (hdep ⟨7,.data⟩ qI0 rfl)).trans (hS.vv 7 (hdep ⟨7,.data⟩ qI0 rfl) qF0)
         try dsimp only at e93
         have e94:=(hag.val_ (j:=8) (t:=94) rfl (hdep ⟨8,.data⟩ qI0 rfl)).trans (hS.vv 8 (hdep ⟨8,.data⟩ qI0 rfl) qF0)
         try dsimp only at e94
         refine a0G (i:=9) (r:=.pointer (some ⟨bo,i,none⟩)) (w':=Z) rfl rfl (fun c h =>by cases h) ?_ ?_ (hK2 _ _ (hS.const qF0 hdn qF0 rfl))
         ·generalize a.eval = ev at *;simp [Oper.about,resolve,Target.leads,Sem.run_pure,go_sem,e93,e94,zK1.2 hig]
         ·have ec:∀ v,a.eval (.const v) = v:=fun _ =>rfl
          generalize a.eval = ev at *;simp [execOp,go_sem,ec,e93,e94,zK1.2 hig]
        ·cases ho;have e95:=(hag.val_ (j:=9) (t:=95) rfl (hdep ⟨9,.data⟩ qI0 rfl)).trans (hS.vv 9 (hdep ⟨9,.data⟩ qI0 rfl) qF0)
         try dsimp only at e95
         obtain ⟨s_,hs_,hst_⟩:=hS.some (i:=10) qF0 hdn qF0;have hb:=ST24.cell HBX.out HB3.out hst_;have zz0:=a2Q zo hb.1;refine a0G (i:=10) (r:=.int .i64 (num i:Nat)) (w':=Z) rfl rfl (fun c h =>by cases h) rfl ?_ (hK2 _ _ (hS.const qF0 hdn qF0 rfl));have ec:∀ v,a.eval (.const v) = v:=fun _ =>rfl
         generalize a.eval = ev at *;simp [execOp,go_sem,ec,e95,zz0]
        ·cases ho;have e92:=(hag.val_ (j:=6) (t:=92) rfl (hdep ⟨6,.data⟩ qI0 rfl)).trans (hS.vv 6 (hdep ⟨6,.data⟩ qI0 rfl) qF0)
         try dsimp only at e92
         have e96:=(hag.val_ (j:=10) (t:=96) rfl (hdep ⟨10,.data⟩ qI0 rfl)).trans (hS.vv 10 (hdep ⟨10,.data⟩ qI0 rfl) qF0)
         try dsimp only at e96
         refine a0G (i:=11) (r:=.pointer (some ⟨bw,num i,none⟩)) (w':=Z) rfl rfl (fun c h =>by cases h) ?_ ?_ (hK2 _ _ (hS.const qF0 hdn qF0 rfl))
         ·generalize a.eval = ev at *;simp [Oper.about,resolve,Target.leads,Sem.run_pure,go_sem,e92,e96,zK1.2 hnK]
         ·have ec:∀ v,a.eval (.const v) = v:=fun _ =>rfl
          generalize a.eval = ev at *;simp [execOp,go_sem,ec,e92,e96,zK1.2 hnK]
        ·cases ho;have e97:=(hag.val_ (j:=11) (t:=97) rfl (hdep ⟨11,.data⟩ qI0 rfl)).trans (hS.vv 11 (hdep ⟨11,.data⟩ qI0 rfl) qF0)
         try dsimp only at e97
         obtain ⟨s_,hs_,hst_⟩:=hS.some (i:=12) qF0 hdn qF0;have hb:=ST24.cell HBX.out HB3.out hst_;have zz0:=a2Q zw hb.1;refine a0G (i:=12) (r:=.slice Ar (rF (num i)).length cr) (w':=Z) rfl rfl (fun c h =>by cases h) rfl ?_ (hK2 _ _ (hS.const qF0 hdn qF0 rfl));have ec:∀ v,a.eval (.const v) = v:=fun _ =>rfl
         generalize a.eval = ev at *;simp [execOp,go_sem,ec,e97,zz0]
        ·cases ho;have e98:=(hag.val_ (j:=12) (t:=98) rfl (hdep ⟨12,.data⟩ qI0 rfl)).trans (hS.vv 12 (hdep ⟨12,.data⟩ qI0 rfl) qF0)
         try dsimp only at e98
         have hst:Below Wa.heap.size Wa Z:=hS.get 0 qF0 hdn (.inl rfl);have hb3:Below W3.heap.size W3 Z:=HB3.out.trans (hst.mono HB3.out.size);have hcl:=c3E (rF (num i)) Ar cr Z (Kd.a5P (Kd.a6A HFR.out (fun q hq hlt =>hb3.block q hlt))) (zE0 HLN.out qF0);refine a6N (i:=13) (f:=32) rfl rfl rfl (fun _ _ =>rfl) (R:=fun e w' =>∃ v,e = .returned v∧w'.ownsRow Z.heap.size 9 1 v (rF (num i)).length ((rF (num i)).map Value.string)∧Below Z.heap.size Z w') ?_ ?_
         ·simp only [zA3,zH2,zT2,e98];exact hcl
         ·rintro e' w2 ⟨v2,rfl,hr,hb2⟩;have hr2:Kd.R Kd.string 9 w2 Z.heap.size (fun _ =>True) v2 (rF (num i)):=Kd.a3Z hr (fun _ _ =>trivial);refine ⟨v2,rfl,hK2 _ _ (hS.next 0 qF0 hdn (.inl rfl) (fun h =>absurd h qF0) (fun v' hv _ =>?_))⟩;exact ⟨hst.trans (hb2.mono hst.size),by rw [hv];exact Kd.a2H hr2 hst.size⟩
        ·cases ho;have e88:=(hag.val_ (j:=2) (t:=88) rfl (hdep ⟨2,.data⟩ qI0 rfl)).trans (hS.vv 2 (hdep ⟨2,.data⟩ qI0 rfl) qF0)
         try dsimp only at e88
         have e91:=(hag.val_ (j:=5) (t:=91) rfl (hdep ⟨5,.data⟩ qI0 rfl)).trans (hS.vv 5 (hdep ⟨5,.data⟩ qI0 rfl) qF0)
         try dsimp only at e91
         have e99:=hag.val_ (j:=13) (t:=99) rfl (hdep ⟨13,.data⟩ qI0 rfl);obtain ⟨hb,hr1⟩:=hS.get 1 qF0 hdn (.inr (hdep ⟨13,.data⟩ qI0 rfl));obtain ⟨Ao,co,ev0⟩:=Kd.a1Y hr1;have ev1:val 13 = .slice Ao (rF (num i)).length co:=ev0;rw [ev1] at e99;refine a0G (i:=14) (r:=.agg #[.string f.f0,.int .i64 (f.f1.length:Nat),.slice Ao (rF (num i)).length co]) (w':=Z) rfl rfl (fun c h =>by cases h) rfl ?_ (hK2 _ _ (hS.next 1 qF0 hdn (.inr (hdep ⟨13,.data⟩ qI0 rfl)) (fun h =>absurd h qF0) (fun v' hv hlt =>?_)))
         ·have ec:∀ v,a.eval (.const v) = v:=fun _ =>rfl
          generalize a.eval = ev at *;simp [execOp,go_sem,ec,e88,e91,e99]
         ·have e0:v' 0 = val 13:=hlt 0 qF0;exact ⟨hb,by rw [e0];exact hr1,by rw [hv,e0,ev1]⟩
        ·cases ho;have e100:=hag.val_ (j:=14) (t:=100) rfl (hdep ⟨14,.data⟩ qI0 rfl);obtain ⟨hb,hr1,hv1⟩:=hS.get 2 qF0 hdn (.inr (hdep ⟨14,.data⟩ qI0 rfl));obtain ⟨Ao,co,ev0⟩:=Kd.a1Y hr1;rw [ev0] at hr1 hv1;have ev1:val 14 = .agg #[.string f.f0,.int .i64 (f.f1.length:Nat),.slice Ao (rF (num i)).length co]:=hv1;rw [ev1] at e100;refine a0G (i:=15) (r:=.slice (some ⟨Z.heap.size,0,none⟩) 1 1) (w':=Z.alloc (.cells #[.string f.f0,.int .i64 (f.f1.length:Nat),.slice Ao (rF (num i)).length co] 42)) rfl rfl (fun c h =>by cases h) rfl ?_ (hK2 _ _ (hS.next 2 qF0 hdn (.inr (hdep ⟨14,.data⟩ qI0 rfl)) (fun h =>absurd h qF0) (fun v' hv _ =>⟨Ao,co,Z,rfl,hv,hb,hr1⟩)));have ec:∀ v,a.eval (.const v) = v:=fun _ =>rfl
         generalize a.eval = ev at *;simp [execOp,go_sem,ec,e100]
        ·cases ho;have e86:=(hag.val_ (j:=0) (t:=86) rfl (hdep ⟨0,.data⟩ qI0 rfl)).trans (hS.vv 0 (hdep ⟨0,.data⟩ qI0 rfl) qF0)
         try dsimp only at e86
         have e101:=hag.val_ (j:=15) (t:=101) rfl (hdep ⟨15,.data⟩ qI0 rfl);obtain ⟨Ao,co,Z0,hZ,ev2,hb,hr1⟩:=hS.get 3 qF0 hdn (.inr (hdep ⟨15,.data⟩ qI0 rfl));subst hZ;have ev3:val 15 = .slice (some ⟨Z0.heap.size,0,none⟩) 1 1:=ev2;rw [ev3] at e101;have hr2:Kd.F Kd.string Z0 (fun k =>Wa.heap.size≤k) Ao (rF (num i)).length (rF (num i)):=Kd.N_F (Kd.R_N (Kd.a6P rfl hr1 (fun k hk =>a2M (Kd.a3A hr1) k hk)));have hfk:=k42_mkF Z0 (fun k =>Wa.heap.size≤k) (⟨f.f0,((f.f1.length:Nat):Int),rF (num i)⟩:S42) (c2:=co) (Kd.a1H hr1).2.1 hr2;have hno:=Kd.a2B HNS hb;have hob:Below W3.heap.size W3 Z0:=HB3.out.trans (hb.mono HB3.out.size);have hown:∀ k,v12.ownBlock = some k→k < Wa.heap.size:=fun k hk =>by obtain ⟨_,rows,_,hR,_⟩:=HNS;obtain ⟨_,ho⟩:=Kd.c3T hR;exact a7M ho k hk
         refine a7N (i:=16) (s:=.tmp 86) (x:=.tmp 101) (t:=28) (t':=28) rfl rfl rfl ?_;refine Kd.b4F k42 W3.heap.size (w0:=W3) rfl (.tmp 86) (.tmp 101) 28 42 (.agg #[(.string ⟨#[]⟩),(.int .i64 0),(.slice none 0 0)]) 48 rfl Tryz.underlying28 info42 rfl qF0 qF0 v12 out ⟨f.f0,((f.f1.length:Nat):Int),rF (num i)⟩ [.string f.f0,.int .i64 ((f.f1.length:Nat):Int),.slice Ao (rF (num i)).length co] (fun q =>W3.heap.size≤q) (fun k =>Wa.heap.size≤k) e86 e101 hfk (fun k hk =>⟨zE0 HB3.out.size hk,fun e =>absurd (hown k e.symm) (zH3.2 hk)⟩) (fun k hk =>zE0 hob.size hk) hno hob hob.size (by have:=HLO.out;omega) ?_;intro v1 w1 hn1 hb1 hg1 _;refine hK2 v1 w1 (hS.next 3 qF0 hdn (.inr (hdep ⟨15,.data⟩ qI0 rfl)) (fun h =>absurd h qF0) (fun v' hv _ =>⟨hb1,?_,by rw [hv];exact hn1⟩));have hne:some bx≠v12.ownBlock:=Kd.N_ne HNS HNB.out qF0;rw [hg1.block bx (zJ1 HBX.out hb.size) hne];exact hb.block bx HBX.out
        ·cases ho;have e102:=hag.val_ (j:=16) (t:=102) rfl (hdep ⟨16,.data⟩ qI0 rfl);have hst:=hS.get 4 qF0 hdn (.inr (hdep ⟨16,.data⟩ qI0 rfl));obtain ⟨hb,hbxx,hn1⟩:=hst
         refine a0G (i:=17) (r:=val 16) (w':=Z) rfl rfl (fun c h =>by cases h) rfl ?_ (hK2 _ _ (hS.next 4 qF0 hdn (.inr (hdep ⟨16,.data⟩ qI0 rfl)) (fun _ i_ hi hni =>by
           match i_,hi with
           | 0,_ =>exact hdep ⟨0,.phase⟩ qI0 rfl
           | 1,_ =>exact hdep ⟨1,.phase⟩ qI0 rfl
           | 2,_ =>exact hdep ⟨2,.phase⟩ qI0 rfl
           | 3,_ =>exact hdep ⟨3,.phase⟩ qI0 rfl
           | 4,_ =>exact hdep ⟨4,.phase⟩ qI0 rfl
           | 5,_ =>exact hdep ⟨5,.phase⟩ qI0 rfl
           | 6,_ =>exact hdep ⟨6,.phase⟩ qI0 rfl
           | 7,_ =>exact hdep ⟨7,.phase⟩ qI0 rfl
           | 8,_ =>exact hdep ⟨8,.phase⟩ qI0 rfl
           | 9,_ =>exact hdep ⟨9,.phase⟩ qI0 rfl
           | 10,_ =>exact hdep ⟨10,.phase⟩ qI0 rfl
           | 11,_ =>exact hdep ⟨11,.phase⟩ qI0 rfl
           | 12,_ =>exact hdep ⟨12,.phase⟩ qI0 rfl
           | 13,_ =>exact absurd qF0 hni
           | 14,_ =>exact absurd qF0 hni
           | 15,_ =>exact absurd qF0 hni
           | 16,_ =>exact absurd qF0 hni
           | 17,_ =>exact absurd qF0 hni
           | q_ + 18,h =>omega) (fun v' hv _ =>⟨hb,hbxx,by rw [hv];exact hn1⟩)))
         have ec:∀ v,a.eval (.const v) = v:=fun _ =>rfl
         generalize a.eval = ev at *;simp [execOp,go_sem,ec,e102]
       case en24 =>
        intro Z done val hdn hS;simp only [putTmps,dstOf,zV1,zX0,zN1,Nat.reduceAdd,zE2,zM1,zT1,zN0,zC0,zG0,zH0];have hst:=hS.last (hdn 17 qF0);obtain ⟨hb9,_,hn9⟩:=hst;have HB9:=zA0 hb9;have HN9:=zA0 hn9;clear hS hdn zb0 zb1 zo zw zwf hb9 hn9;go_wp2;go_roundg k1
        case measure =>exact zR0 _
        case rel =>exact ⟨i + 1,_,by rw [zA1,zC1 1];exact hi',rfl,by first | rw [hw] | simp [hw],HB9,by rw [HTS.out];exact HN9⟩
      ·have hie:i = fs.length:=by omega
       have hn9:=HN.out;have hl9:(sigsF fs).length = fs.length:=by rw [HFIN3.out];simp
       rw [hie,← hl9,zH1] at hn9;have hB9:Below w.heap.size w wr:=HWF.out.be.trans (HB.out.mono HWF.out.be.size);have hn10:=Kd.a3Q (ok':=fun q =>w.heap.size≤q) (Kd.a7C hn9 HWF.out.be.size) (fun q hq =>zE0 HWF.out.be.size hq);have HN10:=zA0 hn10;have aC:=zA0 hB9;clear hn9 hn10 hB9 HN HB hl9;go_wp2
       first
        | exact ⟨_,rfl,HN10.out,aC.out⟩
        | exact ⟨_,rfl,_,rfl,HN10.out,aC.out⟩
        | (go_ret;exact ⟨_,rfl,HN10.out,aC.out⟩)
        | exact (0:Nat)
end Go.Proofs.YthhgfncliffggaaGreat.Man
namespace Go.Proofs.YthhgfncliffggaaGreat.Pr
open Go.RowKit Go.Proofs.YthhgfncliffggaaGreatW.PrintWords Go.Proofs.YthhgfncliffggaaGreatW.PrintLast Go.Proofs.YthhgfncliffggaaGreatW.PrintMore
attribute [local go_sem] a3J a3I a4D a4C a3F a3E a3T a3S   -- for this text's walks alone
open Classical in
noncomputable def effects_Sigs.f (aA:List (S34)):Option ((List (S42))):=if Man.SmG aA then some (Man.sigsF aA) else none
theorem effects_Sigs.calls (aD:Option Addr) (aE:Nat) (aA:List (S34)) (r:List (S42)) (w:World) (aG:Kd.C k34 w aD aA.length aA) (aH:aA.length≤aE) (h:effects_Sigs.f aA = some r) :
  Calls Tryz.prog 9 #[.agg #[.slice aD aA.length aE]] w fun e w' =>∃ v0_:Value,e = .returned (v0_)∧Kd.N k42 42 w' w.heap.size (fun k_ =>(w.heap.size≤k_)) v0_ r∧Below w.heap.size w w' :=
 by
 unfold effects_Sigs.f at h
 split at h
 ·next hN =>
  cases h;exact Man.b7Q w aA aD aE aH aG hN
 ·cases h
end Go.Proofs.YthhgfncliffggaaGreat.Pr
namespace Go.Proofs.YthhgfncliffggaaGreat.Man
open Go.RowKit Go.Proofs.YthhgfncliffggaaGreat.Pr Go.Proofs.YthhgfncliffggaaGreatW.PrintWords
attribute [local go_sem] Oper.semAt_some
open Go.Proofs.YthhgfncliffggaaGreat.Tarj
theorem sizePR:(Tryz.prog.info? 24).map (·.size) = some 1:=by kernel_rfl
theorem sizeFT:(Tryz.prog.info? 52).map (·.size) = some 2:=by kernel_rfl
theorem p14_lay (w:World):Calls Tryz.prog 26 #[.string a3N] w fun x w' =>∃ A c,x = .returned (.tuple #[.agg #[.slice A 3 c],.agg #[.int .i64 0,.int .i64 0]])∧3≤c∧Kd.F k34 w' (fun k =>w.heap.size≤k) A 3 a2C∧Below w.heap.size w w' :=
 (c1P w).mono fun e w' ⟨v,he,hR,hb⟩ =>by
  obtain ⟨A,c,rfl,h1,h2⟩:=hR.tell;exact ⟨A,c,he,h1,h2,hb⟩
theorem c3I:callsF a2C = [[1],[0],[]]:=by
 simp [callsF,callsOf,a2C,flat,applies,coll,calledBy,funIx,firstIx,allIx,srt,Lib.compact,List.range_succ]
 <;> (refine ⟨?_,?_,?_⟩ <;> first | rfl | decide)
def b2K:Nat→List ByteArray
 | 0 =>[(⟨#[112]⟩:ByteArray)]
 | 1 =>[(⟨#[113]⟩:ByteArray)]
 | _ =>[]
theorem a6M (z:Nat) (hz:z < 3) (x:ByteArray):x ∈ ownF (fnAt a2C z) ↔ x ∈ b2K z:=by
 rw [b7Z]
 match z,hz with
 | 0,_ =>simp [b2K,fnAt,a0S,a2C,flat,ownG]
 | 1,_ =>simp [b2K,fnAt,a0S,a2C,flat,ownG]
 | 2,_ =>simp [b2K,fnAt,a0S,a2C,flat,ownG]
theorem adj14:adjF (callsF a2C) 0 = [1]∧adjF (callsF a2C) 1 = [0]∧adjF (callsF a2C) 2 = []:=by
 rw [c3I];exact ⟨rfl,rfl,rfl⟩
theorem rch14 {i z:Nat} (r:Rch (adjF (callsF a2C)) i z) (hi:i < 3):(i = 2→z = 2)∧(i < 2→z < 2):=by
 obtain ⟨a0,a1,a2⟩:=adj14;constructor
 ·rintro rfl;exact r.closed (fun v =>v = 2) (fun v hv y hy =>by rw [hv,a2] at hy;cases hy) rfl
 ·intro h;refine r.closed (fun v =>v < 2) (fun v hv y hy =>?_) h
  match v,hv with
  | 0,_ =>rw [a0] at hy;simp at hy;omega
  | 1,_ =>rw [a1] at hy;simp at hy;omega
def wr14:Nat→List ByteArray
 | 0 =>[(⟨#[112]⟩:ByteArray),(⟨#[113]⟩:ByteArray)]
 | 1 =>[(⟨#[112]⟩:ByteArray),(⟨#[113]⟩:ByteArray)]
 | _ =>[]
theorem wrF14 (i:Nat) (hi:i < 3):wrF a2C (numN (callsF a2C) i) = wr14 i:=by
 obtain ⟨a0,a1,a2⟩:=adj14;have r01:Rch (adjF (callsF a2C)) 0 1:=.one (by rw [a0];simp);have r10:Rch (adjF (callsF a2C)) 1 0:=.one (by rw [a1];simp);refine RisB.ext (b6H _) ?_ (fun x =>?_)
 ·match i,hi with
  | 0,_ =>unfold RisB;decide
  | 1,_ =>unfold RisB;decide
  | 2,_ =>exact RisB.nil
 ·rw [b6I qF0 (show i < a2C.length from hi)];constructor
  ·rintro ⟨z,hz,r,hx⟩;rw [a6M z hz] at hx;have h:=rch14 r hi
   match i,hi,z,hz with
   | 0,_,0,_ =>exact zS0.2 (.inl (by simpa [b2K] using hx))
   | 0,_,1,_ =>exact zV0 _ hx
   | 1,_,0,_ =>exact zS0.2 (.inl (by simpa [b2K] using hx))
   | 1,_,1,_ =>exact zV0 _ hx
   | 0,_,2,_ =>cases hx
   | 1,_,2,_ =>cases hx
   | 2,_,2,_ =>cases hx
   | 2,_,0,_ =>exact absurd (h.1 rfl) qF0
   | 2,_,1,_ =>exact absurd (h.1 rfl) qF0
  ·intro hx
   match i,hi with
   | 0,_ =>
    rcases zS0.1 hx with e | e
    ·exact ⟨0,by decide,.refl _,(a6M 0 qF0 x).2 (by rw [e];exact zU0)⟩
    ·exact ⟨1,by decide,r01,(a6M 1 qF0 x).2 e⟩
   | 1,_ =>
    rcases zS0.1 hx with e | e
    ·exact ⟨0,by decide,r10,(a6M 0 qF0 x).2 (by rw [e];exact zU0)⟩
    ·exact ⟨1,by decide,.refl _,(a6M 1 qF0 x).2 e⟩
   | 2,_ =>cases hx
def a8T:List S42:=[⟨(⟨#[102]⟩:ByteArray),1,[(⟨#[112]⟩:ByteArray),(⟨#[113]⟩:ByteArray)]⟩,⟨(⟨#[103]⟩:ByteArray),0,[(⟨#[112]⟩:ByteArray),(⟨#[113]⟩:ByteArray)]⟩,⟨(⟨#[104]⟩:ByteArray),0,[]⟩]
theorem sig14:sigsF a2C = a8T:=by
 unfold sigsF;rw [show List.range a2C.length = [0,1,2] from rfl];simp only [zH2,zT2];rw [wrF14 0 qF0,wrF14 1 qF0,wrF14 2 qF0]
 rfl
theorem sm14:SmG a2C:=by
 refine ⟨by decide,fun f hf =>?_,?_⟩
 ·simp only [a2C,zS0,List.not_mem_nil,or_false] at hf;rcases hf with rfl | rfl | rfl <;> simp [flat]
 ·simp [allOwn,a2C,flat,ownG]
theorem sigs14 (A:Option Addr) (c:Nat) (w:World) (hc:3≤c) (hC:Kd.C k34 w A 3 a2C):Calls Tryz.prog 9 #[.agg #[.slice A 3 c]] w fun e w' =>∃ A c,e = .returned (.slice A 3 c)∧3≤c∧Kd.C k42 w' A 3 a8T∧Below w.heap.size w w':=by
 refine (b7Q w a2C A c hc hC sm14).mono ?_;rintro e w' ⟨v,rfl,hN,hb⟩;rw [sig14] at hN;obtain ⟨A',c',rfl⟩:=Kd.a3V hN;obtain ⟨_,h1,h2⟩:=Kd.a2G hN;exact ⟨A',c',rfl,h1,h2,hb⟩
theorem b4X {w:World} {A:Option Addr} (h:Kd.C k42 w A 3 a8T):∃ ad V d,A = some ad∧w.cell? ((ad.add 0).add 1) = some (.int .i64 1)∧w.cell? ((ad.add 0).add 2) = some (.slice V 2 d)∧2≤d∧Kd.C Kd.string w V 2 [(⟨#[112]⟩:ByteArray),(⟨#[113]⟩:ByteArray)]:=by
 obtain ⟨ad,V,d,e,y0,y1,y2,m,n⟩:=b1U h 0 qF0 qF0;exact ⟨ad,V,d,e,y1,y2,m,n⟩
theorem c0Q {w:World} {A:Option Addr} (h:Kd.C k42 w A 3 a8T):∃ ad V d,A = some ad∧w.cell? ((ad.add 3).add 1) = some (.int .i64 0)∧w.cell? ((ad.add 3).add 2) = some (.slice V 2 d)∧2≤d∧Kd.C Kd.string w V 2 [(⟨#[112]⟩:ByteArray),(⟨#[113]⟩:ByteArray)]:=by
 obtain ⟨ad,V,d,e,y0,y1,y2,m,n⟩:=b1U h 1 qF0 qF0;exact ⟨ad,V,d,e,y1,y2,m,n⟩
theorem c0P {w:World} {A:Option Addr} (h:Kd.C k42 w A 3 a8T):∃ ad V d,A = some ad∧w.cell? ((ad.add 6).add 1) = some (.int .i64 0)∧w.cell? ((ad.add 6).add 2) = some (.slice V 0 d)∧0≤d∧Kd.C Kd.string w V 0 []:=by
 obtain ⟨ad,V,d,e,y0,y1,y2,m,n⟩:=b1U h 2 qF0 qF0;exact ⟨ad,V,d,e,y1,y2,m,n⟩
theorem own14_is:ownF (a0S a2C 0) = [(⟨#[112]⟩:ByteArray)] :=
 RisB.ext (a9K _) (by unfold RisB;decide) (fun x =>a6M 0 qF0 x)
theorem own14 (A1 A2:Option Addr) (c1 c2:Nat) (w:World) (l2:(a0S a2C 0).f2.length≤c2) (g2:Kd.C k65 w A2 (a0S a2C 0).f2.length (a0S a2C 0).f2) :
  Calls Tryz.prog 11 #[.agg #[.string (a0S a2C 0).f0,.slice A1 (a0S a2C 0).f1.length c1,.slice A2 (a0S a2C 0).f2.length c2]] w fun e w' =>∃ A c,e = .returned (.slice A 1 c)∧1≤c∧Kd.C Kd.string w' A 1 [(⟨#[112]⟩:ByteArray)]∧Below w.heap.size w w':=by
 refine (b6R w (a0S a2C 0) A1 A2 c1 c2 l2 g2 (sm14.b _ zU0)).mono ?_;rintro e w' ⟨v,rfl,ho,hb⟩;rw [own14_is] at ho;obtain ⟨A,c,rfl,h1,h2⟩:=Kd.a4E ho;exact ⟨A,c,rfl,h1,h2,hb⟩
theorem all14 (A:Option Addr) (c:Nat) (w:World) (hC:Kd.C k42 w A 3 a8T):Calls Tryz.prog 17 #[.slice A 3 c] w fun e w' =>∃ A c,e = .returned (.slice A 2 c)∧2≤c∧Kd.C Kd.string w' A 2 [(⟨#[112]⟩:ByteArray),(⟨#[113]⟩:ByteArray)]∧Below w.heap.size w w':=by
 refine (c3O a8T A c w hC qF0 qF0).mono ?_;rintro e w' ⟨v,rfl,ho,hb⟩
 have e1:allF a8T = [(⟨#[112]⟩:ByteArray),(⟨#[113]⟩:ByteArray)]:=RisB.ext (a4U _ _) (by unfold RisB;decide) (fun x =>by
  unfold allF;rw [a6G];simp [a8T]
  try grind)
 rw [e1] at ho;obtain ⟨A,c,rfl,h1,h2⟩:=Kd.a4E ho;exact ⟨A,c,rfl,h1,h2,hb⟩
theorem addr14 (a:Addr):a.add 0 = a:=by
 unfold Addr.add;simp
theorem b6Y {w:World} {g:Nat} {a b:ByteArray} (h:w.heap[g]? = some (.cells #[.string a,.string b] 9 (0,0))):Kd.C Kd.string w (some ⟨g,0,none⟩) 2 [a,b]:=by
 refine Kd.a6R (d:=ByteArray.empty) ⟨rfl,by decide,fun _ =>⟨_,rfl,fun j hj =>?_⟩⟩;rw [a5N,zY1,a0L h j]
 match j,hj with
 | 0,_ =>rfl
 | 1,_ =>rfl
theorem lit14_1 {w:World} {g:Nat} {a:ByteArray} (h:w.heap[g]? = some (.cells #[.string a] 9 (0,0))):Kd.C Kd.string w (some ⟨g,0,none⟩) 1 [a]:=by
 refine Kd.a6R (d:=ByteArray.empty) ⟨rfl,by decide,fun _ =>⟨_,rfl,fun j hj =>?_⟩⟩;rw [a5N,zY1,a0L h j]
 match j,hj with
 | 0,_ =>rfl
theorem c2X (w:World):Calls Tryz.prog 8 #[] w fun e w' =>e = .returned (.bool true)∧Below w.heap.size w w':=by
 have HB:=zA0 (zL0 w.heap.size w);go_enter Tryz.func8,Tryz.ntmps8
 go_wp2_with (first
  | (go_at_call 26;(with_reducible refine (a4I (args':=#[.string a3N]) ?hs (p14_lay _)).mono ?_);(case hs =>rfl);rintro x w1 ⟨AP,cP,rfl,hcc,hF,hb⟩;have HB:=hs_ HB hb;obtain ⟨loP,hlo⟩:∃ lo,lo = w1.heap.size:=⟨_,rfl⟩;have FP:=zA0 (Kd.a2Z (ok':=fun k =>k < loP) (Kd.a5G hF) (fun k hk =>by rw [hlo];exact hk.2));have HLOP:=zA0 (show loP≤w1.heap.size by rw [hlo];exact zM0 _);have HCP:=zA0 hcc;clear hcc hF hlo;clear hb)
  | ((with_reducible refine a0T (N:=1) rfl ?_);refine bx_ 1 #[.slice none 0 0] 24 (h:=?_);intro g1 hg w1 hx hb;have G1:=gz_ hg HB;have UP_1:=zA0 (show loP≤g1 by rw [hg];exact HLOP.out);have FP:=zA0 (Kd.a1Z FP.out hb);have HLOP:=zA0 (zE0 HLOP.out hb.size);have HB:=hs_ HB hb;have B1:=zA0 (One.mk hx);clear hx hb hg;have k1:=B1.out.q)
  | ((with_reducible refine a0T (N:=2) rfl ?_);refine bx_ 2 #[.int .i64 0,.int .i64 0] 52 (h:=?_);intro g2 hg w1 hx hb;clear k1;have aI:=zA0 (a0I B1.out.b hg);have G2:=gz_ hg HB;have UP_2:=zA0 (show loP≤g2 by rw [hg];exact HLOP.out);have FP:=zA0 (Kd.a1Z FP.out hb);have HLOP:=zA0 (zE0 HLOP.out hb.size);have B1:=zA0 (B1.out.below hb);have HB:=hs_ HB hb;have B2:=zA0 (Two.mk hx);clear hx hb hg;have k1:=B1.out.q;have k2:=B2.out.q)
  | ((with_reducible refine a0U (t:=24) (p:=1) rfl ?_);refine sx_ [.slice AP 3 cP] B1.out.b sizePR (h:=?_);intro w1 hx hp;clear k1;clear k2;have B2:=zA0 (B2.out.far' hp (Ne.symm aI.out));have FP:=zA0 (a2U FP.out hp (zH3.2 UP_1.out));have HB:=zA0 (hp.below _ G1.out HB.out);have B1:=zA0 (One.mk hx);clear hx hp;have k1:=B1.out.q;have k2:=B2.out.q)
  | ((with_reducible refine a0U (t:=52) (p:=2) rfl ?_);refine sx_ [.int .i64 0,.int .i64 0] B2.out.b sizeFT (h:=?_);intro w1 hx hp;clear k1;clear k2;have B1:=zA0 (B1.out.far' hp (aI.out));have FP:=zA0 (a2U FP.out hp (zH3.2 UP_2.out));have HB:=zA0 (hp.below _ G2.out HB.out);have B2:=zA0 (Two.mk hx);clear hx hp;have k1:=B1.out.q;have k2:=B2.out.q)
  | (go_at_call 9;with_reducible refine (sigs14 AP cP _ HCP.out (Kd.a5P FP.out)).mono ?_;rintro x w1 ⟨AS,cS,rfl,hcS,hS,hb⟩;clear k1;clear k2;have FP:=zA0 (Kd.a1Z FP.out hb);have B1:=zA0 (B1.out.below hb);have B2:=zA0 (B2.out.below hb);have HB:=hs_ HB hb;have KS:=zA0 hS;have HCS:=zA0 hcS;clear hS hcS;((obtain ⟨ad0,V0,d0,eS0,y10,y20,m0,n0⟩:=b4X KS.out;cases eS0;simp [Addr.add] at y10 y20;have HCL0:=zA0 m0;have KL0:=zA0 n0;clear m0 n0;skip));clear hb;have k1:=B1.out.q;have k2:=B2.out.q)
  | ((with_reducible refine a0T (N:=23) rfl ?_);refine a3D qC3 ?_;refine a4Q rfl (N:=23) rfl (n:=2) (cs:=#[.string (⟨#[112]⟩:ByteArray),.string (⟨#[113]⟩:ByteArray)]) (t:=9) ?hr ?_;(case hr =>first | (go_simp;done) | (go_simp;rfl));intro g23 hg w1 hx hb;clear k1;clear k2;have FP:=zA0 (Kd.a1Z FP.out hb);have B1:=zA0 (B1.out.below hb);have B2:=zA0 (B2.out.below hb);have KS:=zA0 (Kd.a0H KS.out hb);have KL0:=zA0 (Kd.a0H KL0.out hb);have HB:=hs_ HB hb;have B23:=zA0 (RowB.mk hx);clear hx hb hg;have k1:=B1.out.q;have k2:=B2.out.q)
  | (go_at_call 10;((have hL:=b6Y B23.out.b));(refine (a4I ?ha (r14_Texts.calls 40 V0 d0 [(⟨#[112]⟩:ByteArray),(⟨#[113]⟩:ByteArray)] (some ⟨g23,0,none⟩) 2 [(⟨#[112]⟩:ByteArray),(⟨#[113]⟩:ByteArray)] true _ KL0.out HCL0.out hL qF0 qE0)).mono ?_);(case ha =>(simp;done));((rintro x w1 ⟨rfl,hd⟩;have hb:=hd.below;clear hd hL;clear k1;clear k2;have FP:=zA0 (Kd.a1Z FP.out hb);have B1:=zA0 (B1.out.below hb);have B2:=zA0 (B2.out.below hb);have KS:=zA0 (Kd.a0H KS.out hb);have KL0:=zA0 (Kd.a0H KL0.out hb);have B23:=zA0 (B23.out.below hb);have HB:=hs_ HB hb;clear hb;(obtain ⟨ad1,V1,d1,eS1,y11,y21,m1,n1⟩:=c0Q KS.out;cases eS1;simp [Addr.add] at y11 y21;have HCL1:=zA0 m1;have KL1:=zA0 n1;clear m1 n1;skip);have k1:=B1.out.q;have k2:=B2.out.q)))
  | ((with_reducible refine a0T (N:=31) rfl ?_);refine a3D qC3 ?_;refine a4Q rfl (N:=31) rfl (n:=2) (cs:=#[.string (⟨#[112]⟩:ByteArray),.string (⟨#[113]⟩:ByteArray)]) (t:=9) ?hr ?_;(case hr =>first | (go_simp;done) | (go_simp;rfl));intro g31 hg w1 hx hb;clear k1;clear k2;have FP:=zA0 (Kd.a1Z FP.out hb);have B1:=zA0 (B1.out.below hb);have B2:=zA0 (B2.out.below hb);have KS:=zA0 (Kd.a0H KS.out hb);have KL0:=zA0 (Kd.a0H KL0.out hb);have B23:=zA0 (B23.out.below hb);have KL1:=zA0 (Kd.a0H KL1.out hb);have HB:=hs_ HB hb;have B31:=zA0 (RowB.mk hx);clear hx hb hg;have k1:=B1.out.q;have k2:=B2.out.q)
  | (go_at_call 10;((have hL:=b6Y B31.out.b));(refine (a4I ?ha (r14_Texts.calls 40 V1 d1 [(⟨#[112]⟩:ByteArray),(⟨#[113]⟩:ByteArray)] (some ⟨g31,0,none⟩) 2 [(⟨#[112]⟩:ByteArray),(⟨#[113]⟩:ByteArray)] true _ KL1.out HCL1.out hL qF0 qE0)).mono ?_);(case ha =>(simp;done));((rintro x w1 ⟨rfl,hd⟩;have hb:=hd.below;clear hd hL;clear k1;clear k2;have FP:=zA0 (Kd.a1Z FP.out hb);have B1:=zA0 (B1.out.below hb);have B2:=zA0 (B2.out.below hb);have KS:=zA0 (Kd.a0H KS.out hb);have KL0:=zA0 (Kd.a0H KL0.out hb);have B23:=zA0 (B23.out.below hb);have KL1:=zA0 (Kd.a0H KL1.out hb);have B31:=zA0 (B31.out.below hb);have HB:=hs_ HB hb;clear hb;(obtain ⟨ad2,V2,d2,eS2,y12,y22,m2,n2⟩:=c0P KS.out;cases eS2;simp [Addr.add] at y12 y22;have HCL2:=zA0 m2;have KL2:=zA0 n2;clear m2 n2;obtain ⟨ad3,V3,d3,eS3,y13,y23,m3,n3⟩:=b4X KS.out;cases eS3;simp [Addr.add] at y13 y23;have HCL3:=zA0 m3;have KL3:=zA0 n3;clear m3 n3;obtain ⟨adF,A1,c1,A2,c2,eF,x0,x1,x2,l1,g1,l2,g2⟩:=a5F (Kd.a5P FP.out) 0 qF0 qF0;subst eF;simp only [Int.toNat_zero,Nat.zero_mul,addr14] at x0 x1 x2;have L1:=zA0 l1;have K1:=zA0 g1;have L2:=zA0 l2;have K2:=zA0 g2;clear l1 g1 l2 g2;skip);have k1:=B1.out.q;have k2:=B2.out.q)))
  | (go_at_call 11;with_reducible refine (a4I ?ha (own14 A1 A2 c1 c2 _ L2.out K2.out)).mono ?_;(case ha =>(simp;done));rintro x w1 ⟨Av,cv,rfl,hcv,hC,hb⟩;clear k1;clear k2;have FP:=zA0 (Kd.a1Z FP.out hb);have B1:=zA0 (B1.out.below hb);have B2:=zA0 (B2.out.below hb);have KS:=zA0 (Kd.a0H KS.out hb);have KL0:=zA0 (Kd.a0H KL0.out hb);have B23:=zA0 (B23.out.below hb);have KL1:=zA0 (Kd.a0H KL1.out hb);have B31:=zA0 (B31.out.below hb);have HB:=hs_ HB hb;clear x0 x1 x2;have KV:=zA0 hC;have HCV:=zA0 hcv;clear hC hcv;clear hb;have k1:=B1.out.q;have k2:=B2.out.q)
  | ((with_reducible refine a0T (N:=55) rfl ?_);refine a3D qC3 ?_;refine a4Q rfl (N:=55) rfl (n:=1) (cs:=#[.string (⟨#[112]⟩:ByteArray)]) (t:=9) ?hr ?_;(case hr =>first | (go_simp;done) | (go_simp;rfl));intro g55 hg w1 hx hb;clear k1;clear k2;have FP:=zA0 (Kd.a1Z FP.out hb);have B1:=zA0 (B1.out.below hb);have B2:=zA0 (B2.out.below hb);have KS:=zA0 (Kd.a0H KS.out hb);have KL0:=zA0 (Kd.a0H KL0.out hb);have B23:=zA0 (B23.out.below hb);have KL1:=zA0 (Kd.a0H KL1.out hb);have B31:=zA0 (B31.out.below hb);have KV:=zA0 (Kd.a0H KV.out hb);have HB:=hs_ HB hb;have B55:=zA0 (RowB.mk hx);clear hx hb hg;have k1:=B1.out.q;have k2:=B2.out.q)
  | (go_at_call 10;((have hL:=lit14_1 B55.out.b));(refine (a4I ?ha (r14_Texts.calls 40 Av cv [(⟨#[112]⟩:ByteArray)] (some ⟨g55,0,none⟩) 1 [(⟨#[112]⟩:ByteArray)] true _ KV.out HCV.out hL qF0 qE0)).mono ?_);(case ha =>(simp;done));((rintro x w1 ⟨rfl,hd⟩;have hb:=hd.below;clear hd hL;clear k1;clear k2;have FP:=zA0 (Kd.a1Z FP.out hb);have B1:=zA0 (B1.out.below hb);have B2:=zA0 (B2.out.below hb);have KS:=zA0 (Kd.a0H KS.out hb);have KL0:=zA0 (Kd.a0H KL0.out hb);have B23:=zA0 (B23.out.below hb);have KL1:=zA0 (Kd.a0H KL1.out hb);have B31:=zA0 (B31.out.below hb);have KV:=zA0 (Kd.a0H KV.out hb);have B55:=zA0 (B55.out.below hb);have HB:=hs_ HB hb;clear hb;have k1:=B1.out.q;have k2:=B2.out.q)))
  | (go_at_call 17;with_reducible refine (all14 _ cS _ KS.out).mono ?_;rintro x w1 ⟨Aw,cw,rfl,hcw,hC,hb⟩;clear k1;clear k2;have FP:=zA0 (Kd.a1Z FP.out hb);have B1:=zA0 (B1.out.below hb);have B2:=zA0 (B2.out.below hb);have KS:=zA0 (Kd.a0H KS.out hb);have KL0:=zA0 (Kd.a0H KL0.out hb);have B23:=zA0 (B23.out.below hb);have KL1:=zA0 (Kd.a0H KL1.out hb);have B31:=zA0 (B31.out.below hb);have KV:=zA0 (Kd.a0H KV.out hb);have B55:=zA0 (B55.out.below hb);have HB:=hs_ HB hb;have KW:=zA0 hC;have HCW:=zA0 hcw;clear hC hcw;clear hb;have k1:=B1.out.q;have k2:=B2.out.q)
  | ((with_reducible refine a0T (N:=61) rfl ?_);refine a3D qC3 ?_;refine a4Q rfl (N:=61) rfl (n:=2) (cs:=#[.string (⟨#[112]⟩:ByteArray),.string (⟨#[113]⟩:ByteArray)]) (t:=9) ?hr ?_;(case hr =>first | (go_simp;done) | (go_simp;rfl));intro g61 hg w1 hx hb;clear k1;clear k2;have FP:=zA0 (Kd.a1Z FP.out hb);have B1:=zA0 (B1.out.below hb);have B2:=zA0 (B2.out.below hb);have KS:=zA0 (Kd.a0H KS.out hb);have KL0:=zA0 (Kd.a0H KL0.out hb);have B23:=zA0 (B23.out.below hb);have KL1:=zA0 (Kd.a0H KL1.out hb);have B31:=zA0 (B31.out.below hb);have KV:=zA0 (Kd.a0H KV.out hb);have B55:=zA0 (B55.out.below hb);have KW:=zA0 (Kd.a0H KW.out hb);have HB:=hs_ HB hb;have B61:=zA0 (RowB.mk hx);clear hx hb hg;have k1:=B1.out.q;have k2:=B2.out.q)
  | (go_at_call 10;((have hL:=b6Y B61.out.b));(refine (a4I ?ha (r14_Texts.calls 40 Aw cw [(⟨#[112]⟩:ByteArray),(⟨#[113]⟩:ByteArray)] (some ⟨g61,0,none⟩) 2 [(⟨#[112]⟩:ByteArray),(⟨#[113]⟩:ByteArray)] true _ KW.out HCW.out hL qF0 qE0)).mono ?_);(case ha =>(simp;done));((rintro x w1 ⟨rfl,hd⟩;have hb:=hd.below;clear hd hL;clear k1;clear k2;have FP:=zA0 (Kd.a1Z FP.out hb);have B1:=zA0 (B1.out.below hb);have B2:=zA0 (B2.out.below hb);have KS:=zA0 (Kd.a0H KS.out hb);have KL0:=zA0 (Kd.a0H KL0.out hb);have B23:=zA0 (B23.out.below hb);have KL1:=zA0 (Kd.a0H KL1.out hb);have B31:=zA0 (B31.out.below hb);have KV:=zA0 (Kd.a0H KV.out hb);have B55:=zA0 (B55.out.below hb);have KW:=zA0 (Kd.a0H KW.out hb);have B61:=zA0 (B61.out.below hb);have HB:=hs_ HB hb;clear hb;have k1:=B1.out.q;have k2:=B2.out.q))))
 go_ret;exact qQ3
end Go.Proofs.YthhgfncliffggaaGreat.Man
