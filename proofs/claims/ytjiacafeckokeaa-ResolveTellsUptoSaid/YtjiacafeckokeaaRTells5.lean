/- A part of the proof that ResolveTells returns true for every argument. No conditions beyond the given statement's own. -/
import Derived.Test.YtjiacafeckokeaaRTells4
import Derived.Test.YtjiacafeckokeaaRTells3
import Derived.RegionTactic
import Derived.ChangeAlike
set_option linter.unusedVariables false
set_option linter.unusedSimpArgs false
namespace Go.Proofs.Ytjiacafeckokeaa.Man
open Go.RowKit Go.Proofs.Ytjiacafeckokeaa.Pr Go.Proofs.YtjiacafeckokeaaW.PrintWords
attribute [local go_sem] Oper.semAt_some
theorem b0Q {F:Fence} {n:Nat} {P:Program} {ops:Array Oper} {Q:Exit→Act→World→Prop} {i:Nat} {K:Act→World→Prop} {a:Act} {W:World} {o:Oper} (ho:ops[i]? = some o) (hgd:o.guard = none) {t:TypeId} {p:Tmp} {v:Operand} (hop:o.op = .store t (.tmp p) v) (hN:o.dst = none) (hab:o.about P W a.eval = none) {g:Nat} {e:TypeId} {cur:Array Value} (seg:List Value)
  (hh:W.heap[g]? = some (.cells cur e (0,0))) (hp:a.eval (.tmp p) = .pointer (some ⟨g,0,none⟩)) (hv:(a.eval v).cells.toList = seg) (ht:(P.info? t).map (·.size) = some seg.length) (hs:seg.length = cur.size) (h1:∀ q ∈ seg,q.oneCell' = true)
  (hK:∀ w1,w1.heap[g]? = some (.cells seg.toArray e (0,0))→Puts W w1 g→K (a.put o.dst undef) w1):wpOpIn F n P ops Q i K a W:=by
 obtain ⟨q1,q2⟩:=a4H seg hh hs
 have hrun:=a5S (P:=P) (o:=0) t (a.eval v) seg hh hv ht (by omega) h1
 refine b1U (w':=W.setCells g 0 seg) ho hgd (by rw [hop];intro c h;cases h) hab ?_ (hK _ q1 q2)
 unfold execOp
 simp only [hop,hp,Sem.run_bind,Sem.run_pure,Result.andThen_ok,hrun]
theorem C_opd1 {w:World} {g:Nat} {t:TypeId} (o:S56) (h:w.heap[g]? = some (.cells #[.int .i64 o.f0,.int .i64 o.f1,.string o.f2] t (0,0))):Kd.C k56 w (some ⟨g,0,none⟩) 1 [o]:=by
 refine ⟨rfl,by decide,fun _ =>⟨_,rfl,fun j p hj =>?_⟩⟩
 obtain ⟨rfl,rfl⟩:j = 0∧p = o:=by
  cases j with
  | zero =>simp at hj;exact ⟨rfl,hj.symm⟩
  | succ j =>simp at hj
 refine ⟨[.int .i64 p.f0,.int .i64 p.f1,.string p.f2],rfl,k56_mk w p,fun i u hi =>?_⟩
 show w.cell? ((⟨g,0,none⟩:Addr).add (0 * 3 + i)) = _
 rw [Addr.add_mid,Nat.zero_add,Nat.zero_mul,Nat.zero_add,a0G h i]
 simpa using hi
theorem b1W {w W:World} {g:Nat} (o:S56) (hg:w.heap.size≤g) (h:W.heap[g]? = some (.cells #[.int .i64 o.f0,.int .i64 o.f1,.string o.f2] 56 (0,0))):RowOut k56 w W [o] (.slice (some ⟨g,0,none⟩) 1 1) :=
 ⟨_,_,rfl,Nat.le_refl _,fun W' hW =>C_opd1 o ((hW g hg (a2B h)).trans h)⟩
def stv (x p:ByteArray) (v:Value):Array Value:=#[.int .i64 3,.string x,.string ⟨#[]⟩,.string p,v,.slice none 0 0,.slice none 0 0,.slice none 0 0]
def stz:Array Value:=#[.int .i64 0,.string ⟨#[]⟩,.string ⟨#[]⟩,.string ⟨#[]⟩,.slice none 0 0,.slice none 0 0,.slice none 0 0,.slice none 0 0]
structure SetS (w:World) (g4 g5 g21 g22:Nat) (S1 S2:Array Value) (o:S56) (x p:ByteArray) (done:Nat→Bool) (val:Nat→Value) (W:World):Prop where
 be:Below w.heap.size w W
 b21:W.heap[g21]? = some (.cells S1 78 (0,0))
 b22:W.heap[g22]? = some (.cells #[.int .i64 o.f0,.int .i64 o.f1,.string o.f2] 56 (0,0))
 b4:W.heap[g4]? = some (.cells (if done 7 = true then S2 else #[.slice none 0 0,.int .i64 0,.int .i64 0,.int .i64 0,.int .i64 0,.int .i64 0]) 78 (0,0))
 b5:done 8 = false→W.heap[g5]? = some (.cells stz 46 (0,0))
 b5':done 8 = true→W.heap[g5]? = some (.cells (stv x p (val 5)) 46 (0,0))∧done 5 = true
 v0:done 0 = true→val 0 = .agg S1
 v1:done 1 = true→val 1 = .agg S2
 v2:done 2 = true→val 2 = .string x
 v3:done 3 = true→val 3 = .string p
 v4:done 4 = true→val 4 = .agg #[.int .i64 o.f0,.int .i64 o.f1,.string o.f2]
 v5:done 5 = true→∃ g,val 5 = .slice (some ⟨g,0,none⟩) 1 1∧w.heap.size≤g∧W.heap[g]? = some (.cells #[.int .i64 o.f0,.int .i64 o.f1,.string o.f2] 56 (0,0))
 v6:done 6 = true→val 6 = .agg (stv x p (val 5))∧done 5 = true
section
variable {w W W1:World} {g4 g5 g21 g22:Nat} {S1 S2:Array Value} {o:S56} {x p:ByteArray} {done:Nat→Bool} {val:Nat→Value}
theorem SetS.below (h:SetS w g4 g5 g21 g22 S1 S2 o x p done val W) (hb:Below W.heap.size W W1):SetS w g4 g5 g21 g22 S1 S2 o x p done val W1 :=
 { be:=a0H h.be hb,b21:=a0U h.b21 hb,b22:=a0U h.b22 hb,b4:=a0U h.b4 hb,b5:=fun e =>a0U (h.b5 e) hb,b5':=fun e =>⟨a0U (h.b5' e).1 hb,(h.b5' e).2⟩,v0:=h.v0,v1:=h.v1,v2:=h.v2,v3:=h.v3,v4:=h.v4,v5:=fun e =>(by obtain ⟨g,e1,e2,e3⟩:=h.v5 e;exact ⟨g,e1,e2,a0U e3 hb⟩),v6:=h.v6 }
theorem SetS.do0 (h:SetS w g4 g5 g21 g22 S1 S2 o x p done val W) (hd:done 0 = false):SetS w g4 g5 g21 g22 S1 S2 o x p (upd done 0) (setv val 0 (.agg S1)) W:=by
 exact { be:=h.be,b21:=h.b21,b22:=h.b22,b4:=(by simpa [upd] using h.b4),b5:=(by simpa [upd] using h.b5),b5':=(by simpa [upd,setv] using h.b5'),v0:=(fun _ =>by simp [setv]),v1:=(by simpa [upd,setv] using h.v1),v2:=(by simpa [upd,setv] using h.v2),v3:=(by simpa [upd,setv] using h.v3),v4:=(by simpa [upd,setv] using h.v4),v5:=(by simpa [upd,setv] using h.v5),v6:=(by simpa [upd,setv] using h.v6) }
theorem SetS.do1 (h:SetS w g4 g5 g21 g22 S1 S2 o x p done val W) (hd:done 1 = false):SetS w g4 g5 g21 g22 S1 S2 o x p (upd done 1) (setv val 1 (.agg S2)) W:=by
 exact { be:=h.be,b21:=h.b21,b22:=h.b22,b4:=(by simpa [upd] using h.b4),b5:=(by simpa [upd] using h.b5),b5':=(by simpa [upd,setv] using h.b5'),v0:=(by simpa [upd,setv] using h.v0),v1:=(fun _ =>by simp [setv]),v2:=(by simpa [upd,setv] using h.v2),v3:=(by simpa [upd,setv] using h.v3),v4:=(by simpa [upd,setv] using h.v4),v5:=(by simpa [upd,setv] using h.v5),v6:=(by simpa [upd,setv] using h.v6) }
theorem SetS.do2 (h:SetS w g4 g5 g21 g22 S1 S2 o x p done val W) (hd:done 2 = false):SetS w g4 g5 g21 g22 S1 S2 o x p (upd done 2) (setv val 2 (.string x)) W:=by
 exact { be:=h.be,b21:=h.b21,b22:=h.b22,b4:=(by simpa [upd] using h.b4),b5:=(by simpa [upd] using h.b5),b5':=(by simpa [upd,setv] using h.b5'),v0:=(by simpa [upd,setv] using h.v0),v1:=(by simpa [upd,setv] using h.v1),v2:=(fun _ =>by simp [setv]),v3:=(by simpa [upd,setv] using h.v3),v4:=(by simpa [upd,setv] using h.v4),v5:=(by simpa [upd,setv] using h.v5),v6:=(by simpa [upd,setv] using h.v6) }
theorem SetS.do3 (h:SetS w g4 g5 g21 g22 S1 S2 o x p done val W) (hd:done 3 = false):SetS w g4 g5 g21 g22 S1 S2 o x p (upd done 3) (setv val 3 (.string p)) W:=by
 exact { be:=h.be,b21:=h.b21,b22:=h.b22,b4:=(by simpa [upd] using h.b4),b5:=(by simpa [upd] using h.b5),b5':=(by simpa [upd,setv] using h.b5'),v0:=(by simpa [upd,setv] using h.v0),v1:=(by simpa [upd,setv] using h.v1),v2:=(by simpa [upd,setv] using h.v2),v3:=(fun _ =>by simp [setv]),v4:=(by simpa [upd,setv] using h.v4),v5:=(by simpa [upd,setv] using h.v5),v6:=(by simpa [upd,setv] using h.v6) }
theorem SetS.do4 (h:SetS w g4 g5 g21 g22 S1 S2 o x p done val W) (hd:done 4 = false):SetS w g4 g5 g21 g22 S1 S2 o x p (upd done 4) (setv val 4 (.agg #[.int .i64 o.f0,.int .i64 o.f1,.string o.f2])) W:=by
 exact { be:=h.be,b21:=h.b21,b22:=h.b22,b4:=(by simpa [upd] using h.b4),b5:=(by simpa [upd] using h.b5),b5':=(by simpa [upd,setv] using h.b5'),v0:=(by simpa [upd,setv] using h.v0),v1:=(by simpa [upd,setv] using h.v1),v2:=(by simpa [upd,setv] using h.v2),v3:=(by simpa [upd,setv] using h.v3),v4:=(fun _ =>by simp [setv]),v5:=(by simpa [upd,setv] using h.v5),v6:=(by simpa [upd,setv] using h.v6) }
theorem SetS.do5 (h:SetS w g4 g5 g21 g22 S1 S2 o x p done val W) {g:Nat} (hg:w.heap.size≤g) (hx:W.heap[g]? = some (.cells #[.int .i64 o.f0,.int .i64 o.f1,.string o.f2] 56 (0,0))) (hd:done 5 = false):SetS w g4 g5 g21 g22 S1 S2 o x p (upd done 5) (setv val 5 (.slice (some ⟨g,0,none⟩) 1 1)) W:=by
 have n6:done 6 = false:=by
  cases e:done 6 with
  | false =>rfl
  | true =>rw [(h.v6 e).2] at hd;cases hd
 have n8:done 8 = false:=by
  cases e:done 8 with
  | false =>rfl
  | true =>rw [(h.b5' e).2] at hd;cases hd
 exact { be:=h.be,b21:=h.b21,b22:=h.b22,b4:=(by simpa [upd] using h.b4),b5:=(by simpa [upd] using h.b5),b5':=(by intro e;simp [upd,n8] at e),v0:=(by simpa [upd,setv] using h.v0),v1:=(by simpa [upd,setv] using h.v1),v2:=(by simpa [upd,setv] using h.v2),v3:=(by simpa [upd,setv] using h.v3),v4:=(by simpa [upd,setv] using h.v4),v5:=(fun _ =>⟨g,by simp [setv],hg,hx⟩),v6:=(by intro e;simp [upd,n6] at e) }
theorem SetS.do6 (h:SetS w g4 g5 g21 g22 S1 S2 o x p done val W) (h5:done 5 = true) (hd:done 6 = false):SetS w g4 g5 g21 g22 S1 S2 o x p (upd done 6) (setv val 6 (.agg (stv x p (val 5)))) W:=by
 exact { be:=h.be,b21:=h.b21,b22:=h.b22,b4:=(by simpa [upd] using h.b4),b5:=(by simpa [upd] using h.b5),b5':=(by simpa [upd,setv] using h.b5'),v0:=(by simpa [upd,setv] using h.v0),v1:=(by simpa [upd,setv] using h.v1),v2:=(by simpa [upd,setv] using h.v2),v3:=(by simpa [upd,setv] using h.v3),v4:=(by simpa [upd,setv] using h.v4),v5:=(by simpa [upd,setv] using h.v5),v6:=(fun _ =>⟨by simp [setv],by simpa [upd] using h5⟩) }
theorem SetS.do7 (h:SetS w g4 g5 g21 g22 S1 S2 o x p done val W) (hd:done 7 = false) (h4:w.heap.size≤g4) (m1:g21≠g4) (m2:g5≠g4) (hx:W1.heap[g4]? = some (.cells S2 78 (0,0))) (hp:Puts W W1 g4) (r:Value):SetS w g4 g5 g21 g22 S1 S2 o x p (upd done 7) (setv val 7 r) W1:=by
 have hne:∀ (g:Nat) (cs:Array Value),W.heap[g]? = some (.cells cs 56 (0,0))→g≠g4:=fun g cs h1 e =>by
  have h2:=h.b4
  rw [← e,h1] at h2
  have h3:(56:TypeId) = 78:=by injection (Option.some.inj h2)
  exact absurd h3 (by decide)
 exact { be:=hp.below w h4 h.be,b21:=hp.far _ _ m1 h.b21,b22:=hp.far _ _ (hne _ _ h.b22) h.b22,b4:=(by simpa [upd] using hx),b5:=(fun e =>hp.far _ _ m2 (h.b5 (by simpa [upd] using e))),b5':=(fun e =>⟨(by simpa [setv] using hp.far _ _ m2 (h.b5' (by simpa [upd] using e)).1),(by simpa [upd] using (h.b5' (by simpa [upd] using e)).2)⟩),v0:=(by simpa [upd,setv] using h.v0),v1:=(by simpa [upd,setv] using h.v1),v2:=(by simpa [upd,setv] using h.v2),v3:=(by simpa [upd,setv] using h.v3),v4:=(by simpa [upd,setv] using h.v4),v5:=(fun e =>let ⟨g,e1,e2,e3⟩:=h.v5 (by simpa [upd] using e);⟨g,by simpa [setv] using e1,e2,hp.far _ _ (hne _ _ e3) e3⟩),v6:=(by simpa [upd,setv] using h.v6) }
theorem SetS.do8 (h:SetS w g4 g5 g21 g22 S1 S2 o x p done val W) (hd:done 8 = false) (h5d:done 5 = true) (h4:w.heap.size≤g5) (m1:g21≠g5) (m2:g4≠g5) (hx:W1.heap[g5]? = some (.cells (stv x p (val 5)) 46 (0,0))) (hp:Puts W W1 g5) (r:Value):SetS w g4 g5 g21 g22 S1 S2 o x p (upd done 8) (setv val 8 r) W1:=by
 have hne:∀ (g:Nat) (cs:Array Value),W.heap[g]? = some (.cells cs 56 (0,0))→g≠g5:=fun g cs h1 e =>by
  have h2:=h.b5 hd
  rw [← e,h1] at h2
  have h3:(56:TypeId) = 46:=by injection (Option.some.inj h2)
  exact absurd h3 (by decide)
 exact { be:=hp.below w h4 h.be,b21:=hp.far _ _ m1 h.b21,b22:=hp.far _ _ (hne _ _ h.b22) h.b22,b4:=(by simpa [upd] using hp.far _ _ m2 h.b4),b5:=(by simp [upd]),b5':=(fun _ =>⟨by simpa [setv] using hx,by simpa [upd] using h5d⟩),v0:=(by simpa [upd,setv] using h.v0),v1:=(by simpa [upd,setv] using h.v1),v2:=(by simpa [upd,setv] using h.v2),v3:=(by simpa [upd,setv] using h.v3),v4:=(by simpa [upd,setv] using h.v4),v5:=(fun e =>let ⟨g,e1,e2,e3⟩:=h.v5 (by simpa [upd] using e);⟨g,by simpa [setv] using e1,e2,hp.far _ _ (hne _ _ e3) e3⟩),v6:=(by simpa [upd,setv] using h.v6) }
end
def OpdAt (T:List S76) (ad:Addr) (c:Nat) (i j e n o0 o1:Int) (o2:ByteArray):Prop:=∀ w:World,Kd.C k76 w (some ad) T.length T→Calls Try.prog 76 #[.agg #[.slice (some ad) T.length c,.int .i64 i,.int .i64 e,.int .i64 n,.int .i64 0,.int .i64 0]] w fun x w' =>x = .returned (.tuple #[.agg #[.slice (some ad) T.length c,.int .i64 j,.int .i64 e,.int .i64 n,.int .i64 0,.int .i64 0],.agg #[.int .i64 o0,.int .i64 o1,.string o2]])∧Below w.heap.size w w'
theorem OpdAt.go {T:List S76} {ad:Addr} {c:Nat} {i j e n o0 o1:Int} {o2:ByteArray} (h:OpdAt T ad c i j e n o0 o1 o2) (w:World) (hC:Kd.C k76 w (some ad) T.length T):Calls Try.prog 76 #[.agg #[.slice (some ad) T.length c,.int .i64 i,.int .i64 e,.int .i64 n,.int .i64 0,.int .i64 0]] w fun x w' =>x = .returned (.tuple #[.agg #[.slice (some ad) T.length c,.int .i64 j,.int .i64 e,.int .i64 n,.int .i64 0,.int .i64 0],.agg #[.int .i64 o0,.int .i64 o1,.string o2]])∧Below w.heap.size w w':=h w hC
set_option maxRecDepth 100000 in
set_option maxHeartbeats 16000000 in
theorem stmt_set (k:Nat) (T:List S76) (ad:Addr) (c:Nat) (i e n:Int) (w:World) (hc:T.length≤c) (hC:Kd.C k76 w (some ad) T.length T) (hT:T.length≤65536) (hi:0≤i) (hn:i + 1 + 1 + 1 < T.length) (j o0 o1 d:Int) (o2:ByteArray) (h2000:n < 2000) (h00:0≤n) (hj:0≤j) (hjn:j < T.length)
  (h0:r02_isName.f k T i e n 0 0 = some true) (h1:r02_is.f k T i e (n + 1) 0 0 (⟨#[105,102]⟩:ByteArray) = some false) (h2:r02_is.f k T i e (n + 1) 0 0 (⟨#[119,104,105,108,101]⟩:ByteArray) = some false) (h3:r02_is.f k T i e (n + 1) 0 0 (⟨#[111,117,116]⟩:ByteArray) = some false) (h4:r02_is.f k T i e (n + 1) 0 0 (⟨#[114,101,116,117,114,110]⟩:ByteArray) = some false) (h5:r02_isName.f k T i e (n + 1) 0 0 = some true) (h6:r02_is.f k T (i + 1) e (n + 1) 0 0 (⟨#[46]⟩:ByteArray) = some true) (h7:r02_isName.f k T (i + 1 + 1) e (n + 1) 0 0 = some true) (h8:r02_is.f k T (i + 1 + 1 + 1) e (n + 1) 0 0 (⟨#[61]⟩:ByteArray) = some true) (hv:OpdAt T ad c (i + 1 + 1 + 1 + 1) j e (n + 1) o0 o1 o2) (h9:r02_is.f k T j e (n + 1) 0 0 (⟨#[59]⟩:ByteArray) = some true) :
  Calls Try.prog 62 #[.agg #[.slice (some ad) T.length c,.int .i64 i,.int .i64 e,.int .i64 n,.int .i64 0,.int .i64 0],.int .i64 d] w fun x w' =>∃ v,x = .returned (.tuple #[.agg #[.slice (some ad) T.length c,.int .i64 (j + 1),.int .i64 e,.int .i64 (n + 1),.int .i64 0,.int .i64 0],.agg #[.int .i64 3,.string (a1K T i).f1,.string ⟨#[]⟩,.string (a1K T (i + 1 + 1)).f1,v,.slice none 0 0,.slice none 0 0,.slice none 0 0]])∧RowOut k56 w w' [⟨o0,o1,o2⟩] v∧Below w.heap.size w w':=by
 have HB:=Lib.hid (Below.refl w.heap.size w)
 have K0:=Lib.hid hC
 clear hC
 go_enter Try.func62,Try.ntmps62
 go_upto_region 32 with (first
  | ((with_reducible refine a1C (N:=2) rfl ?_);refine a1A ?hg (N:=2) ?hd (cs:=#[.slice (some ad) T.length c,.int .i64 i,.int .i64 e,.int .i64 n,.int .i64 0,.int .i64 0]) (t:=78) ?hr ?_;(case hd =>rfl);(case hg =>rfl);(case hr =>first | (go_simp;done) | (go_simp;rfl));intro g2 hg w1 hx hb;have G2:=Lib.hid (show w.heap.size≤g2 by rw [hg];exact HB.out.size);have HB:=Lib.hid (a0H HB.out hb);have B2:=Lib.hid (Six.mk hx);clear hx hb hg;have k2:=And.intro B2.out.c B2.out.f)
  | ((with_reducible refine a1C (N:=4) rfl ?_);refine a1A ?hg (N:=4) ?hd (cs:=#[.slice none 0 0,.int .i64 0,.int .i64 0,.int .i64 0,.int .i64 0,.int .i64 0]) (t:=78) ?hr ?_;(case hd =>rfl);(case hg =>rfl);(case hr =>first | (go_simp;done) | (go_simp;rfl));intro g4 hg w1 hx hb;clear k2;have bE:=Lib.hid (a0O B2.out.b hg);have G4:=Lib.hid (show w.heap.size≤g4 by rw [hg];exact HB.out.size);have B2:=Lib.hid (B2.out.below hb);have HB:=Lib.hid (a0H HB.out hb);have B4:=Lib.hid (Six.mk hx);clear hx hb hg;have k2:=And.intro B2.out.c B2.out.f;have k4:=And.intro B4.out.c B4.out.f)
  | ((with_reducible refine a1C (N:=5) rfl ?_);refine a1A ?hg (N:=5) ?hd (cs:=#[.int .i64 0,.string ⟨#[]⟩,.string ⟨#[]⟩,.string ⟨#[]⟩,.slice none 0 0,.slice none 0 0,.slice none 0 0,.slice none 0 0]) (t:=46) ?hr ?_;(case hd =>rfl);(case hg =>rfl);(case hr =>first | (go_simp;done) | (go_simp;rfl));intro g5 hg w1 hx hb;clear k2 k4;have bF:=Lib.hid (a0O B2.out.b hg);have bG:=Lib.hid (a0O B4.out.b hg);have G5:=Lib.hid (show w.heap.size≤g5 by rw [hg];exact HB.out.size);have B2:=Lib.hid (B2.out.below hb);have B4:=Lib.hid (B4.out.below hb);have HB:=Lib.hid (a0H HB.out hb);have B5:=Lib.hid (Stm.mk hx);clear hx hb hg;have k2:=And.intro B2.out.c B2.out.f;have k4:=And.intro B4.out.c B4.out.f;have k5:=And.intro B5.out.c B5.out.f)
  | ((with_reducible refine a1C (N:=6) rfl ?_);refine a1A ?hg (N:=6) ?hd (cs:=#[.int .i64 0,.string ⟨#[]⟩,.string ⟨#[]⟩,.string ⟨#[]⟩,.slice none 0 0,.slice none 0 0,.slice none 0 0,.slice none 0 0]) (t:=46) ?hr ?_;(case hd =>rfl);(case hg =>rfl);(case hr =>first | (go_simp;done) | (go_simp;rfl));intro g6 hg w1 hx hb;clear k2 k4 k5;have aK:=Lib.hid (a0O B2.out.b hg);have bH:=Lib.hid (a0O B4.out.b hg);have bI:=Lib.hid (a0O B5.out.b hg);have G6:=Lib.hid (show w.heap.size≤g6 by rw [hg];exact HB.out.size);have B2:=Lib.hid (B2.out.below hb);have B4:=Lib.hid (B4.out.below hb);have B5:=Lib.hid (B5.out.below hb);have HB:=Lib.hid (a0H HB.out hb);have B6:=Lib.hid (Stm.mk hx);clear hx hb hg;have k2:=And.intro B2.out.c B2.out.f;have k4:=And.intro B4.out.c B4.out.f;have k5:=And.intro B5.out.c B5.out.f;have k6:=And.intro B6.out.c B6.out.f)
  | ((with_reducible refine a1D (t:=46) (p:=6) rfl ?_);refine a1L rfl rfl rfl [.int .i64 0,.string ⟨#[]⟩,.string ⟨#[]⟩,.string ⟨#[]⟩,.slice none 0 0,.slice none 0 0,.slice none 0 0,.slice none 0 0] B6.out.b rfl ?hv sizeStm rfl ?h1 ?_;(case hv =>rfl);(case h1 =>(intro q hq;simp only [List.mem_cons,List.not_mem_nil,or_false] at hq;rcases hq with rfl | rfl | rfl | rfl | rfl | rfl | rfl | rfl <;> rfl));intro w1 hx hp;clear k2 k4 k5 k6;have B2:=Lib.hid (B2.out.far' hp (aK.out));have B4:=Lib.hid (B4.out.far' hp (bH.out));have B5:=Lib.hid (B5.out.far' hp (bI.out));have HB:=Lib.hid (hp.below _ G6.out HB.out);have B6:=Lib.hid (Stm.mk hx);clear hx hp;have k2:=And.intro B2.out.c B2.out.f;have k4:=And.intro B4.out.c B4.out.f;have k5:=And.intro B5.out.c B5.out.f;have k6:=And.intro B6.out.c B6.out.f)
  | (go_at_call 59;with_reducible refine (r02_isName.calls k (some ad) c T i e n 0 0 true _ (Kd.a0N K0.out HB.out) hc h0).mono ?_;rintro x w1 ⟨rfl,hb⟩;clear k2 k4 k5 k6;have B2:=Lib.hid (B2.out.below hb);have B4:=Lib.hid (B4.out.below hb);have B5:=Lib.hid (B5.out.below hb);have B6:=Lib.hid (B6.out.below hb);have HB:=Lib.hid (a0H HB.out hb);clear hb;have k2:=And.intro B2.out.c B2.out.f;have k4:=And.intro B4.out.c B4.out.f;have k5:=And.intro B5.out.c B5.out.f;have k6:=And.intro B6.out.c B6.out.f)
  | ((with_reducible refine a1D (t:=3) (p:=61) rfl ?_);refine a6B rfl rfl rfl (.int .i64 (n + 1)) B2.out.b rfl ?hv rfl b4U (Nat.le_of_ble_eq_true rfl) rfl ?_;(case hv =>first | rfl | (go_simp;done) | (go_simp;rfl));intro w1 hx hp;clear k2 k4 k5 k6;have B4:=Lib.hid (B4.out.far' hp (Ne.symm bE.out));have B5:=Lib.hid (B5.out.far' hp (Ne.symm bF.out));have B6:=Lib.hid (B6.out.far' hp (Ne.symm aK.out));have HB:=Lib.hid (hp.below _ G2.out HB.out);have B2:=Lib.hid (Six.mk hx);clear hx hp;have k2:=And.intro B2.out.c B2.out.f;have k4:=And.intro B4.out.c B4.out.f;have k5:=And.intro B5.out.c B5.out.f;have k6:=And.intro B6.out.c B6.out.f)
  | (go_at_call 61;with_reducible refine (r02_is.calls k (some ad) c T i e (n + 1) 0 0 (⟨#[105,102]⟩:ByteArray) false _ (Kd.a0N K0.out HB.out) hc h1).mono ?_;rintro x w1 ⟨rfl,hb⟩;clear k2 k4 k5 k6;have B2:=Lib.hid (B2.out.below hb);have B4:=Lib.hid (B4.out.below hb);have B5:=Lib.hid (B5.out.below hb);have B6:=Lib.hid (B6.out.below hb);have HB:=Lib.hid (a0H HB.out hb);clear hb;have k2:=And.intro B2.out.c B2.out.f;have k4:=And.intro B4.out.c B4.out.f;have k5:=And.intro B5.out.c B5.out.f;have k6:=And.intro B6.out.c B6.out.f)
  | (go_at_call 61;with_reducible refine (r02_is.calls k (some ad) c T i e (n + 1) 0 0 (⟨#[119,104,105,108,101]⟩:ByteArray) false _ (Kd.a0N K0.out HB.out) hc h2).mono ?_;rintro x w1 ⟨rfl,hb⟩;clear k2 k4 k5 k6;have B2:=Lib.hid (B2.out.below hb);have B4:=Lib.hid (B4.out.below hb);have B5:=Lib.hid (B5.out.below hb);have B6:=Lib.hid (B6.out.below hb);have HB:=Lib.hid (a0H HB.out hb);clear hb;have k2:=And.intro B2.out.c B2.out.f;have k4:=And.intro B4.out.c B4.out.f;have k5:=And.intro B5.out.c B5.out.f;have k6:=And.intro B6.out.c B6.out.f)
  | (go_at_call 61;with_reducible refine (r02_is.calls k (some ad) c T i e (n + 1) 0 0 (⟨#[111,117,116]⟩:ByteArray) false _ (Kd.a0N K0.out HB.out) hc h3).mono ?_;rintro x w1 ⟨rfl,hb⟩;clear k2 k4 k5 k6;have B2:=Lib.hid (B2.out.below hb);have B4:=Lib.hid (B4.out.below hb);have B5:=Lib.hid (B5.out.below hb);have B6:=Lib.hid (B6.out.below hb);have HB:=Lib.hid (a0H HB.out hb);clear hb;have k2:=And.intro B2.out.c B2.out.f;have k4:=And.intro B4.out.c B4.out.f;have k5:=And.intro B5.out.c B5.out.f;have k6:=And.intro B6.out.c B6.out.f)
  | (go_at_call 61;with_reducible refine (r02_is.calls k (some ad) c T i e (n + 1) 0 0 (⟨#[114,101,116,117,114,110]⟩:ByteArray) false _ (Kd.a0N K0.out HB.out) hc h4).mono ?_;rintro x w1 ⟨rfl,hb⟩;clear k2 k4 k5 k6;have B2:=Lib.hid (B2.out.below hb);have B4:=Lib.hid (B4.out.below hb);have B5:=Lib.hid (B5.out.below hb);have B6:=Lib.hid (B6.out.below hb);have HB:=Lib.hid (a0H HB.out hb);clear hb;have k2:=And.intro B2.out.c B2.out.f;have k4:=And.intro B4.out.c B4.out.f;have k5:=And.intro B5.out.c B5.out.f;have k6:=And.intro B6.out.c B6.out.f)
  | (go_at_call 51;with_reducible refine (a5V k T (some ad) c i e (n + 1) _ hc (Kd.a0N K0.out HB.out) hT hi (by omega) h5).mono ?_;rintro x w1 ⟨rfl,hb⟩;clear k2 k4 k5 k6;have B2:=Lib.hid (B2.out.below hb);have B4:=Lib.hid (B4.out.below hb);have B5:=Lib.hid (B5.out.below hb);have B6:=Lib.hid (B6.out.below hb);have HB:=Lib.hid (a0H HB.out hb);clear hb;have k2:=And.intro B2.out.c B2.out.f;have k4:=And.intro B4.out.c B4.out.f;have k5:=And.intro B5.out.c B5.out.f;have k6:=And.intro B6.out.c B6.out.f)
  | ((with_reducible refine a1C (N:=17) rfl ?_);refine a1A ?hg (N:=17) ?hd (cs:=#[.slice none 0 0,.int .i64 0,.int .i64 0,.int .i64 0,.int .i64 0,.int .i64 0]) (t:=78) ?hr ?_;(case hd =>rfl);(case hg =>rfl);(case hr =>first | (go_simp;done) | (go_simp;rfl));intro g17 hg w1 hx hb;clear k2 k4 k5 k6;have aM:=Lib.hid (a0O B2.out.b hg);have aN:=Lib.hid (a0O B4.out.b hg);have aQ:=Lib.hid (a0O B5.out.b hg);have aT:=Lib.hid (a0O B6.out.b hg);have G17:=Lib.hid (show w.heap.size≤g17 by rw [hg];exact HB.out.size);have B2:=Lib.hid (B2.out.below hb);have B4:=Lib.hid (B4.out.below hb);have B5:=Lib.hid (B5.out.below hb);have B6:=Lib.hid (B6.out.below hb);have HB:=Lib.hid (a0H HB.out hb);have B17:=Lib.hid (Six.mk hx);clear hx hb hg;have k2:=And.intro B2.out.c B2.out.f;have k4:=And.intro B4.out.c B4.out.f;have k5:=And.intro B5.out.c B5.out.f;have k6:=And.intro B6.out.c B6.out.f;have k17:=And.intro B17.out.c B17.out.f)
  | ((with_reducible refine a1D (t:=78) (p:=17) rfl ?_);refine a1L rfl rfl rfl [.slice (some ad) T.length c,.int .i64 (i + 1),.int .i64 e,.int .i64 (n + 1),.int .i64 0,.int .i64 0] B17.out.b rfl ?hv sizeSix rfl ?h1 ?_;(case hv =>rfl);(case h1 =>(intro q hq;simp only [List.mem_cons,List.not_mem_nil,or_false] at hq;rcases hq with rfl | rfl | rfl | rfl | rfl | rfl <;> rfl));intro w1 hx hp;clear k2 k4 k5 k6 k17;have B2:=Lib.hid (B2.out.far' hp (aM.out));have B4:=Lib.hid (B4.out.far' hp (aN.out));have B5:=Lib.hid (B5.out.far' hp (aQ.out));have B6:=Lib.hid (B6.out.far' hp (aT.out));have HB:=Lib.hid (hp.below _ G17.out HB.out);have B17:=Lib.hid (Six.mk hx);clear hx hp;have k2:=And.intro B2.out.c B2.out.f;have k4:=And.intro B4.out.c B4.out.f;have k5:=And.intro B5.out.c B5.out.f;have k6:=And.intro B6.out.c B6.out.f;have k17:=And.intro B17.out.c B17.out.f)
  | (go_at_call 61;with_reducible refine (r02_is.calls k (some ad) c T (i + 1) e (n + 1) 0 0 (⟨#[46]⟩:ByteArray) true _ (Kd.a0N K0.out HB.out) hc h6).mono ?_;rintro x w1 ⟨rfl,hb⟩;clear k2 k4 k5 k6 k17;have B2:=Lib.hid (B2.out.below hb);have B4:=Lib.hid (B4.out.below hb);have B5:=Lib.hid (B5.out.below hb);have B6:=Lib.hid (B6.out.below hb);have B17:=Lib.hid (B17.out.below hb);have HB:=Lib.hid (a0H HB.out hb);clear hb;have k2:=And.intro B2.out.c B2.out.f;have k4:=And.intro B4.out.c B4.out.f;have k5:=And.intro B5.out.c B5.out.f;have k6:=And.intro B6.out.c B6.out.f;have k17:=And.intro B17.out.c B17.out.f)
  | (go_at_call 52;with_reducible refine (a3A k T (some ad) c (i + 1) e (n + 1) (⟨#[46]⟩:ByteArray) _ hc (Kd.a0N K0.out HB.out) hT (by omega) (by omega) h6).mono ?_;rintro x w1 ⟨rfl,hb⟩;clear k2 k4 k5 k6 k17;have B2:=Lib.hid (B2.out.below hb);have B4:=Lib.hid (B4.out.below hb);have B5:=Lib.hid (B5.out.below hb);have B6:=Lib.hid (B6.out.below hb);have B17:=Lib.hid (B17.out.below hb);have HB:=Lib.hid (a0H HB.out hb);clear hb;have k2:=And.intro B2.out.c B2.out.f;have k4:=And.intro B4.out.c B4.out.f;have k5:=And.intro B5.out.c B5.out.f;have k6:=And.intro B6.out.c B6.out.f;have k17:=And.intro B17.out.c B17.out.f)
  | (go_at_call 51;with_reducible refine (a5V k T (some ad) c (i + 1 + 1) e (n + 1) _ hc (Kd.a0N K0.out HB.out) hT (by omega) (by omega) h7).mono ?_;rintro x w1 ⟨rfl,hb⟩;clear k2 k4 k5 k6 k17;have B2:=Lib.hid (B2.out.below hb);have B4:=Lib.hid (B4.out.below hb);have B5:=Lib.hid (B5.out.below hb);have B6:=Lib.hid (B6.out.below hb);have B17:=Lib.hid (B17.out.below hb);have HB:=Lib.hid (a0H HB.out hb);clear hb;have k2:=And.intro B2.out.c B2.out.f;have k4:=And.intro B4.out.c B4.out.f;have k5:=And.intro B5.out.c B5.out.f;have k6:=And.intro B6.out.c B6.out.f;have k17:=And.intro B17.out.c B17.out.f)
  | ((with_reducible refine a1C (N:=19) rfl ?_);refine a1A ?hg (N:=19) ?hd (cs:=#[.slice none 0 0,.int .i64 0,.int .i64 0,.int .i64 0,.int .i64 0,.int .i64 0]) (t:=78) ?hr ?_;(case hd =>rfl);(case hg =>rfl);(case hr =>first | (go_simp;done) | (go_simp;rfl));intro g19 hg w1 hx hb;clear k2 k4 k5 k6 k17;have aU:=Lib.hid (a0O B2.out.b hg);have aV:=Lib.hid (a0O B4.out.b hg);have aW:=Lib.hid (a0O B5.out.b hg);have aX:=Lib.hid (a0O B6.out.b hg);have aE:=Lib.hid (a0O B17.out.b hg);have G19:=Lib.hid (show w.heap.size≤g19 by rw [hg];exact HB.out.size);have B2:=Lib.hid (B2.out.below hb);have B4:=Lib.hid (B4.out.below hb);have B5:=Lib.hid (B5.out.below hb);have B6:=Lib.hid (B6.out.below hb);have B17:=Lib.hid (B17.out.below hb);have HB:=Lib.hid (a0H HB.out hb);have B19:=Lib.hid (Six.mk hx);clear hx hb hg;have k2:=And.intro B2.out.c B2.out.f;have k4:=And.intro B4.out.c B4.out.f;have k5:=And.intro B5.out.c B5.out.f;have k6:=And.intro B6.out.c B6.out.f;have k17:=And.intro B17.out.c B17.out.f;have k19:=And.intro B19.out.c B19.out.f)
  | ((with_reducible refine a1D (t:=78) (p:=19) rfl ?_);refine a1L rfl rfl rfl [.slice (some ad) T.length c,.int .i64 (i + 1 + 1 + 1),.int .i64 e,.int .i64 (n + 1),.int .i64 0,.int .i64 0] B19.out.b rfl ?hv sizeSix rfl ?h1 ?_;(case hv =>rfl);(case h1 =>(intro q hq;simp only [List.mem_cons,List.not_mem_nil,or_false] at hq;rcases hq with rfl | rfl | rfl | rfl | rfl | rfl <;> rfl));intro w1 hx hp;clear k2 k4 k5 k6 k17 k19;have B2:=Lib.hid (B2.out.far' hp (aU.out));have B4:=Lib.hid (B4.out.far' hp (aV.out));have B5:=Lib.hid (B5.out.far' hp (aW.out));have B6:=Lib.hid (B6.out.far' hp (aX.out));have B17:=Lib.hid (B17.out.far' hp (aE.out));have HB:=Lib.hid (hp.below _ G19.out HB.out);have B19:=Lib.hid (Six.mk hx);clear hx hp;have k2:=And.intro B2.out.c B2.out.f;have k4:=And.intro B4.out.c B4.out.f;have k5:=And.intro B5.out.c B5.out.f;have k6:=And.intro B6.out.c B6.out.f;have k17:=And.intro B17.out.c B17.out.f;have k19:=And.intro B19.out.c B19.out.f)
  | (go_at_call 52;with_reducible refine (a3A k T (some ad) c (i + 1 + 1 + 1) e (n + 1) (⟨#[61]⟩:ByteArray) _ hc (Kd.a0N K0.out HB.out) hT (by omega) hn h8).mono ?_;rintro x w1 ⟨rfl,hb⟩;clear k2 k4 k5 k6 k17 k19;have B2:=Lib.hid (B2.out.below hb);have B4:=Lib.hid (B4.out.below hb);have B5:=Lib.hid (B5.out.below hb);have B6:=Lib.hid (B6.out.below hb);have B17:=Lib.hid (B17.out.below hb);have B19:=Lib.hid (B19.out.below hb);have HB:=Lib.hid (a0H HB.out hb);clear hb;have k2:=And.intro B2.out.c B2.out.f;have k4:=And.intro B4.out.c B4.out.f;have k5:=And.intro B5.out.c B5.out.f;have k6:=And.intro B6.out.c B6.out.f;have k17:=And.intro B17.out.c B17.out.f;have k19:=And.intro B19.out.c B19.out.f)
  | (go_at_call 76;with_reducible refine (hv.go _ (Kd.a0N K0.out HB.out)).mono ?_;rintro x w1 ⟨rfl,hb⟩;clear k2 k4 k5 k6 k17 k19;have B2:=Lib.hid (B2.out.below hb);have B4:=Lib.hid (B4.out.below hb);have B5:=Lib.hid (B5.out.below hb);have B6:=Lib.hid (B6.out.below hb);have B17:=Lib.hid (B17.out.below hb);have B19:=Lib.hid (B19.out.below hb);have HB:=Lib.hid (a0H HB.out hb);clear hb;have k2:=And.intro B2.out.c B2.out.f;have k4:=And.intro B4.out.c B4.out.f;have k5:=And.intro B5.out.c B5.out.f;have k6:=And.intro B6.out.c B6.out.f;have k17:=And.intro B17.out.c B17.out.f;have k19:=And.intro B19.out.c B19.out.f)
  | ((with_reducible refine a1C (N:=21) rfl ?_);refine a1A ?hg (N:=21) ?hd (cs:=#[.slice none 0 0,.int .i64 0,.int .i64 0,.int .i64 0,.int .i64 0,.int .i64 0]) (t:=78) ?hr ?_;(case hd =>rfl);(case hg =>rfl);(case hr =>first | (go_simp;done) | (go_simp;rfl));intro g21 hg w1 hx hb;clear k2 k4 k5 k6 k17 k19;have aY:=Lib.hid (a0O B2.out.b hg);have aC:=Lib.hid (a0O B4.out.b hg);have aD:=Lib.hid (a0O B5.out.b hg);have aZ:=Lib.hid (a0O B6.out.b hg);have aG:=Lib.hid (a0O B17.out.b hg);have aH:=Lib.hid (a0O B19.out.b hg);have G21:=Lib.hid (show w.heap.size≤g21 by rw [hg];exact HB.out.size);have B2:=Lib.hid (B2.out.below hb);have B4:=Lib.hid (B4.out.below hb);have B5:=Lib.hid (B5.out.below hb);have B6:=Lib.hid (B6.out.below hb);have B17:=Lib.hid (B17.out.below hb);have B19:=Lib.hid (B19.out.below hb);have HB:=Lib.hid (a0H HB.out hb);have B21:=Lib.hid (Six.mk hx);clear hx hb hg;have k2:=And.intro B2.out.c B2.out.f;have k4:=And.intro B4.out.c B4.out.f;have k5:=And.intro B5.out.c B5.out.f;have k6:=And.intro B6.out.c B6.out.f;have k17:=And.intro B17.out.c B17.out.f;have k19:=And.intro B19.out.c B19.out.f;have k21:=And.intro B21.out.c B21.out.f)
  | ((with_reducible refine a1C (N:=22) rfl ?_);refine a1A ?hg (N:=22) ?hd (cs:=#[.int .i64 0,.int .i64 0,.string ⟨#[]⟩]) (t:=56) ?hr ?_;(case hd =>rfl);(case hg =>rfl);(case hr =>first | (go_simp;done) | (go_simp;rfl));intro g22 hg w1 hx hb;clear k2 k4 k5 k6 k17 k19 k21;have bA:=Lib.hid (a0O B2.out.b hg);have bB:=Lib.hid (a0O B4.out.b hg);have bC:=Lib.hid (a0O B5.out.b hg);have bD:=Lib.hid (a0O B6.out.b hg);have aI:=Lib.hid (a0O B17.out.b hg);have aJ:=Lib.hid (a0O B19.out.b hg);have aA:=Lib.hid (a0O B21.out.b hg);have G22:=Lib.hid (show w.heap.size≤g22 by rw [hg];exact HB.out.size);have B2:=Lib.hid (B2.out.below hb);have B4:=Lib.hid (B4.out.below hb);have B5:=Lib.hid (B5.out.below hb);have B6:=Lib.hid (B6.out.below hb);have B17:=Lib.hid (B17.out.below hb);have B19:=Lib.hid (B19.out.below hb);have B21:=Lib.hid (B21.out.below hb);have HB:=Lib.hid (a0H HB.out hb);have B22:=Lib.hid (Tri.mk hx);clear hx hb hg;have k2:=And.intro B2.out.c B2.out.f;have k4:=And.intro B4.out.c B4.out.f;have k5:=And.intro B5.out.c B5.out.f;have k6:=And.intro B6.out.c B6.out.f;have k17:=And.intro B17.out.c B17.out.f;have k19:=And.intro B19.out.c B19.out.f;have k21:=And.intro B21.out.c B21.out.f;have k22:=And.intro B22.out.c B22.out.f)
  | ((with_reducible refine a1D (t:=78) (p:=21) rfl ?_);refine a1L rfl rfl rfl [.slice (some ad) T.length c,.int .i64 j,.int .i64 e,.int .i64 (n + 1),.int .i64 0,.int .i64 0] B21.out.b rfl ?hv sizeSix rfl ?h1 ?_;(case hv =>rfl);(case h1 =>(intro q hq;simp only [List.mem_cons,List.not_mem_nil,or_false] at hq;rcases hq with rfl | rfl | rfl | rfl | rfl | rfl <;> rfl));intro w1 hx hp;clear k2 k4 k5 k6 k17 k19 k21 k22;have B2:=Lib.hid (B2.out.far' hp (aY.out));have B4:=Lib.hid (B4.out.far' hp (aC.out));have B5:=Lib.hid (B5.out.far' hp (aD.out));have B6:=Lib.hid (B6.out.far' hp (aZ.out));have B17:=Lib.hid (B17.out.far' hp (aG.out));have B19:=Lib.hid (B19.out.far' hp (aH.out));have B22:=Lib.hid (B22.out.far' hp (Ne.symm aA.out));have HB:=Lib.hid (hp.below _ G21.out HB.out);have B21:=Lib.hid (Six.mk hx);clear hx hp;have k2:=And.intro B2.out.c B2.out.f;have k4:=And.intro B4.out.c B4.out.f;have k5:=And.intro B5.out.c B5.out.f;have k6:=And.intro B6.out.c B6.out.f;have k17:=And.intro B17.out.c B17.out.f;have k19:=And.intro B19.out.c B19.out.f;have k21:=And.intro B21.out.c B21.out.f;have k22:=And.intro B22.out.c B22.out.f)
  | ((with_reducible refine a1D (t:=56) (p:=22) rfl ?_);refine a1L rfl rfl rfl [.int .i64 o0,.int .i64 o1,.string o2] B22.out.b rfl ?hv sizeTri rfl ?h1 ?_;(case hv =>rfl);(case h1 =>(intro q hq;simp only [List.mem_cons,List.not_mem_nil,or_false] at hq;rcases hq with rfl | rfl | rfl <;> rfl));intro w1 hx hp;clear k2 k4 k5 k6 k17 k19 k21 k22;have B2:=Lib.hid (B2.out.far' hp (bA.out));have B4:=Lib.hid (B4.out.far' hp (bB.out));have B5:=Lib.hid (B5.out.far' hp (bC.out));have B6:=Lib.hid (B6.out.far' hp (bD.out));have B17:=Lib.hid (B17.out.far' hp (aI.out));have B19:=Lib.hid (B19.out.far' hp (aJ.out));have B21:=Lib.hid (B21.out.far' hp (aA.out));have HB:=Lib.hid (hp.below _ G22.out HB.out);have B22:=Lib.hid (Tri.mk hx);clear hx hp;have k2:=And.intro B2.out.c B2.out.f;have k4:=And.intro B4.out.c B4.out.f;have k5:=And.intro B5.out.c B5.out.f;have k6:=And.intro B6.out.c B6.out.f;have k17:=And.intro B17.out.c B17.out.f;have k19:=And.intro B19.out.c B19.out.f;have k21:=And.intro B21.out.c B21.out.f;have k22:=And.intro B22.out.c B22.out.f))
 clear k2 k4 k5 k6 k17 k19 k21 k22
 have n1:=bG.out
 have n2:=aC.out
 have n3:=aD.out
 refine (wpIn_wide (n:=5)).1 ?_
 refine wpIn_region_any mixedO ?_
 refine a9Q _ (fun _ =>undef) (SetS w g4 g5 g21 g22 #[.slice (some ad) T.length c,.int .i64 j,.int .i64 e,.int .i64 (n + 1),.int .i64 0,.int .i64 0] #[.slice (some ad) T.length c,.int .i64 (j + 1),.int .i64 e,.int .i64 (n + 1),.int .i64 0,.int .i64 0] (⟨o0,o1,o2⟩:S56) (a1K T i).f1 (a1K T (i + 1 + 1)).f1) rfl (by kernel_rfl) _ ?hz ?hst ?hen
 case hz =>
  have hb:=a5N (Below.refl w1.heap.size w1)
  exact { be:=a0H HB.out hb,b21:=a0U B21.out.b hb,b22:=a0U B22.out.b hb,b4:=a0U B4.out.b hb,b5:=fun _ =>a0U B5.out.b hb,b5':=fun e =>(by cases e),v0:=fun e =>(by cases e),v1:=fun e =>(by cases e),v2:=fun e =>(by cases e),v3:=fun e =>(by cases e),v4:=fun e =>(by cases e),v5:=fun e =>(by cases e),v6:=fun e =>(by cases e) }
 case hst =>
  intro m op done val a Z ho hdn hdep hag hS K hK
  have hm:m < 9:=by
   by_cases h:m < 9
   ·exact h
   ·rw [Array.getElem?_eq_none (by simp;omega)] at ho;cases ho
  obtain ⟨c0,c1,c2,c3,c4,c5⟩:=(Six.mk hS.b21).c
  obtain ⟨d0,d1,d2⟩:=(Tri.mk hS.b22).c
  obtain rfl | rfl | rfl | rfl | rfl | rfl | rfl | rfl | rfl:m = 0∨m = 1∨m = 2∨m = 3∨m = 4∨m = 5∨m = 6∨m = 7∨m = 8:=by omega
  ·cases ho
   have e1:a.eval (.tmp 21) = .pointer (some ⟨g21,0,none⟩):=hag.keep 21 rfl
   refine a1U (i:=0) rfl rfl (fun c h =>by cases h) rfl ?_ (hK _ _ (hS.do0 hdn))
   generalize a.eval = ev at e1
   simp [execOp,e1,go_sem,c0,c1,c2,c3,c4,c5]
  ·cases ho
   have e1:=(hag.val_ (j:=0) (t:=153) rfl (hdep ⟨0,.data⟩ (by simp) rfl)).trans (hS.v0 (hdep ⟨0,.data⟩ (by simp) rfl))
   refine b3V (f:=52) (R:=fun x w' =>x = .returned (.agg #[.slice (some ad) T.length c,.int .i64 (j + 1),.int .i64 e,.int .i64 (n + 1),.int .i64 0,.int .i64 0])∧Below Z.heap.size Z w') rfl rfl rfl (fun _ _ =>rfl) ?_ ?_
   ·simp only [List.map_toArray,List.map_cons,List.map_nil,e1]
    exact a3A k T (some ad) c j e (n + 1) (⟨#[59]⟩:ByteArray) Z hc (Kd.a0N K0.out hS.be) hT hj hjn h9
   ·rintro e' w' ⟨rfl,hb⟩
    exact ⟨_,rfl,hK _ _ ((hS.below hb).do1 hdn)⟩
  ·cases ho
   have e1:a.eval (.tmp 18) = .string (a1K T i).f1:=hag.keep 18 rfl
   refine a1U (i:=2) rfl rfl (fun c h =>by cases h) rfl ?_ (hK _ _ (hS.do2 hdn))
   generalize a.eval = ev at e1
   simp [execOp,e1,go_sem]
  ·cases ho
   have e1:a.eval (.tmp 20) = .string (a1K T (i + 1 + 1)).f1:=hag.keep 20 rfl
   refine a1U (i:=3) rfl rfl (fun c h =>by cases h) rfl ?_ (hK _ _ (hS.do3 hdn))
   generalize a.eval = ev at e1
   simp [execOp,e1,go_sem]
  ·cases ho
   have e1:a.eval (.tmp 22) = .pointer (some ⟨g22,0,none⟩):=hag.keep 22 rfl
   refine a1U (i:=4) rfl rfl (fun c h =>by cases h) rfl ?_ (hK _ _ (hS.do4 hdn))
   generalize a.eval = ev at e1
   simp [execOp,e1,go_sem,d0,d1,d2]
  ·cases ho
   have e1:=(hag.val_ (j:=4) (t:=157) rfl (hdep ⟨4,.data⟩ (by simp) rfl)).trans (hS.v4 (hdep ⟨4,.data⟩ (by simp) rfl))
   refine a1U (i:=5) (r:=.slice (some ⟨Z.heap.size,0,none⟩) 1 1) (w':=Z.alloc (.cells #[.int .i64 o0,.int .i64 o1,.string o2] 56 (0,0))) rfl rfl (fun c h =>by cases h) rfl ?_ (hK _ _ ((hS.below (a0D (Below.refl _ _) _)).do5 hS.be.size (World.alloc_heap_new _ _) hdn))
   generalize a.eval = ev at e1
   simp [execOp,e1,go_sem]
  ·cases ho
   have e2:=(hag.val_ (j:=2) (t:=155) rfl (hdep ⟨2,.data⟩ (by simp) rfl)).trans (hS.v2 (hdep ⟨2,.data⟩ (by simp) rfl))
   have e3:=(hag.val_ (j:=3) (t:=156) rfl (hdep ⟨3,.data⟩ (by simp) rfl)).trans (hS.v3 (hdep ⟨3,.data⟩ (by simp) rfl))
   obtain ⟨g,e5,hg,hx⟩:=hS.v5 (hdep ⟨5,.data⟩ (by simp) rfl)
   have e4:=(hag.val_ (j:=5) (t:=158) rfl (hdep ⟨5,.data⟩ (by simp) rfl)).trans e5
   have hs6:=hS.do6 (hdep ⟨5,.data⟩ (by simp) rfl) hdn
   rw [e5] at hs6
   refine a1U (i:=6) rfl rfl (fun c h =>by cases h) rfl ?_ (hK _ _ hs6)
   have ec:∀ v,a.eval (.const v) = v:=fun _ =>rfl
   generalize a.eval = ev at e2 e3 e4 ec
   simp [execOp,e2,e3,e4,ec,go_sem,stv]
  ·cases ho
   have e1:a.eval (.tmp 4) = .pointer (some ⟨g4,0,none⟩):=hag.keep 4 rfl
   have e2:=(hag.val_ (j:=1) (t:=154) rfl (hdep ⟨1,.data⟩ (by simp) rfl)).trans (hS.v1 (hdep ⟨1,.data⟩ (by simp) rfl))
   have h4:=hS.b4
   rw [hdn,if_neg (by decide)] at h4
   refine b0Q rfl rfl (t:=78) (p:=4) (v:=.tmp 154) rfl rfl rfl [.slice (some ad) T.length c,.int .i64 (j + 1),.int .i64 e,.int .i64 (n + 1),.int .i64 0,.int .i64 0] h4 e1 (by rw [e2];rfl) sizeSix rfl ?_ fun w2 hx hp =>hK _ _ (hS.do7 hdn G4.out (Ne.symm n2) (Ne.symm n1) hx hp _)
   intro q hq
   simp only [List.mem_cons,List.not_mem_nil,or_false] at hq
   rcases hq with rfl | rfl | rfl | rfl | rfl | rfl <;> rfl
  ·cases ho
   have e1:a.eval (.tmp 5) = .pointer (some ⟨g5,0,none⟩):=hag.keep 5 rfl
   have h6:=(hdep ⟨6,.data⟩ (by simp) rfl)
   obtain ⟨e2,h5⟩:=hS.v6 h6
   have e3:=(hag.val_ (j:=6) (t:=159) rfl h6).trans e2
   obtain ⟨g,e5,hg,hx⟩:=hS.v5 h5
   refine b0Q rfl rfl (t:=46) (p:=5) (v:=.tmp 159) rfl rfl rfl [.int .i64 3,.string (a1K T i).f1,.string ⟨#[]⟩,.string (a1K T (i + 1 + 1)).f1,val 5,.slice none 0 0,.slice none 0 0,.slice none 0 0] (hS.b5 hdn) e1 (by rw [e3];rfl) sizeStm rfl ?_ fun w2 hx hp =>hK _ _ (hS.do8 hdn h5 G5.out (Ne.symm n3) n1 hx hp _)
   rw [e5]
   intro q hq
   simp only [List.mem_cons,List.not_mem_nil,or_false] at hq
   rcases hq with rfl | rfl | rfl | rfl | rfl | rfl | rfl | rfl <;> rfl
 case hen =>
  intro Z done val hdn hS
  have b4:=hS.b4
  rw [hdn 7 (by decide),if_pos rfl] at b4
  have b5:=(hS.b5' (hdn 8 (by decide))).1
  obtain ⟨g,e5,hg,hx⟩:=hS.v5 (hdn 5 (by decide))
  rw [e5] at b5
  have hbe:=hS.be
  clear hS hdn
  simp only [putTmps,dstOf,List.size_toArray,List.length_cons,List.length_nil,Nat.reduceAdd,List.getElem?_toArray,List.getElem?_cons_zero,List.getElem?_cons_succ,Option.bind_some,List.setIfInBounds_toArray,List.set_cons_zero,List.set_cons_succ]
  go_wp2
  refine bodyPost_ret (a3V rfl _ _ g4 g5 _ _ _ _ (0,0) (0,0) _ _ rfl b4 Try.underlying78 rfl (by kernel_rfl) rfl b5 Try.underlying46 rfl (by kernel_rfl)) rfl ?_
  exact ⟨_,rfl,b1W ⟨o0,o1,o2⟩ hg hx,hbe⟩
open Go.RowKit Go.Proofs.Ytjiacafeckokeaa.Pr Go.Proofs.YtjiacafeckokeaaW.PrintWords
attribute [local go_sem] Oper.semAt_some
def a4I:ByteArray:=(⟨#[102,117,110,32,109,97,105,110,40,41,32,123,32,120,32,61,32,99,97,108,108,32,103,40,41,59,32,125]⟩:ByteArray)
def a3B:List S76:=[⟨0,(⟨#[102,117,110]⟩:ByteArray),0⟩,⟨0,(⟨#[109,97,105,110]⟩:ByteArray),4⟩,⟨2,(⟨#[40]⟩:ByteArray),8⟩,⟨2,(⟨#[41]⟩:ByteArray),9⟩,⟨2,(⟨#[123]⟩:ByteArray),11⟩,⟨0,(⟨#[120]⟩:ByteArray),13⟩,⟨2,(⟨#[61]⟩:ByteArray),15⟩,⟨0,(⟨#[99,97,108,108]⟩:ByteArray),17⟩,⟨0,(⟨#[103]⟩:ByteArray),22⟩,⟨2,(⟨#[40]⟩:ByteArray),23⟩,⟨2,(⟨#[41]⟩:ByteArray),24⟩,⟨2,(⟨#[59]⟩:ByteArray),25⟩,⟨2,(⟨#[125]⟩:ByteArray),27⟩]
theorem p05a_lex:r01_Lex.f 48 a4I = some (a3B,0,0):=by kernel_rfl
theorem a6L:a3B.length≤65536:=by decide
set_option maxRecDepth 100000 in
theorem p05a_f0 (ad:Addr) (c:Nat) (hc:a3B.length≤c) (r:List S32) (hr:Funs 40 a3B ad c (a4I.size:Int) r 13 1):Funs 40 a3B ad c (a4I.size:Int) ((⟨(⟨#[109,97,105,110]⟩:ByteArray),[],[⟨5,(⟨#[120]⟩:ByteArray),(⟨#[]⟩:ByteArray),(⟨#[103]⟩:ByteArray),[],[],[],[]⟩]⟩:S32) :: r) 0 0 :=
 ⟨(by decide),(by decide),(by kernel_rfl),(by kernel_rfl),rfl,4,13,1,(fun w hC =>a9F 40 a3B ad c 2 (a4I.size:Int) 0 w hc hC a6L (by decide) (by decide) (by kernel_rfl) (by kernel_rfl)),(fun w hC =>b0H 40 a3B ad c 4 (a4I.size:Int) 0 w hc hC a6L (by decide) (by decide) 12 1 [⟨5,(⟨#[120]⟩:ByteArray),(⟨#[]⟩:ByteArray),(⟨#[103]⟩:ByteArray),[],[],[],[]⟩] (by decide) (by kernel_rfl) ⟨(by kernel_rfl),⟨rfl,rfl,rfl⟩,12,1,(fun w hC =>a6V 40 a3B ad c 5 (a4I.size:Int) 0 w hc hC a6L (by decide) (by decide) 11 5 1 (⟨#[]⟩:ByteArray) (⟨#[103]⟩:ByteArray) [] (by decide) (by decide) (by decide) (by decide) (by kernel_rfl) (by kernel_rfl) (by kernel_rfl) (by kernel_rfl) (by kernel_rfl) (by kernel_rfl) (by kernel_rfl) (by kernel_rfl) (fun w hC =>a9C 40 a3B ad c 7 (a4I.size:Int) 1 w hc hC a6L (by decide) (by decide) 11 [] (by kernel_rfl) (by kernel_rfl) (by kernel_rfl) (fun w hC =>b6F 40 a3B ad c 9 (a4I.size:Int) 1 w hc hC a6L (by decide) (by decide) (by kernel_rfl) (by kernel_rfl))) (by kernel_rfl)),⟨rfl,rfl,(by decide),(by decide),(by kernel_rfl)⟩⟩),hr⟩
def a2W:List S32:=[⟨(⟨#[109,97,105,110]⟩:ByteArray),[],[⟨5,(⟨#[120]⟩:ByteArray),(⟨#[]⟩:ByteArray),(⟨#[103]⟩:ByteArray),[],[],[],[]⟩]⟩]
theorem b5F (ad:Addr) (c:Nat) (hc:a3B.length≤c):Funs 40 a3B ad c (a4I.size:Int) a2W 0 0 :=
 p05a_f0 ad c hc _ ((show (13:Int) = a3B.length from rfl))
theorem b3T (w:World):Calls Try.prog 24 #[.string a4I] w fun x w' =>∃ v,x = .returned (.tuple #[.agg #[v],.agg #[.int .i64 0,.int .i64 0]])∧RowOut k32 w w' a2W v∧Below w.heap.size w w' :=
 b3A 40 48 a4I a3B a2W w p05a_lex (by decide) a6L (by decide) (fun ad c hc =>b5F ad c hc)
def a2U:ByteArray:=(⟨#[102,117,110,32,109,97,105,110,40,41,32,123,32,120,32,61,32,99,97,108,108,32,103,40,121,41,59,32,120,46,112,32,61,32,38,32,103,59,32,125,32,102,117,110,32,103,40,97,41,32,123,32,122,32,61,32,97,46,113,59,32,125]⟩:ByteArray)
def a2J:List S76:=[⟨0,(⟨#[102,117,110]⟩:ByteArray),0⟩,⟨0,(⟨#[109,97,105,110]⟩:ByteArray),4⟩,⟨2,(⟨#[40]⟩:ByteArray),8⟩,⟨2,(⟨#[41]⟩:ByteArray),9⟩,⟨2,(⟨#[123]⟩:ByteArray),11⟩,⟨0,(⟨#[120]⟩:ByteArray),13⟩,⟨2,(⟨#[61]⟩:ByteArray),15⟩,⟨0,(⟨#[99,97,108,108]⟩:ByteArray),17⟩,⟨0,(⟨#[103]⟩:ByteArray),22⟩,⟨2,(⟨#[40]⟩:ByteArray),23⟩,⟨0,(⟨#[121]⟩:ByteArray),24⟩,⟨2,(⟨#[41]⟩:ByteArray),25⟩,⟨2,(⟨#[59]⟩:ByteArray),26⟩,⟨0,(⟨#[120]⟩:ByteArray),28⟩,⟨2,(⟨#[46]⟩:ByteArray),29⟩,⟨0,(⟨#[112]⟩:ByteArray),30⟩,⟨2,(⟨#[61]⟩:ByteArray),32⟩,⟨2,(⟨#[38]⟩:ByteArray),34⟩,⟨0,(⟨#[103]⟩:ByteArray),36⟩,⟨2,(⟨#[59]⟩:ByteArray),37⟩,⟨2,(⟨#[125]⟩:ByteArray),39⟩,⟨0,(⟨#[102,117,110]⟩:ByteArray),41⟩,⟨0,(⟨#[103]⟩:ByteArray),45⟩,⟨2,(⟨#[40]⟩:ByteArray),46⟩,⟨0,(⟨#[97]⟩:ByteArray),47⟩,⟨2,(⟨#[41]⟩:ByteArray),48⟩,⟨2,(⟨#[123]⟩:ByteArray),50⟩,⟨0,(⟨#[122]⟩:ByteArray),52⟩,⟨2,(⟨#[61]⟩:ByteArray),54⟩,⟨0,(⟨#[97]⟩:ByteArray),56⟩,⟨2,(⟨#[46]⟩:ByteArray),57⟩,⟨0,(⟨#[113]⟩:ByteArray),58⟩,⟨2,(⟨#[59]⟩:ByteArray),59⟩,⟨2,(⟨#[125]⟩:ByteArray),61⟩]
theorem p05b_lex:r01_Lex.f 82 a2U = some (a2J,0,0):=by kernel_rfl
theorem a3Q:a2J.length≤65536:=by decide
set_option maxRecDepth 100000 in
theorem p05b_f0 (ad:Addr) (c:Nat) (hc:a2J.length≤c) (r:List S32) (hr:Funs 40 a2J ad c (a2U.size:Int) r 21 2):Funs 40 a2J ad c (a2U.size:Int) ((⟨(⟨#[109,97,105,110]⟩:ByteArray),[],[⟨5,(⟨#[120]⟩:ByteArray),(⟨#[]⟩:ByteArray),(⟨#[103]⟩:ByteArray),[⟨4,0,(⟨#[121]⟩:ByteArray)⟩],[],[],[]⟩,⟨3,(⟨#[120]⟩:ByteArray),(⟨#[]⟩:ByteArray),(⟨#[112]⟩:ByteArray),[⟨3,0,(⟨#[103]⟩:ByteArray)⟩],[],[],[]⟩]⟩:S32) :: r) 0 0 :=
 ⟨(by decide),(by decide),(by kernel_rfl),(by kernel_rfl),rfl,4,21,2,(fun w hC =>a9F 40 a2J ad c 2 (a2U.size:Int) 0 w hc hC a3Q (by decide) (by decide) (by kernel_rfl) (by kernel_rfl)),(fun w hC =>b0H 40 a2J ad c 4 (a2U.size:Int) 0 w hc hC a3Q (by decide) (by decide) 20 2 [⟨5,(⟨#[120]⟩:ByteArray),(⟨#[]⟩:ByteArray),(⟨#[103]⟩:ByteArray),[⟨4,0,(⟨#[121]⟩:ByteArray)⟩],[],[],[]⟩,⟨3,(⟨#[120]⟩:ByteArray),(⟨#[]⟩:ByteArray),(⟨#[112]⟩:ByteArray),[⟨3,0,(⟨#[103]⟩:ByteArray)⟩],[],[],[]⟩] (by decide) (by kernel_rfl) ⟨(by kernel_rfl),⟨rfl,rfl,rfl⟩,13,1,(fun w hC =>a6V 40 a2J ad c 5 (a2U.size:Int) 0 w hc hC a3Q (by decide) (by decide) 12 5 1 (⟨#[]⟩:ByteArray) (⟨#[103]⟩:ByteArray) [⟨4,0,(⟨#[121]⟩:ByteArray)⟩] (by decide) (by decide) (by decide) (by decide) (by kernel_rfl) (by kernel_rfl) (by kernel_rfl) (by kernel_rfl) (by kernel_rfl) (by kernel_rfl) (by kernel_rfl) (by kernel_rfl) (fun w hC =>a9C 40 a2J ad c 7 (a2U.size:Int) 1 w hc hC a3Q (by decide) (by decide) 12 [⟨4,0,(⟨#[121]⟩:ByteArray)⟩] (by kernel_rfl) (by kernel_rfl) (by kernel_rfl) (fun w hC =>args_one 40 a2J ad c 9 (a2U.size:Int) 1 w hc hC a3Q (by decide) (by decide) (by kernel_rfl) (by kernel_rfl) (by kernel_rfl) (by kernel_rfl) (by kernel_rfl) (by kernel_rfl) rfl (by kernel_rfl) (by kernel_rfl))) (by kernel_rfl)),⟨(by kernel_rfl),⟨rfl,rfl,rfl⟩,20,2,(fun w hC =>stmt_set 40 a2J ad c 13 (a2U.size:Int) 1 w hc hC a3Q (by decide) (by decide) 19 3 0 1 (⟨#[103]⟩:ByteArray) (by decide) (by decide) (by decide) (by decide) (by kernel_rfl) (by kernel_rfl) (by kernel_rfl) (by kernel_rfl) (by kernel_rfl) (by kernel_rfl) (by kernel_rfl) (by kernel_rfl) (by kernel_rfl) (fun w hC =>b2C 40 a2J ad c 17 (a2U.size:Int) 2 w hc hC a3Q (by decide) (by decide) (by kernel_rfl) (by kernel_rfl) (by kernel_rfl) (by kernel_rfl) (by kernel_rfl)) (by kernel_rfl)),⟨rfl,rfl,(by decide),(by decide),(by kernel_rfl)⟩⟩⟩),hr⟩
set_option maxRecDepth 100000 in
theorem p05b_f1 (ad:Addr) (c:Nat) (hc:a2J.length≤c) (r:List S32) (hr:Funs 40 a2J ad c (a2U.size:Int) r 34 3):Funs 40 a2J ad c (a2U.size:Int) ((⟨(⟨#[103]⟩:ByteArray),[(⟨#[97]⟩:ByteArray)],[⟨2,(⟨#[122]⟩:ByteArray),(⟨#[97]⟩:ByteArray),(⟨#[113]⟩:ByteArray),[],[],[],[]⟩]⟩:S32) :: r) 21 2 :=
 ⟨(by decide),(by decide),(by kernel_rfl),(by kernel_rfl),rfl,26,34,3,(fun w hC =>b5J 40 a2J ad c 23 (a2U.size:Int) 2 w hc hC a3Q (by decide) (by decide) (by kernel_rfl) (by kernel_rfl) (by kernel_rfl) (by kernel_rfl)),(fun w hC =>b0H 40 a2J ad c 26 (a2U.size:Int) 2 w hc hC a3Q (by decide) (by decide) 33 3 [⟨2,(⟨#[122]⟩:ByteArray),(⟨#[97]⟩:ByteArray),(⟨#[113]⟩:ByteArray),[],[],[],[]⟩] (by decide) (by kernel_rfl) ⟨(by kernel_rfl),⟨rfl,rfl,rfl⟩,33,3,(fun w hC =>a6V 40 a2J ad c 27 (a2U.size:Int) 2 w hc hC a3Q (by decide) (by decide) 32 2 1 (⟨#[97]⟩:ByteArray) (⟨#[113]⟩:ByteArray) [] (by decide) (by decide) (by decide) (by decide) (by kernel_rfl) (by kernel_rfl) (by kernel_rfl) (by kernel_rfl) (by kernel_rfl) (by kernel_rfl) (by kernel_rfl) (by kernel_rfl) (fun w hC =>b4N 40 a2J ad c 29 (a2U.size:Int) 3 w hc hC a3Q (by decide) (by decide) (by kernel_rfl) (by kernel_rfl) (by kernel_rfl) (by kernel_rfl) (by kernel_rfl) (by kernel_rfl) (by kernel_rfl) rfl (by kernel_rfl) (by kernel_rfl) (by kernel_rfl) (by kernel_rfl) (by kernel_rfl) (by kernel_rfl) (by kernel_rfl) (by kernel_rfl) (by kernel_rfl)) (by kernel_rfl)),⟨rfl,rfl,(by decide),(by decide),(by kernel_rfl)⟩⟩),hr⟩
def a1Q:List S32:=[⟨(⟨#[109,97,105,110]⟩:ByteArray),[],[⟨5,(⟨#[120]⟩:ByteArray),(⟨#[]⟩:ByteArray),(⟨#[103]⟩:ByteArray),[⟨4,0,(⟨#[121]⟩:ByteArray)⟩],[],[],[]⟩,⟨3,(⟨#[120]⟩:ByteArray),(⟨#[]⟩:ByteArray),(⟨#[112]⟩:ByteArray),[⟨3,0,(⟨#[103]⟩:ByteArray)⟩],[],[],[]⟩]⟩,⟨(⟨#[103]⟩:ByteArray),[(⟨#[97]⟩:ByteArray)],[⟨2,(⟨#[122]⟩:ByteArray),(⟨#[97]⟩:ByteArray),(⟨#[113]⟩:ByteArray),[],[],[],[]⟩]⟩]
theorem b5E (ad:Addr) (c:Nat) (hc:a2J.length≤c):Funs 40 a2J ad c (a2U.size:Int) a1Q 0 0 :=
 p05b_f0 ad c hc _ (p05b_f1 ad c hc _ ((show (34:Int) = a2J.length from rfl)))
theorem b3S (w:World):Calls Try.prog 24 #[.string a2U] w fun x w' =>∃ v,x = .returned (.tuple #[.agg #[v],.agg #[.int .i64 0,.int .i64 0]])∧RowOut k32 w w' a1Q v∧Below w.heap.size w w' :=
 b3A 40 82 a2U a2J a1Q w p05b_lex (by decide) a3Q (by decide) (fun ad c hc =>b5E ad c hc)
end Go.Proofs.Ytjiacafeckokeaa.Man
