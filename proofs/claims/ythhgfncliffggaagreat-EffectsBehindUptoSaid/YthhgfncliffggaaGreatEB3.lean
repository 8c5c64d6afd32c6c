/- A part of the proof that EffectsBehind returns true for every argument. No conditions beyond the given statement's own. -/
import Derived.Test.YthhgfncliffggaaGreatEB2
import Derived.Sort.LoopGhostIn
import Derived.WalkMore
import Derived.Says
import Derived.Test.YthhgfncliffggaaGreatEB1
set_option maxHeartbeats 40000000
set_option maxRecDepth 1000000
set_option linter.unusedVariables false
set_option linter.unusedSimpArgs false
namespace Go.Proofs.YthhgfncliffggaaGreat.Man
open Go.RowKit Go.Shelf Go.Proofs.YthhgfncliffggaaGreat.Pr Go.Proofs.YthhgfncliffggaaGreatW.PrintWords
attribute [local go_sem] Oper.semAt_some
def calledBy (fs:List S34) (s:S65):List Int:=if s.f0 = 5∧0≤funIx fs s.f3 then [funIx fs s.f3] else []
def coll (fs:List S34) (L:List S65):List Int:=L.flatMap (calledBy fs)
def applies (L:List S65):Bool:=L.any fun s =>s.f0 == 6
def allIx (n:Nat):List Int:=(List.range n).map Int.ofNat
def callsOf (fs:List S34) (f:S34):List Int:=if applies (flat f.f2) = true then allIx fs.length else Lib.compact (srt (coll fs (flat f.f2)))
def callsF (fs:List S34):List (List Int):=fs.map (callsOf fs)
theorem b4A (n:Nat):(allIx n).length = n:=by simp [allIx]
theorem b7B (n:Nat):allIx (n + 1) = allIx n ++ [(n:Int)]:=by simp [allIx,List.range_succ]
theorem take_row (fs:List S34) (j:Nat) (h:j < fs.length):(fs.take (j + 1)).map (callsOf fs) = (fs.take j).map (callsOf fs) ++ [callsOf fs (a0V fs (j:Int))]:=by
 rw [zB1 h,List.map_append]
 congr 2
 unfold a0V;rw [zK0,zE0,zD0 h];rfl
def mkD (D:Nat):Deferred:={ target:=.collected D,args:=#[] }
theorem b0T {F:Fence} {n:Nat} {P:Program} {fn:Func} {tmps:Array Value} {R:Ending→World→Prop} (B:Nat) (J:World→Prop) (hJ:∀ W D,J W→B≤D→W.heap[D]? = some (.deferred (some []))→J (W.putObj D (.deferred none)))
  (hend:∀ W,J W→LeavesIn F n P fn tmps R [] .returning W):∀ (ds:List Nat) (W:World),J W→ds.Nodup→(∀ D,D ∈ ds→B≤D∧W.heap[D]? = some (.deferred (some [])))→LeavesInM F n P fn tmps R (ds.map mkD) .returning W:=by
 intro ds
 induction ds with
 | nil =>intro W h _ _;exact hend W h
 | cons D ds ih =>
  intro W h hn hd;obtain ⟨hn1,hn2⟩:=List.nodup_cons.1 hn;obtain ⟨hB,hD⟩:=hd D zN0;refine ⟨by simp,.inl ⟨D,_,rfl,run_takeDeferred hD,ih _ (hJ W D h hB hD) hn2 fun E hE =>?_⟩⟩;obtain ⟨hE1,hE2⟩:=hd E (zP0 _ hE);have hne:D≠E:=fun e =>hn1 (e ▸ hE)
  exact ⟨hE1,by rw [(grownBy_putObj' W D _).block E (Array.getElem?_eq_some_iff.1 hE2).1 (fun e =>hne (by cases e;rfl))];exact hE2⟩
def VarBx {w:World} {P:Nat→Prop} {T:S65→Prop} (B:Nat) (act:Nat→Elt w P T→Act) (x:Elt w P T) (a':Act) (W:World):Prop :=
 ∃ Bv,B≤Bv∧W.heap[Bv]? = some (.cells x.1.2.toArray 65 (0,0))∧a' = act Bv x
theorem VarBx.own {w:World} {P:Nat→Prop} {T:S65→Prop} (B:Nat) (act:Nat→Elt w P T→Act) (x:Elt w P T) (a':Act):OwnFrom B (fun (_:Unit) W =>VarBx B act x a' W):=by
 rintro _ X Y row ⟨Bv,h1,h2,h4⟩ hg hr;refine ⟨Bv,h1,?_,h4⟩;rw [hg.block Bv (Array.getElem?_eq_some_iff.1 h2).1 ?_]
 ·exact h2
 ·intro e;obtain ⟨_,o,ho,hc⟩:=hr Bv e.symm;rw [h2] at ho;cases ho;cases hc
theorem mixed:Tryz.prog.follows .mixedOrders = true:=by kernel_rfl
theorem a8U {F:Fence} {n:Nat} {P:Program} {ops:Array Oper} {Q:Exit→Act→World→Prop} {i:Nat} {K:Act→World→Prop} {a:Act} {w:World} {o:Oper} (ho:ops[i]? = some o)
  (h:wpListIn F n P ops (fun e a w =>match e with | .normal =>K a w | e =>Q e a w) [o] a w):wpOpIn F n P ops Q i K a w:=by
 unfold wpOpIn;simp only [ho];simp only [wpListIn] at h
 split at h
 ·rename_i hw
  rw [if_pos hw];unfold Oper.wpIn at *;refine ⟨h.1,?_⟩;have hh:=h.2;generalize (o.semAt F.round a.eval).run P w = r at *;cases r with
  | ok x w' =>cases x <;> exact hh
  | halt x w' =>cases x <;> exact hh
 ·rename_i hw
  rw [if_neg hw];exact h
theorem b2N {n:Nat} {P:Program} {ops:Array Oper} {Q:Exit→Act→World→Prop} {a:Act} {w:World} {o:Oper} {rest:List Oper} {f:FuncId} {xs:Array Operand} {ts:Array TypeId} {R:Ending→World→Prop}
  (hg:o.guard = none) (hop:o.op = .call { callee:=.value (.func f),args:=xs,argTypes:=ts }) (eg:∀ args w,(callFunc f args).run P w = .ok (.enter f args) w)
  (hcall:Calls P f (xs.map a.eval) w R) (hK:∀ e w',R e w'→∃ v,e = .returned v∧wpListIn Fence.wide n P ops Q rest (a.put o.dst v) w'):wpListIn Fence.wide n P ops Q (o :: rest) a w:=by
 simp only [wpListIn,Region.wanted,hg,if_true];refine ⟨fun f h =>trivial,?_⟩;rw [Oper.semAt_eq _ _ _ qB2];have hrun:(execOp a.eval o).run P w = .ok (.enter f (xs.map a.eval)) w:=by
  simp [execOp,hop,resolve,invoke,go_sem,eg]
 rw [hrun];refine ⟨fun h =>by simp [Fence.wide] at h,CallsIn.mono (callsIn_wide.2 hcall) fun e w' hr =>?_⟩;obtain ⟨v,rfl,hk⟩:=hK e w' hr;exact hk
theorem b3A {w:World} {base e size n:Nat} {v:Value} {xs:List Value} (h:w.ownsRow base e size v n xs):∃ A n' c,v = .slice A n' c:=by
 rcases h.2 with ⟨rfl,_⟩ | ⟨g,cap,cur,rfl,_⟩
 ·exact ⟨_,_,_,rfl⟩
 ·exact ⟨_,_,_,rfl⟩
def CI (w:World) (A:Option Addr) (n c bL:Nat) (ds:List Nat) (vo:Value) (outs:List (List Int)) (B:Nat) (fs:List S34) (L:List S65) (X:World):Prop :=
 ∃ vl,GS w A n c bL ds X vl vl (coll fs L) vo outs∧B≤X.heap.size∧applies L = false
def CX (w:World) (A:Option Addr) (n c:Nat) (ds:List Nat) (outs:List (List Int)) (B:Nat) (cd:Code) (L:List S65) (X:World):Prop :=
 cd = .exit 1∧∃ vo',OS w A n c ds X vo' (outs ++ [allIx n])∧B≤X.heap.size∧applies L = true
def c0U (w:World) (A:Option Addr) (n c bL:Nat) (ds:List Nat) (vo:Value) (outs:List (List Int)) (B:Nat) (fs:List S34) (L:List S65) (X:World):Exit→World→Prop
 | .normal,Z =>KeepsFrom B X Z∧Kp w.heap.size B (some bL) X Z∧CI w A n c bL ds vo outs B fs L Z
 | .exit id,Z =>KeepsFrom B X Z∧CX w A n c ds outs B (.exit id) L Z
 | _,_ =>False
theorem b6B (fs:List S34) (L:List S65):(coll fs L).length≤L.length:=by
 induction L with
 | nil =>simp [coll]
 | cons s r ih =>
  have:(calledBy fs s).length≤1:=by unfold calledBy;split <;> simp
  simp only [coll,List.flatMap_cons,zO0,zR0] at *;omega
theorem b3R (fs:List S34) (L:List S65) (s:S65):coll fs (L ++ [s]) = coll fs L ++ calledBy fs s:=by simp [coll]
theorem a8C (L:List S65) (s:S65):applies (L ++ [s]) = (applies L || (s.f0 == 6)):=by simp [applies]
theorem CI.same {w:World} {A:Option Addr} {n c bL:Nat} {ds:List Nat} {vo vl:Value} {outs:List (List Int)} {B:Nat} {fs:List S34} {L:List S65} {X Z:World} {s:S65} (h:GS w A n c bL ds X vl vl (coll fs L) vo outs) (hb:B≤X.heap.size) (ha:applies L = false) (h6:(s.f0 == 6) = false) (hs:calledBy fs s = [])
  (hbB:bL < B) (hwZ:Below X.heap.size X Z) (hXw:w.heap.size≤X.heap.size):c0U w A n c bL ds vo outs B fs (L ++ [s]) X .normal Z:=by
 have hg:=h.below hwZ;obtain ⟨q1,q2⟩:=h.kp hg hbB (hwZ.mono hXw) (Fr.a3W _ hwZ) (.inl rfl);exact ⟨q1,q2,vl,by rw [b3R,hs,zR2];exact hg,zF0 hb hwZ.size,by rw [a8C,ha,h6];rfl⟩
theorem CI.more {w:World} {A:Option Addr} {n c bL:Nat} {ds:List Nat} {vo vl v1:Value} {outs:List (List Int)} {B:Nat} {fs:List S34} {L:List S65} {X Y Z:World} {s:S65} {q:Int} (h:GS w A n c bL ds X vl vl (coll fs L) vo outs) (hb:B≤X.heap.size) (ha:applies L = false) (h6:(s.f0 == 6) = false) (hs:calledBy fs s = [q])
  (hbB:bL < B) (hXY:Below X.heap.size X Y) (hXw:w.heap.size≤X.heap.size) (hg:GS w A n c bL ds Z vl v1 (coll fs L ++ [q]) vo outs) (hf:Fr (fun k =>some k = vl.ownBlock) Y Z) (hbe:Below w.heap.size Y Z) (hat:v1.ownBlock = vl.ownBlock∨∃ b,v1.ownBlock = some b∧Y.heap.size≤b) :
  c0U w A n c bL ds vo outs B fs (L ++ [s]) X .normal (Z.setCell ⟨bL,0,none⟩ v1):=by
 have hg2:=hg.setL v1;have hlb:=h.lb;have hF:Fr (fun k =>k = bL∨some k = vl.ownBlock) X (Z.setCell ⟨bL,0,none⟩ v1):=((Fr.a3W (fun k =>k = bL∨some k = vl.ownBlock) hXY).trans hf (fun i _ e =>.inr e)).trans (Fr.b3E Z bL v1) (fun i _ e =>.inl e);have hB:Below w.heap.size X (Z.setCell ⟨bL,0,none⟩ v1):=((hXY.mono hXw).trans hbe).setCell (p:=⟨bL,0,none⟩) (by show w.heap.size≤bL;omega) v1;obtain ⟨q1,q2⟩:=h.kp hg2 hbB hB hF (hat.imp_right fun ⟨b,e,hb⟩ =>⟨b,e,zF0 hXY.size hb⟩);exact ⟨q1,q2,v1,by rw [b3R,hs];exact hg2,zF0 hb hF.size,by rw [a8C,ha,h6];rfl⟩
theorem OS.cons {w:World} {A:Option Addr} {n c:Nat} {ds:List Nat} {vo:Value} {outs:List (List Int)} {Z:World} {D:Nat} (h:OS w A n c ds Z vo outs) (hD:w.heap.size≤D) (hZ:Z.heap[D]? = some (.deferred (some []))):OS w A n c (D :: ds) Z vo outs :=
 ⟨h.be,h.bp,h.bo,h.ro,fun E hE =>by
  rcases zQ0.1 hE with rfl | hE
  ·exact ⟨hD,hZ⟩
  ·exact h.df E hE⟩
theorem b5A {L p q:List S65} (h:p ++ q = L) (ha:applies p = true):applies L = true:=by
 rw [← h];unfold applies at *;rw [List.any_append,ha];rfl
theorem fr_app {X Y Z:World} {bL:Nat} {vl:Value} (h:Fr (fun k =>k = bL) X Y) (hn:∀ k,vl.ownBlock = some k→X.heap.size≤k) (h2:Fr (fun k =>some k = vl.ownBlock) Y Z) (u:Value):Fr (fun k =>k = bL) X (Z.setCell ⟨bL,0,none⟩ u) :=
 (h.trans h2 (fun i hi e =>by have:=hn i e.symm;omega)).trans (Fr.b3E Z bL u) (fun i _ e =>e)
theorem own_app {X Y:World} {vl v1:Value} (hn:∀ k,vl.ownBlock = some k→X.heap.size≤k) (h:v1.ownBlock = vl.ownBlock∨∃ b,v1.ownBlock = some b∧Y.heap.size≤b) (hs:X.heap.size≤Y.heap.size):∀ k,v1.ownBlock = some k→X.heap.size≤k:=by
 intro k hk;rcases h with h | ⟨b,h,hb⟩
 ·exact hn k (by rw [← h];exact hk)
 ·rw [h] at hk;cases hk;omega
structure S22 (w:World) (A:Option Addr) (n c bL:Nat) (ds:List Nat) (vo vl:Value) (xs zs:List Int) (outs:List (List Int)) (Y:World) (done:Nat→Bool) (val:Nat→Value) (Z:World):Prop where
 i5:done 5 = true→done 4 = true
 i4:done 4 = true→done 0 = true∧done 3 = true
 i3:done 3 = true→done 2 = true
 i2:done 2 = true→done 1 = true
 v0:done 0 = true→val 0 = vo
 v1:done 1 = true→val 1 = vl
 s1:done 2 = false→GS w A n c bL ds Z vl vl xs vo outs∧KeepsOthers Y Z
 s2:done 2 = true→done 3 = false→GS w A n c bL ds Z vl (val 2) zs vo outs∧KeepsOthers Y Z
 s3:done 3 = true→done 4 = false→∃ Z0,Z = Z0.alloc (.cells #[val 2] 43)∧val 3 = .slice (some ⟨Z0.heap.size,0,none⟩) 1 1∧GS w A n c bL ds Z0 vl (val 2) zs vo outs∧KeepsOthers Y Z0
 s4:done 4 = true→done 5 = false→(∃ A' c',val 4 = .slice A' (outs.length + 1) c')∧OS w A n c ds (Z.setCell ⟨w.heap.size + 1,0,none⟩ (val 4)) (val 4) (outs ++ [zs])∧KeepsOthers Y (Z.setCell ⟨w.heap.size + 1,0,none⟩ (val 4))∧Boxed Z (w.heap.size + 1) 39 vo
 s5:done 5 = true→∃ v,OS w A n c ds Z v (outs ++ [zs])∧KeepsOthers Y Z
section
variable {w:World} {A:Option Addr} {n c bL:Nat} {ds:List Nat} {vo vl:Value} {xs zs:List Int} {outs:List (List Int)} {Y:World} {done:Nat→Bool} {val:Nat→Value} {Z:World}
theorem S22.bo (h:S22 w A n c bL ds vo vl xs zs outs Y done val Z) (h4:done 4 = false):Boxed Z (w.heap.size + 1) 39 vo:=by
 cases h2:done 2 with
 | false =>exact (h.s1 h2).1.bo
 | true =>
  cases h3:done 3 with
  | false =>exact (h.s2 h2 h3).1.bo
  | true =>obtain ⟨Z0,rfl,_,hg,_⟩:=h.s3 h3 h4;exact hg.bo.alloc _
theorem S22.n4 (h:S22 w A n c bL ds vo vl xs zs outs Y done val Z) (h0:done 0 = false):done 4 = false:=by
 cases h4:done 4 with
 | false =>rfl
 | true =>rw [(h.i4 h4).1] at h0;cases h0
theorem S22.n2 (h:S22 w A n c bL ds vo vl xs zs outs Y done val Z) (h1:done 1 = false):done 2 = false:=by
 cases h4:done 2 with
 | false =>rfl
 | true =>rw [h.i2 h4] at h1;cases h1
theorem S22.n3 (h:S22 w A n c bL ds vo vl xs zs outs Y done val Z) (h1:done 2 = false):done 3 = false:=by
 cases h4:done 3 with
 | false =>rfl
 | true =>rw [h.i3 h4] at h1;cases h1
theorem S22.m4 (h:S22 w A n c bL ds vo vl xs zs outs Y done val Z) (h1:done 3 = false):done 4 = false:=by
 cases h4:done 4 with
 | false =>rfl
 | true =>rw [(h.i4 h4).2] at h1;cases h1
theorem S22.m5 (h:S22 w A n c bL ds vo vl xs zs outs Y done val Z) (h1:done 4 = false):done 5 = false:=by
 cases h4:done 5 with
 | false =>rfl
 | true =>rw [h.i5 h4] at h1;cases h1
theorem S22.do0 (h:S22 w A n c bL ds vo vl xs zs outs Y done val Z) (h0:done 0 = false):S22 w A n c bL ds vo vl xs zs outs Y (upd done 0) (setv val 0 vo) Z:=by
 have h4:=h.n4 h0;have h5:=h.m5 h4;exact ⟨by simpa [upd] using h.i5,by simp [upd,h4],by simpa [upd] using h.i3,by simpa [upd] using h.i2,by simp [setv],by simpa [upd,setv] using h.v1,by simpa [upd] using h.s1,by simpa [upd,setv] using h.s2,by simpa [upd,setv] using h.s3,by simp [upd,h4],by simp [upd,h5]⟩
theorem S22.do1 (h:S22 w A n c bL ds vo vl xs zs outs Y done val Z) (h1:done 1 = false):S22 w A n c bL ds vo vl xs zs outs Y (upd done 1) (setv val 1 vl) Z:=by
 have h2:=h.n2 h1;have h3:=h.n3 h2;have h4:=h.m4 h3;have h5:=h.m5 h4;exact ⟨by simp [upd,h5],by simp [upd,h4],by simp [upd,h3],by simp [upd],by simpa [upd,setv] using h.v0,by simp [setv],by simpa [upd] using h.s1,by simp [upd,h2],by simp [upd,h3],by simp [upd,h4],by simp [upd,h5]⟩
theorem S22.do2 (h:S22 w A n c bL ds vo vl xs zs outs Y done val Z) (h2:done 2 = false) (h1:done 1 = true) (v2:Value) (Z':World) (hg:GS w A n c bL ds Z' vl v2 zs vo outs) (hk:KeepsOthers Y Z'):S22 w A n c bL ds vo vl xs zs outs Y (upd done 2) (setv val 2 v2) Z':=by
 have h3:=h.n3 h2;have h4:=h.m4 h3;have h5:=h.m5 h4;exact ⟨by simp [upd,h5],by simp [upd,h4],by simp [upd],by simp [upd,h1],by simpa [upd,setv] using h.v0,by simpa [upd,setv] using h.v1,by simp [upd],by simp [upd,setv];exact fun _ =>⟨hg,hk⟩,by simp [upd,h3],by simp [upd,h4],by simp [upd,h5]⟩
theorem S22.do3 (h:S22 w A n c bL ds vo vl xs zs outs Y done val Z) (h3:done 3 = false) (h2:done 2 = true):S22 w A n c bL ds vo vl xs zs outs Y (upd done 3) (setv val 3 (.slice (some ⟨Z.heap.size,0,none⟩) 1 1)) (Z.alloc (.cells #[val 2] 43)):=by
 have h4:=h.m4 h3;have h5:=h.m5 h4;obtain ⟨hg,hk⟩:=h.s2 h2 h3;exact ⟨by simp [upd,h5],by simp [upd,h4],by simp [upd,h2],by simpa [upd] using h.i2,by simpa [upd,setv] using h.v0,by simpa [upd,setv] using h.v1,by simp [upd,h2],by simp [upd],by simp [upd,setv];exact fun _ =>⟨Z,rfl,rfl,hg,hk⟩,by simp [upd,h4],by simp [upd,h5]⟩
theorem S22.do4 (h:S22 w A n c bL ds vo vl xs zs outs Y done val Z) (h4:done 4 = false) (h3:done 3 = true) (h0:done 0 = true) (v4:Value) (Z':World) (hv:∃ A' c',v4 = .slice A' (outs.length + 1) c') (ho:OS w A n c ds (Z'.setCell ⟨w.heap.size + 1,0,none⟩ v4) v4 (outs ++ [zs])) (hk:KeepsOthers Y (Z'.setCell ⟨w.heap.size + 1,0,none⟩ v4)) (hb:Boxed Z' (w.heap.size + 1) 39 vo) :
  S22 w A n c bL ds vo vl xs zs outs Y (upd done 4) (setv val 4 v4) Z':=by
 have h5:=h.m5 h4;have h2:=h.i3 h3;exact ⟨by simp [upd],by simp [upd,h0,h3],by simpa [upd] using h.i3,by simpa [upd] using h.i2,by simpa [upd,setv] using h.v0,by simpa [upd,setv] using h.v1,by simp [upd,h2],by simp [upd,h3],by simp [upd],by simp only [upd,setv,if_true];exact fun _ _ =>⟨hv,ho,hk,hb⟩,by simp [upd,h5]⟩
theorem S22.do5 (h:S22 w A n c bL ds vo vl xs zs outs Y done val Z) (h5:done 5 = false) (h4:done 4 = true) (r:Value):S22 w A n c bL ds vo vl xs zs outs Y (upd done 5) (setv val 5 r) (Z.setCell ⟨w.heap.size + 1,0,none⟩ (val 4)):=by
 obtain ⟨hv,ho,hk,hb⟩:=h.s4 h4 h5;obtain ⟨h0,h3⟩:=h.i4 h4;have h2:=h.i3 h3;exact ⟨by simp [upd,h4],by simp [upd,h0,h3],by simpa [upd] using h.i3,by simpa [upd] using h.i2,by simpa [upd,setv] using h.v0,by simpa [upd,setv] using h.v1,by simp [upd,h2],by simp [upd,h3],by simp [upd,h4],by simp [upd],fun _ =>⟨_,ho,hk⟩⟩
end
theorem c0J (w:World) (fs:List S34) (A:Option Addr) (c:Nat) (hlc:fs.length≤c) (hC:Kd.C k34 w A fs.length fs) (hl:fs.length≤1050000) (hN:∀ f,f ∈ fs→(flat f.f2).length≤2000000) :
  Calls Tryz.prog 27 #[.agg #[.slice A fs.length c]] w fun e w' =>∃ v,e = .returned v∧Kd.S (Kd.slice 3 (Kd.int .i64)) 43 w' w.heap.size (fun _ =>True) v (callsF fs)∧Below w.heap.size w w':=by
 refine (callsIn_wide (n:=5)).1 ?_;refine callsIn_of_wp_marks Tryz.func27 rfl trivial ?_ rfl
 simp only [Tryz.ntmps27,zQ1,zR0,zI1,Nat.reduceAdd,Nat.reduceSub,zH3,zI3,zP3,zL3,zJ2,zK3];have hfn:Fence.wide.fn 33:=trivial;have K0:=zA0 hC;have HN:=zA0 hN;clear hC hN
 gi_wp2
 refine wpIn_wide.2 (wp_scope_straight ((wpIn_wide (n:=5)).1 ?_))
 gi_wp2
 refine wpIn_label ?_
 gi_wp2
 obtain ⟨W0,hW0⟩:∃ W0,W0 = (w.alloc (Obj.cells #[Value.slice A fs.length c] 24)).alloc (Obj.cells #[Value.slice none 0 0] 39):=⟨_,rfl⟩;have hO0:OS w A fs.length c [] W0 (.slice none 0 0) []:=by
  rw [hW0];refine ⟨a0D (a0D (zG0 _ _) _) _,(Boxed.new w _ _).alloc _,by simpa using Boxed.new (w.alloc (Obj.cells #[Value.slice A fs.length c] 24)) 39 (.slice none 0 0),Kd.S_nil _ _ _ _ _,by simp⟩
 rw [← hW0];clear hW0
 refine wpIn_loop_ghost_k (fun k a W =>∃ (j:Nat) (ds:List Nat) (vo:Value) (v13 u5 u6 u14 u15 u16 u17 u18 u19 u52 u53 u54 u55 u56 u57 u58 u59:Value),j + k = fs.length∧v13 = .int .i64 (j:Nat)∧a = { tmps:=#[.agg #[.slice A fs.length c],.pointer (some ⟨w.heap.size,0,none⟩),.slice none 0 0,.pointer (some ⟨w.heap.size + 1,0,none⟩),undef,u5,u6,undef,undef,undef,.pointer (some ⟨w.heap.size,0,none⟩),.slice A fs.length c,.int .i64 (fs.length:Nat),v13,u14,u15,u16,u17,u18,u19,undef,undef,undef,undef,undef,undef,undef,undef,undef,undef,undef,undef,undef,undef,undef,undef,undef,undef,undef,undef,undef,undef,undef,undef,undef,undef,undef,undef,undef,undef,undef,undef,u52,u53,u54,u55,u56,u57,u58,u59,undef],defers:=ds.map mkD } ∧
  Hid (OS w A fs.length c ds W vo ((fs.take j).map (callsOf fs)))∧Hid ds.Nodup) fs.length ?start ?round
 case start =>exact ⟨0,[],.slice none 0 0,.int .i64 0,undef,undef,undef,undef,undef,undef,undef,undef,undef,undef,undef,undef,undef,undef,undef,undef,by omega,rfl,rfl,zA0 hO0,zA0 List.nodup_nil⟩
 case round =>
  rintro k a W ⟨j,ds,vo,v13,u5,u6,u14,u15,u16,u17,u18,u19,u52,u53,u54,u55,u56,u57,u58,u59,hj,rfl,rfl,HO,HD⟩ J K hJ hK;by_cases hjl:j < fs.length
  ·obtain ⟨ad,A1,c1,A2,c2,eA,y0,y1,y2,_,_,l2,g2⟩:=a6Q K0.out (j:Int) qC0 qC0;subst eA;rw [zK0] at y0 y1 y2;have x0:=(HO.out.be.cell (zE1 _ _ y0)).trans y0;have x1:=(HO.out.be.cell (zE1 _ _ y1)).trans y1;have x2:=(HO.out.be.cell (zE1 _ _ y2)).trans y2;have hkk:=pz j qC0;have G2:=zA0 g2;clear y0 y1 y2 g2
   gi_wp2_with ((try refine ⟨fun _ =>by decide,?_⟩);gi_at_call 33;refine (b5O _ _ rfl _).mono ?_;rintro e w' ⟨rfl,rfl⟩)
   obtain ⟨Wb,hWb⟩:∃ Wb,Wb = W.alloc (Obj.cells #[Value.string (a0V fs (j:Int)).f0,Value.slice A1 (a0V fs (j:Int)).f1.length c1,Value.slice A2 (a0V fs (j:Int)).f2.length c2] 34):=⟨_,rfl⟩;obtain ⟨w1,hw1⟩:∃ w1,w1 = (Wb.alloc (Obj.cells #[Value.slice none 0 0] 43)).alloc (Obj.cells #[Value.slice A2 (a0V fs (j:Int)).f2.length c2] 32):=⟨_,rfl⟩;rw [← hWb,← hw1];have hszb:Wb.heap.size = W.heap.size + 1:=by rw [hWb];simp
   have hs1a:W.heap.size + 3≤w1.heap.size:=by rw [hw1];simp [hszb]
   have hs1b:w1.heap.size≤W.heap.size + 3:=by rw [hw1];simp [hszb]
   have HO0:=HO.out.below (W':=Wb) (by rw [hWb];exact a0D (zG0 _ _) _);have hG0:GS w (some ad) fs.length c (W.heap.size + 1) ds w1 (.slice none 0 0) (.slice none 0 0) [] vo ((fs.take j).map (callsOf fs)):=by
    rw [hw1];have:=HO0.start.alloc (Obj.cells #[Value.slice A2 (a0V fs (j:Int)).f2.length c2] 32);rw [hszb] at this;exact this
   have hbt:w1.cell? ⟨W.heap.size + 1 + 1,0,none⟩ = some (.slice A2 (a0V fs (j:Int)).f2.length c2):=by
    rw [hw1];have:=(Boxed.new (Wb.alloc (Obj.cells #[Value.slice none 0 0] 43)) 32 (Value.slice A2 (a0V fs (j:Int)).f2.length c2)).cell;simp only [World.size_alloc,hszb] at this;exact this
   have hdl:∀ D,D ∈ ds→D < w1.heap.size:=fun D hD =>(Array.getElem?_eq_some_iff.1 (hG0.df D hD).2).1
   have hWw:Below W.heap.size W w1:=by rw [hw1,hWb];exact a0D (a0D (a0D (zG0 _ _) _) _) _
   have hfm:a0V fs (j:Int) ∈ fs:=by
    unfold a0V;rw [zK0,zE0,zD0 hjl];exact zD1 hjl
   have hflen:=HN.out _ hfm;have htk:=take_row fs j hjl;obtain ⟨F,hF⟩:∃ F,F = a0V fs (j:Int):=⟨_,rfl⟩;rw [← hF] at htk;have HTK:=zA0 htk;have HF:=zA0 hF;have HW:=zA0 hWw;obtain ⟨outs,houts⟩:∃ outs,outs = (fs.take j).map (callsOf fs):=⟨_,rfl⟩;rw [← houts] at hG0 HTK;have HOU:=zA0 houts;have HOL:outs.length≤1050000:=by rw [houts];simp;omega
   clear hWb hw1 HO0 htk hF hWw houts hfm;have G0:=zA0 hG0;have hwsz:=hG0.be.size;clear hG0;refine rangeAll (w:=w) (P:=fun k =>k < w.heap.size) (T:=fun s =>s ∈ flat (a0V fs (j:Int)).f2) (n:=5) qB0 (a0V fs (j:Int)).f2 A2 c2 l2 (fun _ h =>h) (Kd.C_F a8O G2.out) G0.out.be (W.heap.size + 1 + 1) qC0 hbt rfl (some (W.heap.size + 1)) (fun b e =>by cases e;omega) (fun k h =>by simp [rowOf,G0.out.bl.cell,Value.ownBlock] at h) rfl
    (fun pre X =>CI w (some ad) fs.length c (W.heap.size + 1) ds vo outs w1.heap.size fs (pre.map (·.1.1)) X)
    (fun cd pre X =>CX w (some ad) fs.length c ds outs w1.heap.size cd (pre.map (·.1.1)) X)
    ?own1 ?own2 ⟨_,G0.out,zJ0 _,rfl⟩
    (VarBx w1.heap.size fun Bv x =>{ tmps:=#[.agg #[.slice (some ad) fs.length c],.pointer (some ⟨w.heap.size,0,none⟩),.slice none 0 0,.pointer (some ⟨w.heap.size + 1,0,none⟩),undef,.pointer (some ⟨W.heap.size,0,none⟩),.pointer (some ⟨W.heap.size + 1,0,none⟩),.pointer (some ⟨Bv,0,none⟩),undef,undef,.pointer (some ⟨w.heap.size,0,none⟩),.slice (some ad) fs.length c,.int .i64 (fs.length:Nat),.int .i64 (j:Nat),.bool true,.pointer (some (ad.add (j * 3))),.agg #[.string (a0V fs (j:Int)).f0,.slice A1 (a0V fs (j:Int)).f1.length c1,.slice A2 (a0V fs (j:Int)).f2.length c2],.pointer (some ⟨W.heap.size,2,none⟩),.slice A2 (a0V fs (j:Int)).f2.length c2,.func (.func 55) #[] #[.pointer (some ⟨W.heap.size + 1 + 1,0,none⟩)],.agg x.1.2.toArray,undef,undef,undef,undef,undef,undef,undef,undef,undef,undef,undef,undef,undef,undef,undef,undef,undef,undef,undef,undef,undef,undef,undef,undef,undef,undef,undef,undef,undef,undef,undef,u52,u53,u54,u55,u56,u57,u58,u59,undef],defers:=[] })
    (fun x a' =>VarBx.own _ _ _ _) ?assign ?body ?done ?stop
   case own1 =>
    rintro pre X Y row ⟨vl,h,hle,ha⟩ hg hr;exact ⟨vl,h.turn hwsz hdl hg hr,zF0 hle hg.size,ha⟩
   case own2 =>
    rintro cd pre X Y row ⟨e,vo',h,hle,ha⟩ hg hr;exact ⟨e,vo',h.turn hwsz hdl hg hr,zF0 hle hg.size,ha⟩
   case assign =>
    rintro lp pre ⟨⟨s,cs⟩,hKs,hT⟩ X K2 ⟨vl,hG,hle,ha⟩ hk;have hk':=zA0 (hk ({ tmps:=#[.agg #[.slice (some ad) fs.length c],.pointer (some ⟨w.heap.size,0,none⟩),.slice none 0 0,.pointer (some ⟨w.heap.size + 1,0,none⟩),undef,.pointer (some ⟨W.heap.size,0,none⟩),.pointer (some ⟨W.heap.size + 1,0,none⟩),.pointer (some ⟨X.heap.size,0,none⟩),undef,undef,.pointer (some ⟨w.heap.size,0,none⟩),.slice (some ad) fs.length c,.int .i64 (fs.length:Nat),.int .i64 (j:Nat),.bool true,.pointer (some (ad.add (j * 3))),.agg #[.string (a0V fs (j:Int)).f0,.slice A1 (a0V fs (j:Int)).f1.length c1,.slice A2 (a0V fs (j:Int)).f2.length c2],.pointer (some ⟨W.heap.size,2,none⟩),.slice A2 (a0V fs (j:Int)).f2.length c2,.func (.func 55) #[] #[.pointer (some ⟨W.heap.size + 1 + 1,0,none⟩)],.agg cs.toArray,undef,undef,undef,undef,undef,undef,undef,undef,undef,undef,undef,undef,undef,undef,undef,undef,undef,undef,undef,undef,undef,undef,undef,undef,undef,undef,undef,undef,undef,undef,undef,u52,u53,u54,u55,u56,u57,u58,u59,undef],defers:=[] }) _ ((KeepsOthers.alloc _ _).from _) ((Kp.refl _ _ _ X).alloc _ hG.be.size (fun b e =>by cases e;exact hG.bl.lt)) ⟨vl,hG.alloc _,by simp;omega,ha⟩ ⟨X.heap.size,hle,World.alloc_heap_new X (.cells cs.toArray 65),rfl⟩);clear hk hG;have hcs:=a3O (Kd.a6G hKs);dsimp only at hcs hKs hk';obtain ⟨A4,c4,A5,c5,A6,c6,A7,c7,rfl,_⟩:=hcs;rw [show ((#[20]:Array Tmp).zip (encE ⟨(s,_),hKs,hT⟩)) = #[(20,Value.agg #[Value.int IntKind.i64 s.f0,Value.string s.f1,Value.string s.f2,Value.string s.f3,Value.slice A4 s.f4.length c4,Value.slice A5 s.f5.length c5,Value.slice A6 s.f6.length c6,Value.slice A7 s.f7.length c7])] from by simp [encE]]
    gi_wp2
    exact hk'.out
   case body =>
    rintro lp pre ⟨⟨s,cs⟩,hKs,hT⟩ a' X hlp _ ⟨vl,hG,hle,ha⟩ ⟨Bv,hBv,hbv,rfl⟩ hlen;have hcs:=a3O (Kd.a6G hKs);dsimp only at hcs hKs hbv;obtain ⟨A4,c4,A5,c5,A6,c6,A7,c7,rfl,_⟩:=hcs;have b0:X.cell? ⟨Bv,0,none⟩ = some (.int .i64 s.f0):=by rw [a2T hbv];rfl
    have b3:X.cell? ⟨Bv,3,none⟩ = some (.string s.f3):=by rw [a2T hbv];rfl
    have cl:=hG.bl.cell;have fl:=hG.bl.frozen;have hWs:=HO.out.be.size;have npl:¬ w.heap.size = W.heap.size + 1:=by omega
    have cp:=hG.bp.cell;have HG:=zA0 hG;have hXs:=hG.be.size;clear hG;obtain ⟨L,hL⟩:∃ L,L = pre.map (fun x =>x.1.1):=⟨_,rfl⟩;rw [← hL] at HG ha;have hLl:L.length≤2000000:=by rw [hL,zU1];omega
    have HL:=zA0 (show (pre ++ [(⟨(s,_),hKs,hT⟩:Elt w (fun k =>k < w.heap.size) (fun s =>s ∈ flat (a0V fs (j:Int)).f2))]).map (fun x =>x.1.1) = L ++ [s] from by rw [hL];simp);have hcn:(coll fs L).length≤1000000000:=zF0 (b6B fs L) (zF0 hLl qB0);have HA:=zA0 ha;have hpost:∀ (e:Exit) (a:Act) (Z:World),c0U w (some ad) fs.length c (W.heap.size + 1) ds vo outs w1.heap.size fs (L ++ [s]) X e Z→ownPostG w1.heap.size (Kp w.heap.size w1.heap.size (some (W.heap.size + 1))) (fun pre X =>CI w (some ad) fs.length c (W.heap.size + 1) ds vo outs w1.heap.size fs (pre.map (·.1.1)) X) (fun cd pre X =>CX w (some ad) fs.length c ds outs w1.heap.size cd (pre.map (·.1.1)) X) (pre ++ [(⟨(s,_),hKs,hT⟩:Elt w (fun k =>k < w.heap.size) (fun s =>s ∈ flat (a0V fs (j:Int)).f2))]) X e a Z:=by
     intro e a Z h;cases e with
     | normal =>exact ⟨h.1,h.2.1,by show CI _ _ _ _ _ _ _ _ _ _ (List.map _ _) _;rw [HL.out];exact h.2.2⟩
     | exit id =>exact ⟨h.1,by show CX _ _ _ _ _ _ _ _ (List.map _ _) _;rw [HL.out];exact h.2⟩
     | ret =>exact h.elim
     | goto =>exact h.elim
     | panic =>exact h.elim
     | outgrown =>exact h.elim
    refine wpIn_mono ?_ hpost;clear hpost hL ha;by_cases h6:s.f0 = 6
    ·have h6':(s.f0 == 6) = true:=by simpa using h6
     have hap:applies (L ++ [s]) = true:=by simp [applies,h6]
     have HAP:=zA0 hap;clear h6 hap
     gi_wp2_with (fail)
     have hG1:=HG.out.clear.setL (.slice none 0 0);have hF1:=Fr.b3E X (W.heap.size + 1) (.slice none 0 0);have hB1:Below w.heap.size X (X.setCell ⟨W.heap.size + 1,0,none⟩ (.slice none 0 0)):=(zG0 _ _).setCell (p:=⟨W.heap.size + 1,0,none⟩) (by show w.heap.size≤W.heap.size + 1;omega) _;obtain ⟨X1,hX1⟩:∃ X1,X1 = X.setCell ⟨W.heap.size + 1,0,none⟩ (.slice none 0 0):=⟨_,rfl⟩;rw [← hX1] at hG1 hF1 hB1 ⊢;have HG1:=zA0 hG1;have HF1:=zA0 hF1;have HB1:=zA0 hB1;clear hX1 hG1 hF1 hB1 cl fl cp
     gi_loopg [28] fs.length (fun kq v28 Y =>∃ (i:Nat) (A9:Option Addr) (c9:Nat),i + kq = fs.length∧v28 = .int .i64 i∧Hid (GS w (some ad) fs.length c (W.heap.size + 1) ds Y (.slice A9 i c9) (.slice A9 i c9) (allIx i) vo outs)∧Hid (Fr (fun k =>k = W.heap.size + 1) X Y)∧Hid (∀ k,(Value.slice A9 i c9).ownBlock = some k→X.heap.size≤k))
     case atStart =>exact ⟨0,none,0,by omega,rfl,HG1,HF1,zA0 (fun k h =>by simp [Value.ownBlock] at h)⟩
     case round =>
      obtain ⟨i,A9,c9,hi,rfl,HG1,HF1,HN1⟩:=hrel;have cl:=HG1.out.bl.cell;have fl:=HG1.out.bl.frozen;by_cases hlt:i < fs.length
      ·have hw:=pz i qC0;obtain ⟨k1,rfl⟩:∃ k1,gk = k1 + 1:=⟨gk - 1,by omega⟩;have hal:(allIx i).length≤1000000000:=by rw [b4A];exact zF0 (zD2 hlt) (zF0 hl qB0)
       gi_wp2_with (gi_at_builtin;((refine a5P (i:Int) rfl (.tmp 31) (.tmp 33) rfl rfl rfl HG1.out hal ?_));rintro v2 W2 hg2 hb2 hf2 ha2 ⟨A8,c8,e9⟩;rw [b4A] at e9;subst e9;clear cl fl;have HG2:=zA0 hg2;have HF2:=zA0 hf2;have HA2:=zA0 ha2;have cl:=hg2.bl.cell;have fl:=hg2.bl.frozen;clear hg2 hb2 hf2 ha2)
       gi_roundg k1
       case measure =>exact zS0 _
       case rel =>exact ⟨i + 1,A8,c8,by rw [zY0,zJ1 1];exact hi,by first | rw [hw] | simp,zA0 (by rw [b7B];exact HG2.out.setL _),zA0 (fr_app HF1.out HN1.out HF2.out _),zA0 (own_app HN1.out HA2.out HF1.out.size)⟩
      ·have hie:i = fs.length:=by omega
       have co:=HG1.out.bo.cell;have fo:=HG1.out.bo.frozen;subst hie
       gi_wp2_with (gi_at_builtin;((refine a5O rfl (.tmp 36) (.tmp 38) rfl rfl rfl HG1.out (zF0 HOL qB0) ?_));rintro v2 W2 ⟨ho2,hb2,hk2⟩ hbx ⟨A8,c8,e9⟩;subst e9;clear co fo cl fl;have HO2:=zA0 ho2;have HK2:=zA0 hk2;have co:=hbx.cell;have fo:=hbx.frozen;clear ho2 hb2 hk2 hbx)
       have hkf:=((HF1.out.others (by rintro k o rfl ho;have h2:X.heap[W.heap.size + 1]? = _:=HG.out.bl;rw [h2] at ho;cases ho;rfl)).from w1.heap.size).trans (HK2.out.from _);exact ⟨hkf,rfl,_,HO2.out,zF0 hle hkf.size,HAP.out⟩
    ·have h6':(s.f0 == 6) = false:=by simpa using h6
     by_cases h5:s.f0 = 5
     ·have h5':(s.f0 == 5) = true:=by simpa using h5
      obtain ⟨q,hq⟩:∃ q,q = funIx fs s.f3:=⟨_,rfl⟩
      have hcall:∀ Y,Below w.heap.size w Y→Calls Tryz.prog 46 #[.agg #[.slice (some ad) fs.length c],.string s.f3] Y fun e Y' =>e = .returned (.int .i64 q)∧Below Y.heap.size Y Y':=fun Y hY =>by
       rw [hq];exact fun_any fs (some ad) c s.f3 Y hlc (Kd.a0H K0.out hY) hl
      have HC:=zA0 hcall;have hfn7:Fence.wide.fn 46:=trivial;have hbx:X.heap.size≤X.heap.size:=zJ0 _;by_cases h0:0≤q
      ·have h0':decide (q ≥ 0) = true:=by simpa using h0
       have h0'':decide (0≤q) = true:=by simpa using h0
       have hcb:Hid (calledBy fs s = [q]):=zA0 (by unfold calledBy;rw [if_pos ⟨h5,by rw [← hq];exact h0⟩,hq]);clear h6 h5 hcall hq
       gi_wp2_with (first
        | ((try refine ⟨fun h =>by simp [Fence.wide,Fence.inRound] at h,?_⟩);gi_at_call 46;((refine (CallsIn.inRound _ (callsIn_wide.2 (HC.out _ HG.out.be))).mono ?_));rintro e Y ⟨rfl,hb⟩;clear cl fl cp;have HB:=zA0 hb;have HGY:=zA0 (HG.out.below hb);have cl:=HGY.out.bl.cell;have fl:=HGY.out.bl.frozen;clear hb)
        | (gi_at_builtin;((refine a5P q rfl (.tmp 48) (.tmp 50) rfl rfl rfl HGY.out hcn ?_));rintro v2 W2 hg2 hb2 hf2 ha2 ⟨A8,c8,e9⟩;subst e9;clear cl fl;have HG2:=zA0 hg2;have HB2:=zA0 hb2;have HF2:=zA0 hf2;have HA2:=zA0 ha2;have cl:=hg2.bl.cell;have fl:=hg2.bl.frozen;clear hg2 hb2 hf2 ha2))
       exact CI.more HG.out hle HA.out h6' hcb.out qC0 HB.out hXs HG2.out HF2.out HB2.out HA2.out
      ·have h0':decide (q ≥ 0) = false:=by simpa using h0
       have h0'':decide (0≤q) = false:=by simpa using h0
       have hcb:Hid (calledBy fs s = []):=zA0 (by unfold calledBy;rw [if_neg (fun e =>h0 (by rw [hq];exact e.2))]);clear h6 h5 hcall hq
       gi_wp2_with (first
        | ((try refine ⟨fun h =>by simp [Fence.wide,Fence.inRound] at h,?_⟩);gi_at_call 46;((refine (CallsIn.inRound _ (callsIn_wide.2 (HC.out _ HG.out.be))).mono ?_));rintro e Y ⟨rfl,hb⟩;clear cl fl cp;have HB:=zA0 hb;clear hb))
       exact CI.same HG.out hle HA.out h6' hcb.out qC0 HB.out hXs
     ·have h5':(s.f0 == 5) = false:=by simpa using h5
      have hcb:Hid (calledBy fs s = []):=zA0 (by unfold calledBy;rw [if_neg (fun e =>h5 e.1)]);clear h6 h5
      gi_wp2
      exact CI.same HG.out hle HA.out h6' hcb.out qC0 (zG0 _ _) hXs
   case done =>
    rintro D ys X hD hys ⟨vl,hG,hle,ha⟩ hDX;rw [hys] at hG ha;have hco:callsOf fs F = Lib.compact (srt (coll fs (flat (a0V fs (j:Int)).f2))):=by rw [HF.out];unfold callsOf;rw [if_neg (by rw [ha];simp)]
    obtain ⟨xs,hxs⟩:∃ xs,xs = coll fs (flat (a0V fs (j:Int)).f2):=⟨_,rfl⟩;have hxl:xs.length < 4611686018427387904:=by rw [hxs];exact Nat.lt_of_le_of_lt (b6B _ _) (Nat.lt_of_le_of_lt hflen qB0)
    rw [← hxs] at hG hco;have HCO:=zA0 hco;have HG:=zA0 hG;have cl:=hG.bl.cell;have hfn8:Fence.wide.fn 47:=trivial;have hfn9:Fence.wide.fn 48:=trivial;have HDX:=zA0 hDX;have HXL:=zA0 hxl;clear hG hxs hco hDX ha hys hxl
    gi_wp2_with ((try refine ⟨fun _ =>by decide,?_⟩);gi_at_call 47;((refine (callsIn_wide.2 (b1L xs vl w.heap.size X HG.out.rl HXL.out)).mono ?_));rintro e Y ⟨rfl,hr,hg⟩;have hrs:=(b1K xs);have HGY:=zA0 (HG.out.row (ys:=srt xs) (by rw [b1K];exact hr) hg (.inl rfl));have HGR:=zA0 hg;clear hr hg hrs cl)
    refine wpIn_region_any mixed ?_;refine a1X _ (fun _ =>undef) (fun done val Z =>S22 w (some ad) fs.length c (W.heap.size + 1) ds vo vl (srt xs) (Lib.compact (srt xs)) outs Y done val Z) rfl qF0 _ ?hz ?step22 ?end22
    case hz =>
     have hb:Below Y.heap.size Y { Y with drawn:=Y.drawn + 1 }:=(zG0 Y.heap.size Y).drew;exact ⟨by simp,by simp,by simp,by simp,by simp,by simp,fun _ =>⟨HGY.out.below hb,(Fr.a3W (fun _ =>False) hb).others (fun _ _ h =>h.elim)⟩,by simp,by simp,by simp,by simp⟩
    case step22 =>
     intro i o done val a Z ho hdn hdep hag hS K2 hK2;have hi:i < 6:=by
      by_cases h:i < 6
      ·exact h
      ·rw [Array.getElem?_eq_none qV0] at ho;cases ho
     obtain rfl | rfl | rfl | rfl | rfl | rfl:i = 0∨i = 1∨i = 2∨i = 3∨i = 4∨i = 5:=by omega
     ·cases ho;have e:a.eval (.tmp 3) = .pointer (some ⟨w.heap.size + 1,0,none⟩):=hag.keep 3 rfl;have hc:=(hS.bo (hS.n4 hdn)).cell;refine a0R (i:=0) (r:=vo) rfl rfl (fun c h =>by cases h) rfl ?_ (hK2 _ _ (hS.do0 hdn));generalize a.eval = ev at e;simp [execOp,e,go_sem,hc]
     ·cases ho;have e:a.eval (.tmp 6) = .pointer (some ⟨W.heap.size + 1,0,none⟩):=hag.keep 6 rfl;have hc:=(hS.s1 (hS.n2 hdn)).1.bl.cell;refine a0R (i:=1) (r:=vl) rfl rfl (fun c h =>by cases h) rfl ?_ (hK2 _ _ (hS.do1 hdn));generalize a.eval = ev at e;simp [execOp,e,go_sem,hc]
     ·cases ho;have h1:=hdep ⟨1,.data⟩ qE0 rfl;have e:a.eval (.tmp 55) = vl:=(hag.val_ (j:=1) (t:=55) rfl h1).trans (hS.v1 h1);obtain ⟨hg1,hk1⟩:=hS.s1 hdn;refine a8U rfl ?_;refine b2N (f:=48) (R:=fun e w2 =>∃ v',e = .returned v'∧w2.ownsRow w.heap.size 3 1 v' (Lib.compact (srt xs)).length ((Lib.compact (srt xs)).map (Value.int .i64))∧Z.grownBy w2 vl.ownBlock∧v'.ownBlock = vl.ownBlock) rfl rfl (fun _ _ =>rfl) ?_ ?_
      ·simp only [zK2,zI2,zN2,e];exact a9T (srt xs) vl w.heap.size Z hg1.rl (by rw [b1K];exact HXL.out)
      ·rintro e' w2 ⟨v',rfl,hr,hg,hob⟩;have hg2:=hg1.row (ys:=Lib.compact (srt xs)) hr hg (.inl hob);refine ⟨v',rfl,hK2 _ _ (hS.do2 hdn h1 v' w2 hg2 (hk1.trans ((Fr.a6L hg).others ?_)))⟩;intro k o hk ho;obtain ⟨cs,hcs⟩:=a1S hg1.rl k hk.symm;rw [hcs] at ho;cases ho;rfl
     ·cases ho;have h2:=hdep ⟨2,.data⟩ qE0 rfl;have e:a.eval (.tmp 56) = val 2:=hag.val_ (j:=2) (t:=56) rfl h2;obtain ⟨hg1,hk1⟩:=hS.s2 h2 hdn;obtain ⟨A7,n7,c7,e7⟩:=b3A hg1.rl;refine a0R (i:=3) (r:=.slice (some ⟨Z.heap.size,0,none⟩) 1 1) (w':=Z.alloc (.cells #[val 2] 43)) rfl rfl (fun c h =>by cases h) rfl ?_ (hK2 _ _ (hS.do3 hdn h2));rw [e7] at e;generalize a.eval = ev at e;simp [execOp,e,go_sem,e7]
     ·cases ho;have h0:=hdep ⟨0,.data⟩ qE0 rfl;have h3:=hdep ⟨3,.data⟩ qE0 rfl;have e:a.eval (.tmp 54) = vo:=(hag.val_ (j:=0) (t:=54) rfl h0).trans (hS.v0 h0);obtain ⟨Z0,rfl,e3,hg1,hk1⟩:=hS.s3 h3 hdn;have e4:a.eval (.tmp 57) = .slice (some ⟨Z0.heap.size,0,none⟩) 1 1:=(hag.val_ (j:=3) (t:=57) rfl h3).trans e3;refine a8U rfl ?_;refine a5O rfl (.tmp 54) (.tmp 57) rfl e e4 hg1 (zF0 HOL qB0) ?_;rintro v2 W2 ⟨ho2,hb2,hk2⟩ hbx hv;exact hK2 _ _ (hS.do4 hdn h3 h0 v2 W2 hv ho2 (hk1.trans hk2) hbx)
     ·cases ho;have h4:=hdep ⟨4,.data⟩ qE0 rfl;have e:a.eval (.tmp 3) = .pointer (some ⟨w.heap.size + 1,0,none⟩):=hag.keep 3 rfl;have e4:a.eval (.tmp 58) = val 4:=hag.val_ (j:=4) (t:=58) rfl h4;obtain ⟨⟨A',c',hv⟩,ho4,hk4,hb4⟩:=hS.s4 h4 hdn;have hc:=hb4.cell;have hf:=hb4.frozen;refine a1Z (i:=5) rfl rfl (fun c h =>by cases h) rfl (w':=Z.setCell ⟨w.heap.size + 1,0,none⟩ (val 4)) ?_ (hK2 _ _ (hS.do5 hdn h4 _));rw [hv] at e4 ⊢;generalize a.eval = ev at e e4;simp [execOp,e,e4,go_sem,hc,hf]
    case end22 =>
     intro Z done val hdn hS;obtain ⟨v9,hO9,hk9⟩:=hS.s5 (hdn 5 qB0);have hDZ:Z.heap[D]? = some (.deferred (some [])):=by
      refine hk9.same D _ ?_ rfl;rw [HGR.out.block D (Array.getElem?_eq_some_iff.1 HDX.out).1 (fun e =>by obtain ⟨cs,hcs⟩:=a1S HG.out.rl D e.symm;rw [HDX.out] at hcs;cases hcs)];exact HDX.out
     have HO9:=zA0 (hO9.cons (zF0 hwsz hD) hDZ);clear hO9 hk9 hDZ hS;simp only [putTmps,dstOf,zQ1,zR0,zI1,Nat.reduceAdd,zS1,zF1,zL1,zU0,zL0,zV0,zW0];obtain ⟨k1,rfl⟩:∃ k1,k = k1 + 1:=⟨k - 1,by omega⟩
     gi_wp2
     refine ⟨k1,zS0 _,hJ _ _ _ ⟨j + 1,D :: ds,v9,_,_,_,_,_,_,_,_,_,_,_,_,_,_,_,_,_,by omega,?_,rfl,?_,?_⟩⟩
     ·first | rfl | rw [hkk] | simp [hkk]
     ·rw [HTK.out,HCO.out];exact HO9
     ·exact zA0 (List.nodup_cons.2 ⟨fun h =>by have:=hdl D h;omega,HD.out⟩)
   case stop =>
    rintro D cd pre X hD ⟨q,hq⟩ ⟨rfl,vo',hO,hle,ha⟩ hDX;have hap:=b5A hq ha;have hco:callsOf fs F = allIx fs.length:=by rw [HF.out];unfold callsOf;rw [if_pos hap]
    have HO9:=zA0 (hO.cons (zF0 hwsz hD) hDX);have HCO:=zA0 hco;clear hO hco hap hq ha hDX;obtain ⟨k1,rfl⟩:∃ k1,k = k1 + 1:=⟨k - 1,by omega⟩
    gi_wp2
    refine ⟨k1,zS0 _,hJ _ _ _ ⟨j + 1,D :: ds,vo',_,_,_,_,_,_,_,_,_,_,_,_,_,_,_,_,_,by omega,?_,rfl,?_,?_⟩⟩
    ·first | rfl | rw [hkk] | simp [hkk]
    ·rw [HTK.out,HCO.out];exact HO9
    ·exact zA0 (List.nodup_cons.2 ⟨fun h =>by have:=hdl D h;omega,HD.out⟩)
  ·have hje:j = fs.length:=by omega
   have co:=HO.out.bo.cell;have hout:(fs.take j).map (callsOf fs) = callsF fs:=by rw [hje,zN1];rfl
   rw [hout] at HO;have HO9:=HO;clear hout hJ hK
   gi_wp2
   refine b0T w.heap.size (fun Z =>OS w A fs.length c [] Z vo (callsF fs)) ?_ ?_ ds W ⟨HO9.out.be,HO9.out.bp,HO9.out.bo,HO9.out.ro,fun _ h =>by cases h⟩ HD.out HO9.out.df
   ·intro Z D hZ hB hD;exact hZ.turn (zJ0 _) (fun _ h =>by cases h) (grownBy_putObj' Z D _) (fun r e =>by cases e;exact ⟨hB,_,hD,rfl⟩)
   ·intro Z hZ;exact ⟨_,results_tmp rfl _ _ _,vo,rfl,hZ.ro,hZ.be⟩
open Go.Lib Go.Sort
def ownG (s:S65):List ByteArray:=if s.f0 = 3 then [s.f3] else []
def ownF (f:S34):List ByteArray:=unionF ((flat f.f2).flatMap ownG) []
theorem b1T (s:S65):(ownG s).length≤1:=by unfold ownG;split <;> simp
theorem b8S (w:World) (f:S34) (A1 A2:Option Addr) (c1 c2:Nat) (l2:f.f2.length≤c2) (g2:Kd.C k65 w A2 f.f2.length f.f2) (hfit:(flat f.f2).length≤1050000) :
  Calls Tryz.prog 11 #[.agg #[.string f.f0,.slice A1 f.f1.length c1,.slice A2 f.f2.length c2]] w fun e w' =>∃ v,e = .returned v∧Kd.R Kd.string 9 w' w.heap.size (fun _ =>True) v (ownF f)∧Below w.heap.size w w':=by
 refine (callsIn_wide (n:=5)).1 ?_;refine callsIn_of_wp_marks Tryz.func11 rfl trivial ?_ rfl
 simp only [Tryz.ntmps11,zQ1,zR0,zI1,Nat.reduceAdd,Nat.reduceSub,zH3,zI3,zP3,zL3,zJ2,zK3];have hfn:Fence.wide.fn 33:=trivial;have hfn3:Fence.wide.fn 15:=trivial;have G2:=zA0 g2;have HFN:=zA0 hfit;clear g2 hfit
 gi_wp2_with ((try refine ⟨fun _ =>by decide,?_⟩);gi_at_call 33;refine (b5O _ _ rfl _).mono ?_;rintro e w' ⟨rfl,rfl⟩)
 obtain ⟨Y,hY⟩:∃ Y,Y = w.alloc (Obj.cells #[Value.string f.f0,Value.slice A1 f.f1.length c1,Value.slice A2 f.f2.length c2] 34):=⟨_,rfl⟩;obtain ⟨w1,hw1⟩:∃ w1,w1 = ((w.alloc (Obj.cells #[Value.string f.f0,Value.slice A1 f.f1.length c1,Value.slice A2 f.f2.length c2] 34)).alloc (Obj.cells #[Value.slice none 0 0] 25)).alloc (Obj.cells #[Value.slice A2 f.f2.length c2] 32):=⟨_,rfl⟩;rw [← hw1];rw [← hY] at hw1;have hbY:Below w.heap.size w Y:=by rw [hY];exact a0D (zG0 _ _) _
 have hsY:Y.heap.size = w.heap.size + 1:=by rw [hY];simp
 have hb1:Below Y.heap.size Y w1:=by rw [hw1];exact a0D (a0D (zG0 _ _) _) _
 have hs1:w1.heap.size = w.heap.size + 3:=by rw [hw1];simp [hsY]
 have hbn:Boxed w1 (w.heap.size + 1) 25 (.slice none 0 0):=by rw [hw1,← hsY];exact (Boxed.new Y _ _).alloc _
 have hbt:w1.cell? ⟨w.heap.size + 2,0,none⟩ = some (.slice A2 f.f2.length c2):=by
  rw [hw1];have:=(Boxed.new (Y.alloc (Obj.cells #[Value.slice none 0 0] 25)) 32 (Value.slice A2 f.f2.length c2)).cell;simp only [World.size_alloc,hsY] at this;exact this
 have hbe:Below w.heap.size w w1:=hbY.trans (hb1.mono qC0);have hV1:VS w (w.heap.size + 1) [] w1 (.slice none 0 0) (.slice none 0 0) []:=⟨hbe,hbn,by omega,World.ownsRow_nil _ _ _ _,fun _ h =>by cases h⟩;clear hw1 hb1 hbn hbe hbY hsY hY;have H1:=zA0 hV1;have hw1s:=hV1.be.size;have hs1a:w.heap.size + 1 < w1.heap.size:=by omega
 have hs1b:w.heap.size + 2 < w1.heap.size:=by omega
 clear hV1 hs1;refine rangeAll (w:=w) (P:=fun k =>k < w.heap.size) (T:=fun s =>s ∈ flat f.f2) (n:=5) qB0 f.f2 A2 c2 l2 (fun _ h =>h) (Kd.C_F a8O G2.out) H1.out.be (w.heap.size + 2) hs1b hbt rfl (some (w.heap.size + 1)) (fun b e =>by cases e;exact hs1a) (fun k h =>by simp only [rowOf,zU0,H1.out.bl.cell] at h;exact a5W H1.out.rl k h) rfl
  (fun pre X =>CV w (w.heap.size + 1) [] ownG [] w1.heap.size (pre.map (·.1.1)) X)
  (fun cd pre X =>False)
  ?own1 ?own2 ⟨_,by simpa using H1.out,zJ0 _⟩
  (VarBx w1.heap.size fun Bv x =>{ tmps:=#[.agg #[.string f.f0,.slice A1 f.f1.length c1,.slice A2 f.f2.length c2],.pointer (some ⟨w.heap.size,0,none⟩),.slice none 0 0,.pointer (some ⟨w.heap.size + 1,0,none⟩),.pointer (some ⟨Bv,0,none⟩),.pointer (some ⟨w.heap.size,2,none⟩),.slice A2 f.f2.length c2,.func (.func 55) #[] #[.pointer (some ⟨w.heap.size + 2,0,none⟩)],.agg x.1.2.toArray,undef,undef,undef,undef,undef,undef,undef,undef,undef,undef],defers:=[] })
  (fun x a' =>VarBx.own _ _ _ _) ?assign ?body ?done ?stop
 case own1 =>
  rintro pre X Z row ⟨v,h,hle⟩ hg hr;exact ⟨v,h.turn hw1s (fun _ h =>by cases h) hg hr,zF0 hle hg.size⟩
 case own2 =>exact fun _ _ _ _ _ h _ _ =>h.elim
 case assign =>
  rintro lp pre ⟨⟨s,cs⟩,hKs,hT⟩ X K2 ⟨v,hG,hle⟩ hk;have hk':=zA0 (hk ({ tmps:=#[.agg #[.string f.f0,.slice A1 f.f1.length c1,.slice A2 f.f2.length c2],.pointer (some ⟨w.heap.size,0,none⟩),.slice none 0 0,.pointer (some ⟨w.heap.size + 1,0,none⟩),.pointer (some ⟨X.heap.size,0,none⟩),.pointer (some ⟨w.heap.size,2,none⟩),.slice A2 f.f2.length c2,.func (.func 55) #[] #[.pointer (some ⟨w.heap.size + 2,0,none⟩)],.agg cs.toArray,undef,undef,undef,undef,undef,undef,undef,undef,undef,undef],defers:=[] }) _ ((KeepsOthers.alloc _ _).from _) ((Kp.refl _ _ _ X).alloc _ hG.be.size (fun b e =>by cases e;exact hG.bl.lt)) ⟨v,hG.below (a0D (zG0 _ _) _),by simp;omega⟩ ⟨X.heap.size,hle,World.alloc_heap_new X (.cells cs.toArray 65),rfl⟩);clear hk hG;have hcs:=a3O (Kd.a6G hKs);dsimp only at hcs hKs hk';obtain ⟨A4,c4,A5,c5,A6,c6,A7,c7,rfl,_⟩:=hcs;rw [show ((#[8]:Array Tmp).zip (encE ⟨(s,_),hKs,hT⟩)) = #[(8,Value.agg #[Value.int IntKind.i64 s.f0,Value.string s.f1,Value.string s.f2,Value.string s.f3,Value.slice A4 s.f4.length c4,Value.slice A5 s.f5.length c5,Value.slice A6 s.f6.length c6,Value.slice A7 s.f7.length c7])] from by simp [encE]]
  gi_wp2
  exact hk'.out
 case body =>
  rintro lp pre ⟨⟨s,cs⟩,hKs,hT⟩ a' X hlp hlr ⟨v,hV,hle⟩ ⟨Bv,hBv,hbv,rfl⟩ hlen;have hcs:=a3O (Kd.a6G hKs);dsimp only at hcs hKs hbv hT;obtain ⟨A4,c4,A5,c5,A6,c6,A7,c7,rfl,_⟩:=hcs;have hbk:Blk X Bv 65 #[Value.int IntKind.i64 s.f0,Value.string s.f1,Value.string s.f2,Value.string s.f3,Value.slice A4 s.f4.length c4,Value.slice A5 s.f5.length c5,Value.slice A6 s.f6.length c6,Value.slice A7 s.f7.length c7]:=hbv;obtain ⟨L,hL⟩:∃ L,L = pre.map (·.1.1):=⟨_,rfl⟩;have hLl:L.length≤1050000:=by rw [hL,zU1];exact zF0 (zD2 hlen) HFN.out
  rw [← hL] at hV;have hpost:∀ (e:Exit) (a:Act) (Z:World),PV w w1 (w.heap.size + 1) [] ownG [] (L ++ [s]) X e Z→ownPostG w1.heap.size (Kp w.heap.size w1.heap.size (some (w.heap.size + 1))) (fun pre X =>CV w (w.heap.size + 1) [] ownG [] w1.heap.size (pre.map (·.1.1)) X) (fun cd pre X =>False) (pre ++ [(⟨(s,_),hKs,hT⟩:Elt w (fun k =>k < w.heap.size) (fun s =>s ∈ flat f.f2))]) X e a Z:=by
   intro e a Z h;have e0:(pre ++ [(⟨(s,_),hKs,hT⟩:Elt w (fun k =>k < w.heap.size) (fun s =>s ∈ flat f.f2))]).map (·.1.1) = L ++ [s]:=by rw [List.map_append,hL];rfl
   cases e with
   | normal =>exact ⟨h.1,h.2.1,by show CV _ _ _ _ _ _ (List.map _ _) _;rw [e0];exact h.2.2⟩
   | ret =>exact h.elim
   | exit =>exact h.elim
   | goto =>exact h.elim
   | panic =>exact h.elim
   | outgrown =>exact h.elim
  refine wpIn_mono ?_ hpost;clear hpost hL hbv hlen;have cb0:=hbk.cell 0;have cb3:=hbk.cell 3;obtain ⟨XS,hXS⟩:∃ XS,XS = [] ++ L.flatMap ownG:=⟨_,rfl⟩;have hxl:XS.length≤1050000:=by
   have h1:=fm_len ownG 1 L (fun s' _ =>b1T s');rw [hXS,zJ2];omega
  rw [← hXS] at hV;have H2:=zA0 hV;have HX1:=zA0 (show XS.length + [s.f3].length≤8000000000000 from zF0 (Nat.add_le_add hxl (zJ0 1)) qB0);have HXS:=zA0 hXS;clear hxl hXS;have cl:=hV.bl.cell;have fl:=hV.bl.frozen;have hXw:=hV.be.size;have HBK:=zA0 hbk;clear hV hbk;by_cases h3:s.f0 = 3
  ·have h3b:(s.f0 == 3) = true:=by simpa using h3
   have hg3:ownG s = [s.f3]:=by unfold ownG;rw [if_pos h3]
   have HG3:=zA0 hg3;clear h3 hg3
   gi_wp2_with (gi_at_builtin;((refine a7Q [s.f3] (some ⟨X.heap.size,0,none⟩) 1 rfl (.tmp 12) (.tmp 15) rfl rfl rfl (lit_C X [s.f3] qE0) (H2.out.below (a0D (zG0 _ _) _)) HX1.out ?_));rintro v1 W1 hg hbe hf hat ⟨A',n',c',e'⟩;subst e';clear cl fl;have HG1:=zA0 hg;have HB1:=zA0 hbe;have HF1:=zA0 hf;have HA1:=zA0 hat;have cl:=hg.bl.cell;have fl:=hg.bl.frozen;clear hg hbe hf hat cb0 cb3)
   obtain ⟨hS1,hk1,hp1,hz1⟩:=VS.step H2.out (a0D (zG0 X.heap.size X) (Obj.cells ([s.f3].map Value.string).toArray 9)) HG1.out HF1.out HB1.out HA1.out hs1a;exact ⟨hk1,hp1,_,by rw [List.flatMap_append,← zU2,← HXS.out];simpa [HG3.out] using hS1,zF0 hle hz1⟩
  ·have h3b:(s.f0 == 3) = false:=by simpa using h3
   have hg3:ownG s = []:=by unfold ownG;rw [if_neg h3]
   have HG3:=zA0 hg3;clear h3 hg3
   gi_wp2
   exact ⟨KeepsFrom.refl _ _,Kp.refl _ _ _ X,_,by rw [List.flatMap_append,← zU2,← HXS.out];simpa [HG3.out] using H2.out,hle⟩
 case done =>
  rintro D ys X hD hys ⟨v,hV,hle⟩ hDX;rw [hys,zJ2] at hV;have hxl:((flat f.f2).flatMap ownG).length≤1050000:=by
   have h1:=fm_len ownG 1 (flat f.f2) (fun s' _ =>b1T s');have:=HFN.out;omega
  have hown:ownF f = unionF ((flat f.f2).flatMap ownG) []:=rfl;generalize (flat f.f2).flatMap ownG = XS at hV hxl hown;have cl:=hV.bl.cell;obtain ⟨A',c',ev,_,hCv⟩:=Kd.a2R (Kd.a2W (ok:=fun _ =>True) hV.rl (fun _ _ =>trivial));subst ev;have hu:Calls Tryz.prog 15 #[.slice A' XS.length c',.slice none 0 0] X fun e w' =>∃ v,e = .returned v∧Kd.R Kd.string 9 w' X.heap.size (fun _ =>True) v (unionF XS [])∧Below X.heap.size X w':=a7D XS [] hxl (zG2 _) A' none c' 0 X hCv (Kd.c0X _ _)
  rw [← hown] at hu;have HU:=zA0 hu;have HV:=zA0 hV;have HDX:=zA0 hDX;clear hV hys hDX hxl hCv hu hown
  gi_wp2_with ((try refine ⟨fun _ =>by decide,?_⟩);gi_at_call 15;((refine (callsIn_wide.2 HU.out).mono ?_));rintro e Z ⟨v',rfl,hr,hb⟩;have HR:=zA0 hr;have HB:=zA0 hb;clear hr hb cl)
  have hbZ:Below w.heap.size w Z:=HV.out.be.trans (HB.out.mono HV.out.be.size);have hDZ:Z.heap[D]? = some (.deferred (some [])):=by
   rw [HB.out.block D (Array.getElem?_eq_some_iff.1 HDX.out).1];exact HDX.out
  have hRZ:Z.ownsRow w.heap.size 9 1 v' (ownF f).length ((ownF f).map Value.string):=b8R (Kd.a2C HR.out) HV.out.be.size;refine b0T w.heap.size (fun Q =>Q.ownsRow w.heap.size 9 1 v' (ownF f).length ((ownF f).map Value.string)∧Below w.heap.size w Q) ?_ ?_ [D] Z ⟨hRZ,hbZ⟩ qE0 (fun E hE =>by obtain rfl:=zA1.1 hE;exact ⟨zF0 hw1s hD,hDZ⟩)
  ·intro Q E hQ hB hE;refine ⟨a3N hQ.1 (fun k hk =>(grownBy_putObj' Q E _).block k (a5W hQ.1 k hk) (fun e =>by cases e;obtain ⟨cs,hcs⟩:=a1S hQ.1 _ hk;rw [hE] at hcs;cases hcs)),hQ.2.grown (grownBy_putObj' Q E _) hQ.2.size (fun k e =>by cases e;exact hB)⟩
  ·intro Q hQ;exact ⟨_,results_tmp rfl _ _ _,v',rfl,Kd.a2W hQ.1 (fun _ _ =>trivial),hQ.2⟩
 case stop =>exact fun _ _ _ _ _ _ h _ =>h.elim
open Go.Proofs.YthhgfncliffggaaGreatW.PrintMore
def allF (l:List S42):List ByteArray:=unionF (l.flatMap (·.f2)) []
theorem all_any (l:List S42) (A:Option Addr) (c:Nat) (w:World) (hC:Kd.C k42 w A l.length l) (hl:l.length≤1050000) (hs:(l.flatMap (·.f2)).length≤1050000) :
  Calls Tryz.prog 17 #[.slice A l.length c] w fun e w' =>∃ v,e = .returned v∧Kd.R Kd.string 9 w' w.heap.size (fun _ =>True) v (allF l)∧Below w.heap.size w w':=by
 have HC:=zA0 hC;have HS:=zA0 hs;have HL:=zA0 hl;clear hC hs;go_enter Tryz.func17,Tryz.ntmps17
 go_upto_region 3 with (fail)
 go_loopg [3,8] l.length (fun kq v3 v8 w' =>∃ (i:Nat),i + kq = l.length∧v8 = .int .i64 (i:Nat)∧Hid (Kd.R Kd.string 9 w' w.heap.size (fun _ =>True) v3 ((l.take i).flatMap (·.f2)))∧Hid (Below w.heap.size w w'))
 case atStart =>exact ⟨0,by omega,rfl,zA0 (by simpa using Kd.b0E _ _ _ _ _),zA0 (zG0 _ _)⟩
 case round =>
  obtain ⟨i,hi',rfl,HR,HB⟩:=hrel;by_cases hi:i < l.length
  ·obtain ⟨ad,A2,c2,eA,x0,x1,x2,l2,g2⟩:=b1A (Kd.a0H HC.out HB.out) (i:Int) (zH0 i) (zW1.2 hi);subst eA;rw [zK0] at x0 x1 x2;have hrd:a2X l (i:Int) = l[i]:=by unfold a2X;rw [zK0,zE0,zD0 hi];rfl
   have htk:(l.take (i + 1)).flatMap (·.f2) = (l.take i).flatMap (·.f2) ++ (a2X l (i:Int)).f2:=by
    rw [zB1 hi,List.flatMap_append,hrd];simp
   have hbd:((l.take i).flatMap (·.f2)).length + (a2X l (i:Int)).f2.length≤1050000:=by
    rw [← zO0,← htk];refine zF0 ?_ HS.out
    conv =>rhs;rw [← List.take_append_drop (i + 1) l,List.flatMap_append,zO0]
    exact Nat.le_add_right _ _
   have hw:=pz i qC0;have hi0:(0:Int)≤(i:Int):=zH0 i;obtain ⟨k1,rfl⟩:∃ k1,gk = k1 + 1:=⟨gk - 1,by omega⟩;have hba:Below wr.heap.size wr (wr.alloc (.cells #[.string (a2X l (i:Int)).f0,.int .i64 (a2X l (i:Int)).f1,.slice A2 (a2X l (i:Int)).f2.length c2] 42)):=a0D (zG0 _ _) _;have HRA:=zA0 (Kd.a5M HR.out hba);have HBA:=zA0 (HB.out.trans (hba.mono HB.out.size));have HG2:=zA0 (Kd.a0H g2 hba);have HTK:=zA0 htk;have HBD:=zA0 hbd;clear hba g2 htk hrd l2 hbd;go_wp2_with (first | ((with_reducible refine a0N (N:=15) rfl ?_);(refine Kd.a6F (w0:=w) Value.string ByteArray.empty (h1:=fun _ =>rfl) w.heap.size rfl (.tmp 12) (.tmp 14) 25 9 (.string ⟨#[]⟩) 16 rfl Tryz.underlying25 b4R rfl qB0 _ _ (a2X l (i:Int)).f2 A2 (a2X l (i:Int)).f2.length c2 (fun _ =>True) ?hs ?hx (fun _ _ =>trivial) HRA.out HG2.out HBA.out HBA.out.size (by have:=HBD.out;omega) ?_;(case hs =>first | (go_simp;done) | (go_simp;rfl));(case hx =>first | (go_simp;done) | (go_simp;rfl));intro v2 w2 ho hb hg hat;have HO2:=zA0 ho;have HB2:=zA0 hb;clear ho hb hg hat)));go_roundg k1
   case measure =>exact zS0 _
   case rel =>exact ⟨i + 1,by rw [zY0,zJ1 1];exact hi',by first | rw [hw] | simp [hw],zA0 (by rw [HTK.out];exact HO2.out),HB2⟩
  ·have hie:i = l.length:=by omega
   have hr:=HR.out;rw [hie,zN1] at hr;have hall:allF l = unionF (l.flatMap (·.f2)) []:=rfl;have hs:=HS.out;generalize l.flatMap (·.f2) = XS at hr hall hs;obtain ⟨A',c',ev⟩:=Kd.a3D hr;obtain ⟨A1,c1,e1,_,hCv⟩:=Kd.a2R hr;rw [ev] at e1;cases e1;subst ev;have hu:Calls Tryz.prog 15 #[.slice A' XS.length c',.slice none 0 0] wr fun e w' =>∃ v,e = .returned v∧Kd.R Kd.string 9 w' wr.heap.size (fun _ =>True) v (unionF XS [])∧Below wr.heap.size wr w':=a7D XS [] hs (zG2 _) A' none c' 0 wr hCv (Kd.c0X _ _)
   rw [← hall] at hu;have HU:=zA0 hu;clear hu hall hs hr hCv;go_wp2_with (first | (go_at_call 15;(refine HU.out.mono ?_;rintro z w2 ⟨v2,rfl,hr2,hb2⟩;have HR2:=zA0 hr2;have HB2:=zA0 hb2;clear hr2 hb2)));go_ret;exact ⟨v2,rfl,Kd.a4J HR2.out HB.out.size,HB.out.trans (HB2.out.mono HB.out.size)⟩
abbrev Nm14:=List UInt8
theorem b0Z (x:ByteArray):(⟨(x.data.toList).toArray⟩:ByteArray) = x:=by cases x;rfl
theorem b3U (xs:List Nm14):(Lib.compact (srtS xs)).Pairwise (· < ·)∧∀ y,y ∈ Lib.compact (srtS xs) ↔ y ∈ xs:=by
 have hp:(srtS xs).Perm xs:=List.mergeSort_perm _ _;have ht:∀ a b c:List UInt8,decide (a≤b) = true→decide (b≤c) = true→decide (a≤c) = true:=fun a b c h1 h2 =>zI0 (List.le_trans (zB0 h1) (zB0 h2))
 have hto:∀ a b:List UInt8,(decide (a≤b) || decide (b≤a)) = true:=fun a b =>by rcases List.le_total (α:=UInt8) a b with h | h <;> simp [h]
 have hs:(srtS xs).Pairwise (fun a b =>decide (a≤b) = true):=List.pairwise_mergeSort (le:=fun a b:List UInt8 =>decide (a≤b)) ht hto _;constructor
 ·have hr:=a7N (srtS xs) (fun a b =>a≤b) (fun a b h1 h2 =>List.le_antisymm h1 h2) (fun i j hi hj hij =>by
   rcases zQ2 i j with h | h
   ·exact zB0 (List.pairwise_iff_getElem.1 hs i j hi hj h)
   ·obtain rfl:i = j:=Nat.le_antisymm hij h
    exact List.le_refl _)
  exact hr.imp fun {a b} h =>List.not_le.1 (fun e =>h.2 (List.le_antisymm h.1 e))
 ·intro y;rw [a9U,hp.mem_iff]
def RisB (l:List ByteArray):Prop:=(l.map (·.data.toList)).Pairwise (· < ·)
theorem b0Y (xs:List ByteArray):(capB xs).map (·.data.toList) = Lib.compact (srtS (xs.map (·.data.toList))):=by
 unfold capB;rw [List.map_map]
 conv =>rhs;rw [← List.map_id (Lib.compact (srtS (xs.map (·.data.toList))))]
 apply List.map_congr_left;intro x _
 rfl
theorem b6Z (xs:List ByteArray):RisB (capB xs):=by unfold RisB;rw [b0Y];exact (b3U _).1
theorem a9X {a b:ByteArray} (h:a.data.toList = b.data.toList):a = b:=by
 rw [← b0Z a,← b0Z b,h]
theorem b3J {l:List ByteArray} {x:ByteArray}:x.data.toList ∈ l.map (·.data.toList) ↔ x ∈ l:=by
 rw [zW2];exact ⟨fun ⟨y,hy,e⟩ =>a9X e ▸ hy,fun h =>⟨x,h,rfl⟩⟩
theorem capB_mem {xs:List ByteArray} {x:ByteArray}:x ∈ capB xs ↔ x ∈ xs:=by
 rw [← b3J,b0Y,(b3U _).2,b3J]
theorem RisB.nodup {l:List ByteArray} (h:RisB l):l.Nodup:=by
 unfold RisB at h;rw [zT3] at h;exact h.imp (fun {a b} h e =>by subst e;exact List.lt_irrefl _ h)
theorem a5R {a b:List ByteArray} {x:ByteArray}:x ∈ unionF a b ↔ x ∈ a∨x ∈ b:=by unfold unionF;rw [capB_mem,zT0]
theorem a4C (a b:List ByteArray):RisB (unionF a b):=b6Z _
open Classical in
theorem b1I:∀ (l U:List ByteArray),l.Nodup→(∀ x,x ∈ l→x ∈ U)→l.length≤U.length
 | [],U,_,_ =>zG2 _
 | a :: t,U,hn,h =>by
  obtain ⟨h1,h2⟩:=List.nodup_cons.1 hn;have h3:=b1I t (U.filter (fun x =>decide (x≠a))) h2 (fun x hx =>zT1.2 ⟨h x (zP0 _ hx),zI0 (fun e =>h1 (e ▸ hx))⟩);have h4:=Tarj.b5Y (l:=U) (p:=fun x =>decide (x≠a)) (q:=fun _ =>true) (n:=a) (fun _ _ _ =>rfl) (h a zN0) rfl (zM0 (fun e =>e rfl));rw [List.filter_eq_self.2 (fun _ _ =>rfl)] at h4;rw [zR0];omega
theorem b8A:∀ a b:List (List UInt8),a.Pairwise (· < ·)→b.Pairwise (· < ·)→(∀ y,y ∈ a ↔ y ∈ b)→a = b:=by
 intro a
 induction a with
 | nil =>
  intro b _ _ h;cases b with
  | nil =>rfl
  | cons y r =>exact absurd ((h y).2 zN0) qE0
 | cons x r ih =>
  intro b ha hb h;cases b with
  | nil =>exact absurd ((h x).1 zN0) qE0
  | cons y q =>
   obtain ⟨a1,a2⟩:=zM3.1 ha;obtain ⟨b1,b2⟩:=zM3.1 hb;have e:x = y:=by
    rcases zQ0.1 ((h x).1 zN0) with e | e
    ·exact e
    ·rcases zQ0.1 ((h y).2 zN0) with e2 | e2
     ·exact e2.symm
     ·exact absurd (List.lt_trans (a1 y e2) (b1 x e)) (List.lt_irrefl x)
   subst e
   congr 1
   refine ih q a2 b2 fun z =>?_
   constructor
   ·intro hz;rcases zQ0.1 ((h z).1 (zP0 _ hz)) with e | e
    ·subst e;exact absurd (a1 z hz) (List.lt_irrefl z)
    ·exact e
   ·intro hz;rcases zQ0.1 ((h z).2 (zP0 _ hz)) with e | e
    ·subst e;exact absurd (b1 z hz) (List.lt_irrefl z)
    ·exact e
theorem RisB.ext {a b:List ByteArray} (ha:RisB a) (hb:RisB b) (h:∀ x,x ∈ a ↔ x ∈ b):a = b:=by
 have e:=b8A _ _ ha hb (fun y =>by
  rw [zW2,zW2]
  exact ⟨fun ⟨x,hx,e⟩ =>⟨x,(h x).1 hx,e⟩,fun ⟨x,hx,e⟩ =>⟨x,(h x).2 hx,e⟩⟩)
 have hinj:∀ l m:List ByteArray,l.map (·.data.toList) = m.map (·.data.toList)→l = m:=by
  intro l
  induction l with
  | nil =>intro m h;cases m with
   | nil =>rfl
   | cons _ _ =>cases h
  | cons x r ih =>intro m h;cases m with
   | nil =>cases h
   | cons y q =>
    injection h with h1 h2
    rw [a9X h1,ih q h2]
 exact hinj a b e
theorem RisB.nil:RisB []:=List.Pairwise.nil
theorem pz14 (n:Nat) (h:n≤8000000000000):wrap64 ((n:Int) + 1) = ((n + 1:Nat):Int):=by simp only [wrap64];omega
end Go.Proofs.YthhgfncliffggaaGreat.Man
namespace Go.Proofs.YthhgfncliffggaaGreatW.PrintLast
open Go.Proofs.YthhgfncliffggaaGreatW.PrintWords
section
variable {P:Program} {ops:Array Oper} {Q:Exit→Act→World→Prop} {md:Region.Mode} {S:World→Prop} {ds:List Nat} {T:Bool × List (List Nat × List Nat)}
theorem pz_ (i:Nat) (N:Option Tmp) {oi:Oper} {v:Value} {fuel:Nat} {l:Array Bool} {a:Act} {w:World} (hT:rtab md ops = T) (hi:ops[i]? = some oi) (hN:oi.dst = N) (hQ:∀ c a w,Q (.panic c) (a.put oi.dst v) w→Q (.panic c) a w)
  (hc:anyT T l.toList (l.setIfInBounds i true).toList i = true:=by kernel_rfl) (hw:Region.wanted oi (yielded ops a.tmps) = true:=by rfl) (hy:∀ w,(execOp a.eval oi).run P w = .ok (.value v) w:=by intro w';go_simp;with_reducible rfl) {a':Act}
  (ha:a.put N v = a':=by simp only [Act.put,zL0,zV0,zW0,a4P,a5B];rfl) (h:wpAnyLast P md ops Q S ds fuel (l.setIfInBounds i true) a' w):wpAnyLast P md ops Q S ds (fuel + 1) l a w :=
 pure_ _ hi hN (any_of hT hc) hQ (Or.inl ⟨hw,hy⟩) ha h
end
end Go.Proofs.YthhgfncliffggaaGreatW.PrintLast
namespace Go.Proofs.YthhgfncliffggaaGreatW.PrintWords
theorem ob_ {α β:Type} {o:Option α} {f:α→Option β} {r:β} (h:o.bind f = some r):∃ t,a0B (o = some t)∧f t = some r:=by
 obtain ⟨t,h1,h2⟩:=Option.bind_eq_some_iff.mp h;exact ⟨t,a0B.mk h1,h2⟩
section
variable {w:World} {g:Nat} {t:TypeId} {v0 v1 v2 v3 v4 v5 v6 v7:Value}
theorem cf1 (h:w.heap[g]? = some (.cells #[v0] t (0,0))):w.cell? ⟨g,0,none⟩ = some v0∧w.frozen? ⟨g,0,none⟩ = false:=⟨(a0I h 0).trans rfl,a0K h 0⟩
theorem cf2 (h:w.heap[g]? = some (.cells #[v0,v1] t (0,0))):w.cell? ⟨g,0,none⟩ = some v0∧w.cell? ⟨g,1,none⟩ = some v1∧w.frozen? ⟨g,0,none⟩ = false∧w.frozen? ⟨g,1,none⟩ = false:=⟨(a0I h 0).trans rfl,(a0I h 1).trans rfl,a0K h 0,a0K h 1⟩
theorem cf3 (h:w.heap[g]? = some (.cells #[v0,v1,v2] t (0,0))):w.cell? ⟨g,0,none⟩ = some v0∧w.cell? ⟨g,1,none⟩ = some v1∧w.cell? ⟨g,2,none⟩ = some v2∧w.frozen? ⟨g,0,none⟩ = false∧w.frozen? ⟨g,1,none⟩ = false∧w.frozen? ⟨g,2,none⟩ = false:=⟨(a0I h 0).trans rfl,(a0I h 1).trans rfl,(a0I h 2).trans rfl,a0K h 0,a0K h 1,a0K h 2⟩
theorem cf6 (h:w.heap[g]? = some (.cells #[v0,v1,v2,v3,v4,v5] t (0,0))):w.cell? ⟨g,0,none⟩ = some v0∧w.cell? ⟨g,1,none⟩ = some v1∧w.cell? ⟨g,2,none⟩ = some v2∧w.cell? ⟨g,3,none⟩ = some v3∧w.cell? ⟨g,4,none⟩ = some v4∧w.cell? ⟨g,5,none⟩ = some v5∧w.frozen? ⟨g,0,none⟩ = false∧w.frozen? ⟨g,1,none⟩ = false∧w.frozen? ⟨g,2,none⟩ = false∧w.frozen? ⟨g,3,none⟩ = false∧w.frozen? ⟨g,4,none⟩ = false∧w.frozen? ⟨g,5,none⟩ = false :=
 ⟨(a0I h 0).trans rfl,(a0I h 1).trans rfl,(a0I h 2).trans rfl,(a0I h 3).trans rfl,(a0I h 4).trans rfl,(a0I h 5).trans rfl,a0K h 0,a0K h 1,a0K h 2,a0K h 3,a0K h 4,a0K h 5⟩
end
end Go.Proofs.YthhgfncliffggaaGreatW.PrintWords
namespace Go.Proofs.YthhgfncliffggaaGreat.Man
open Go.RowKit Go.Shelf Go.Proofs.YthhgfncliffggaaGreat.Pr Go.Proofs.YthhgfncliffggaaGreatW.PrintWords
attribute [local go_sem] Oper.semAt_some
theorem mixedO:Tryz.prog.follows .mixedOrders = true:=by kernel_rfl
theorem a0F {F:Fence} {n:Nat} {P:Program} {ops:Array Oper} {Q:Exit→Act→World→Prop} {i:Nat} {K:Act→World→Prop} {a:Act} {w w':World} {o:Oper} {r:Value}
  (ho:ops[i]? = some o) (hw:Region.wanted o (yielded ops a.tmps) = true) (hd:∀ c,o.op≠.defer c) (hab:o.about P w a.eval = none)
  (hrun:(execOp a.eval o).run P w = .ok (.value r) w') (hK:K (a.put o.dst r) w'):wpOpIn F n P ops Q i K a w:=by
 unfold wpOpIn;simp only [ho,hw,if_true];refine ⟨fun f h =>(by rw [hab] at h;cases h),?_⟩;rw [Oper.semAt_eq _ _ _ hd,hrun];exact hK
theorem a3L {n:Nat} {P:Program} {ops:Array Oper} {Q:Exit→Act→World→Prop} {i:Nat} {K:Act→World→Prop} {a:Act} {w:World} {o:Oper} {f:FuncId} {xs:Array Operand} {ts:Array TypeId} {R:Ending→World→Prop}
  (ho:ops[i]? = some o) (hw:Region.wanted o (yielded ops a.tmps) = true) (hop:o.op = .call { callee:=.value (.func f),args:=xs,argTypes:=ts }) (eg:∀ args w,(callFunc f args).run P w = .ok (.enter f args) w)
  (hcall:Calls P f (xs.map a.eval) w R) (hK:∀ e w',R e w'→∃ v,e = .returned v∧K (a.put o.dst v) w'):wpOpIn Fence.wide n P ops Q i K a w:=by
 unfold wpOpIn;simp only [ho,hw,if_true];refine ⟨fun f h =>trivial,?_⟩;rw [Oper.semAt_eq _ _ _ qB2];have hrun:(execOp a.eval o).run P w = .ok (.enter f (xs.map a.eval)) w:=by
  simp [execOp,hop,resolve,invoke,go_sem,eg]
 rw [hrun];refine ⟨fun h =>by simp [Fence.wide] at h,CallsIn.mono (callsIn_wide.2 hcall) fun e w' hr =>?_⟩;obtain ⟨v,rfl,hk⟩:=hK e w' hr;exact hk
theorem a1Q {w w':World} {ad:Addr} {v:Value} (h:w.cell? ad = some v) (hb:Below w.heap.size w w'):w'.cell? ad = some v:=(hb.cell (zE1 _ _ h)).trans h
theorem b4K {n:Nat} {P:Program} {ops:Array Oper} {Q:Exit→Act→World→Prop} {i:Nat} {K:Act→World→Prop} {a:Act} {W:World} {o:Oper} (ho:ops[i]? = some o) (hw:Region.wanted o (yielded ops a.tmps) = true)
  {s x:Operand} {t t':TypeId} (hop:o.op = .call { callee:=.builtin .append,args:=#[s,x],argTypes:=#[t,t'] })
  (h:Oper.wp P o a W K (fun _ _ _ =>False)):wpOpIn Fence.wide n P ops Q i K a W:=by
 unfold wpOpIn;simp only [ho,hw,if_true];refine ⟨fun f h =>trivial,?_⟩;rw [Oper.semAt_eq _ _ _ qB2];unfold Oper.wp at h;have e:(execOp a.eval o).run P W = ((Builtin.append_ #[t,t'] o.type #[a.eval s,a.eval x]).run P W).andThen fun v w' =>.ok (.value v) w':=by
  simp [execOp,hop,resolve,invoke,builtin]
 rw [e] at h ⊢;cases hr:(Builtin.append_ #[t,t'] o.type #[a.eval s,a.eval x]).run P W with
 | ok v w' =>rw [hr] at h;exact h
 | halt r w' =>rw [hr] at h;cases r <;> exact h.elim
theorem a3S {n:Nat} {P:Program} {ops:Array Oper} {Q:Exit→Act→World→Prop} {i:Nat} {K:Act→World→Prop} {a:Act} {W:World} {o:Oper} (ho:ops[i]? = some o) (hw:Region.wanted o (yielded ops a.tmps) = true)
  {s x:Operand} {t t':TypeId} (hop:o.op = .call { callee:=.builtin .append,args:=#[s,x],argTypes:=#[t,t'] })
  (h:if Region.wanted o (yielded ops a.tmps) = true then Oper.wp P o a W K (fun _ _ _ =>False) else K (a.put o.dst undef) W):wpOpIn Fence.wide n P ops Q i K a W :=
 b4K ho hw hop (by rw [if_pos hw] at h;exact h)
def spv (sp:List Nat) (val:Nat→Value):Nat→Value:=fun q =>if q < sp.length then val (sp.getD q 0) else undef
structure TF (n:Nat) (sp:List Nat) (ixv:Nat→Value) (St:Nat→(Nat→Value)→World→Prop) (done:Nat→Bool) (val:Nat→Value) (Z:World):Prop where
 pos:0 < sp.length
 nd:sp.Nodup
 al:∀ i,i < n→done i = false→i ∉ sp→done (sp.getD (sp.length - 1) 0) = false
 vv:∀ i,done i = true→i ∉ sp→val i = ixv i
 st:∃ s,s≤sp.length∧(∀ j,j < sp.length→done (sp.getD j 0) = decide (j < s))∧St s (spv sp val) Z
theorem b7P {sp:List Nat} {j:Nat} (hj:j < sp.length):sp.getD j 0 ∈ sp:=by
 rw [zE0,zD0 hj];exact zD1 hj
theorem sp_ne {sp:List Nat} (hn:sp.Nodup) {i j:Nat} (hi:i < sp.length) (hj:j < sp.length) (hne:i≠j):sp.getD i 0≠sp.getD j 0:=by
 rw [zE0,zD0 hi,zE0,zD0 hj];show sp[i]≠sp[j];rcases Nat.lt_or_gt_of_ne hne with h | h
 ·exact (List.pairwise_iff_getElem.1 hn) i j hi hj h
 ·exact Ne.symm ((List.pairwise_iff_getElem.1 hn) j i hj hi h)
section
variable {n:Nat} {sp:List Nat} {ixv:Nat→Value} {St:Nat→(Nat→Value)→World→Prop} {done:Nat→Bool} {val:Nat→Value} {Z Z':World}
theorem TF.start (hs:0 < sp.length) (hn:sp.Nodup) (h:St 0 (spv sp (fun _ =>undef)) Z):TF n sp ixv St (fun _ =>false) (fun _ =>undef) Z :=
 ⟨hs,hn,fun _ _ _ _ =>rfl,fun _ h =>(by cases h),0,zG2 _,fun j _ =>by simp,h⟩
theorem TF.get (h:TF n sp ixv St done val Z) (j:Nat) (hj:j < sp.length) (hd:done (sp.getD j 0) = false) (hp:j = 0∨done (sp.getD (j - 1) 0) = true):St j (spv sp val) Z:=by
 obtain ⟨s,hs,hds,hS⟩:=h.st;have h1:=hds j hj;rw [hd] at h1;have h2:=of_decide_eq_false h1.symm;have h3:s = j:=by
  rcases hp with rfl | hp
  ·omega
  ·have h4:=hds (j - 1) qC0;rw [hp] at h4;have:=zB0 h4.symm;omega
 rw [← h3];exact hS
theorem TF.some (h:TF n sp ixv St done val Z) {i:Nat} (hi:i < n) (hd:done i = false) (hn:i ∉ sp):∃ s,s < sp.length∧St s (spv sp val) Z:=by
 obtain ⟨s,hs,hds,hS⟩:=h.st;have h0:=h.pos;have h1:=h.al i hi hd hn;rw [hds (sp.length - 1) qC0] at h1;have:=of_decide_eq_false h1;exact ⟨s,by omega,hS⟩
theorem TF.const (h:TF n sp ixv St done val Z) {i:Nat} (hi:i < n) (hd:done i = false) (hn:i ∉ sp) {x:Value} (hx:x = ixv i):TF n sp ixv St (upd done i) (setv val i x) Z:=by
 have hne:∀ j,j < sp.length→sp.getD j 0≠i:=fun j hj e =>hn (e ▸ b7P hj)
 have h0:=h.pos;refine ⟨h0,h.nd,fun q hq hdq hnq =>?_,fun q hdq hnq =>?_,?_⟩
 ·simp only [upd,if_neg (hne _ (show sp.length - 1 < sp.length by omega))];exact h.al i hi hd hn
 ·simp only [upd,setv] at hdq ⊢;by_cases e:q = i
  ·rw [if_pos e,e];exact hx
  ·rw [if_neg e] at hdq ⊢;exact h.vv q hdq hnq
 ·obtain ⟨s,hs,hds,hS⟩:=h.st;refine ⟨s,hs,fun j hj =>by simp only [upd,if_neg (hne j hj)];exact hds j hj,?_⟩;have e:spv sp (setv val i x) = spv sp val:=by
   funext q
   simp only [spv,setv];by_cases hq:q < sp.length
   ·rw [if_pos hq,if_pos hq,if_neg (hne q hq)]
   ·rw [if_neg hq,if_neg hq]
  rw [e];exact hS
theorem TF.next (h:TF n sp ixv St done val Z) (j:Nat) (hj:j < sp.length) (hd:done (sp.getD j 0) = false) (hp:j = 0∨done (sp.getD (j - 1) 0) = true) (hall:j + 1 = sp.length→∀ i,i < n→i ∉ sp→done i = true) {r:Value}
  (hS:∀ v':Nat→Value,v' j = r→(∀ q,q < j→v' q = spv sp val q)→St (j + 1) v' Z'):TF n sp ixv St (upd done (sp.getD j 0)) (setv val (sp.getD j 0) r) Z':=by
 obtain ⟨s,hs,hds,_⟩:=h.st;have h0:=h.pos;have h1:=hds j hj;rw [hd] at h1;have h2:=of_decide_eq_false h1.symm;have h3:s = j:=by
  rcases hp with rfl | hp
  ·omega
  ·have h4:=hds (j - 1) qC0;rw [hp] at h4;have:=zB0 h4.symm;omega
 subst h3;refine ⟨h0,h.nd,fun q hq hdq hnq =>?_,fun q hdq hnq =>?_,s + 1,by omega,fun i hi =>?_,hS _ ?_ ?_⟩
 ·have hqn:q≠sp.getD s 0:=fun e =>hnq (e ▸ b7P hj)
  simp only [upd,if_neg hqn] at hdq;by_cases e:s + 1 = sp.length
  ·rw [hall e q hq hnq] at hdq;cases hdq
  ·simp only [upd,if_neg (sp_ne h.nd (show sp.length - 1 < sp.length by omega) hj qC0)];exact h.al q hq hdq hnq
 ·have hqn:q≠sp.getD s 0:=fun e =>hnq (e ▸ b7P hj)
  simp only [upd,setv,if_neg hqn] at hdq ⊢;exact h.vv q hdq hnq
 ·simp only [upd];by_cases e:i = s
  ·subst e;simp
  ·rw [if_neg (sp_ne h.nd hi hj e),hds i hi];apply decide_eq_decide.2;omega
 ·simp only [spv,setv,if_pos hj,if_true]
 ·intro q hq;simp only [spv,setv,if_pos (show q < sp.length by omega),if_neg (sp_ne h.nd (show q < sp.length by omega) hj qC0)]
theorem TF.last (h:TF n sp ixv St done val Z) (hd:done (sp.getD (sp.length - 1) 0) = true):St sp.length (spv sp val) Z:=by
 obtain ⟨s,hs,hds,hS⟩:=h.st;have h0:=h.pos;have h1:=hds (sp.length - 1) qC0;rw [hd] at h1;have:=zB0 h1.symm;have e:s = sp.length:=by omega
 rw [← e];exact hS
end
def Un (ops:Array Oper) (base:Act) (done:Nat→Bool) (a:Act):Prop:=∀ t:Tmp,(∀ j,dstOf ops j = some t→done j = false)→a.eval (.tmp t) = base.eval (.tmp t)
theorem Un.put {ops:Array Oper} {base:Act} {done:Nat→Bool} {a:Act} (h:Un ops base done a) (i:Nat) {o:Oper} (ho:ops[i]? = some o) (r:Value):Un ops base (upd done i) (a.put o.dst r):=by
 intro t ht;have h1:o.dst≠some t:=fun e =>by
  have:=ht i (by simp [dstOf,ho,e]);simp [upd] at this
 have h2:=h t (fun j hj =>by
  have:=ht j hj;simp only [upd] at this
  split at this
  ·cases this
  ·exact this)
 rw [← h2];cases hd:o.dst with
 | none =>rfl
 | some d =>
  rw [hd] at h1;have h3:d≠t:=fun e =>h1 (by rw [e])
  simp [Act.put,Act.eval,Array.getElem?_setIfInBounds,h3]
theorem Un.at {ops:Array Oper} {base:Act} {done:Nat→Bool} {a:Act} (h:Un ops base done a) (t:Tmp) (q:Nat) (hq:done q = false) (hc:((List.range ops.size).all fun j =>(j == q) || !(dstOf ops j == some t)) = true):a.eval (.tmp t) = base.eval (.tmp t) :=
 h t (fun j hj =>by
  have hlt:j < ops.size:=by
   by_cases hlt:j < ops.size
   ·exact hlt
   ·simp [dstOf,Array.getElem?_eq_none (Nat.le_of_not_lt hlt)] at hj
  have:=zC2.1 hc j (zX0.2 hlt);rw [hj] at this;simp at this
  rw [this];exact hq)
theorem b1G {F:Fence} {n:Nat} {P:Program} {ops:Array Oper} {Q:Exit→Act→World→Prop} (base:Act) (v0:Nat→Value) (S:(Nat→Bool)→(Nat→Value)→World→Prop) (hok:flowOk ops base.tmps.size = true) (hwt:waitsOk ops = true) (w0:World)
  (h0:S (fun _ =>false) v0 w0)
  (hstep:∀ i o done val a w,ops[i]? = some o→done i = false→(∀ e ∈ o.after,Region.binds .any e = true→done e.on = true)→Agrees ops base val done a→Un ops base done a→S done val w →
   ∀ K:Act→World→Prop,(∀ r w',S (upd done i) (setv val i r) w'→K (a.put o.dst r) w')→wpOpIn F n P ops Q i K a w)
  (hend:∀ w done val,(∀ j,j < ops.size→done j = true)→S done val w→Q .normal { tmps:=putTmps ops val base.tmps ops.size,defers:=base.defers } w) :
  wpAnyIn F n P .any ops Q ops.size (Array.replicate ops.size false) base w0:=by
 refine a6S (fun listed a w =>listed.size = ops.size∧∃ done val,(∀ j,j < ops.size→listed[j]? = some (done j))∧(Agrees ops base val done a∧Un ops base done a)∧S done val w) ?_ ?_ _ _ _ _ (by simp [leftOf]) ⟨by simp,fun _ =>false,v0,fun j hj =>by simp [hj],⟨⟨rfl,rfl,fun _ _ _ h =>(by cases h),fun _ _ =>rfl⟩,fun _ _ =>rfl⟩,h0⟩
 ·rintro listed a w i ⟨hs,done,val,hl,⟨ha,hu⟩,hS⟩ hr;have hmem:=a5V hr;have hlt:i < ops.size:=by
   rw [Array.getElem?_toList] at hmem;have:=(Array.getElem?_eq_some_iff.1 hmem).1;omega
  have hdi:done i = false:=by
   rw [Array.getElem?_toList,hl i hlt] at hmem;simpa using hmem
  have ho:ops[i]? = some ops[i]:=Array.getElem?_eq_getElem hlt;refine hstep i ops[i] done val a w ho hdi (fun e he hb =>?_) ha hu hS _ (fun r w' hw' =>⟨by simp [hs],upd done i,setv val i r,fun j hj =>?_,⟨ha.put2 hok i ho hdi r,hu.put i ho r⟩,hw'⟩)
  ·have:=(zT1.1 hr).2;simp only [zZ0,ho,zH2,zL2] at this;have h2:=zO1.1 this.2 e he;rw [hb] at h2;simp only [zM2,zT2] at h2;rw [zH1] at h2;by_cases hlt2:e.on < ops.size
   ·rw [hl e.on hlt2] at h2;simpa using h2
   ·rw [Array.getElem?_eq_none qC0] at h2;simp at h2
  ·rw [Array.getElem?_setIfInBounds];by_cases e:i = j
   ·subst e;rw [if_pos rfl,if_pos qC0];simp [upd]
   ·rw [if_neg e,hl j hj];simp [upd,Ne.symm e]
 ·rintro listed a w ⟨hs,done,val,hl,⟨ha,hu⟩,hS⟩ hr;have hall:∀ j,j < ops.size→done j = true:=by
   intro j
   induction j using Nat.strongRecOn with
   | _ j ih =>
   intro hj;cases hdj:done j with
   | true =>rfl
   | false =>
    exfalso;have:j ∈ Region.ready .any ops listed:=by
     unfold Region.ready;refine zT1.2 ⟨zX0.2 hj,?_⟩;simp only [zZ0];refine ⟨by rw [zH1,hl j hj,hdj];rfl,?_⟩;rw [Array.getElem?_eq_getElem hj];simp only [zH2,zL2];refine zO1.2 fun e he =>?_
     have hw:=zC2.1 hwt j (zX0.2 hj);rw [Array.getElem?_eq_getElem hj] at hw;have hw2:=zO1.1 hw e he;cases hb:Region.binds .any e with
     | false =>simp
     | true =>
      rw [hb] at hw2;simp only [zM2,zT2,zB2] at hw2;have hlt:e.on < ops.size:=by omega
      simp only [zM2,zT2];rw [zH1,hl e.on hlt,ih e.on hw2 hlt];rfl
    rw [hr] at this;cases this
  rw [ha.all hok hall];exact hend w done val hall hS
end Go.Proofs.YthhgfncliffggaaGreat.Man
namespace Go.Proofs.YthhgfncliffggaaGreat.Pr
open Go.RowKit Go.Proofs.YthhgfncliffggaaGreatW.PrintWords Go.Proofs.YthhgfncliffggaaGreatW.PrintLast Go.Proofs.YthhgfncliffggaaGreatW.PrintMore
attribute [local go_sem] a5J a5I a6Y a6X a6A a5Z a7K a7J   -- for this text's walks alone
def r02_ok.f (aE:List (S101)) (aA:Int) (aJ:Int) (aR:Int) (aQ:Int) (aT:Int):Option (Bool):=some (aQ == 0)
theorem r02_ok.calls (aX:Option Addr) (aV:Nat) (aE:List (S101)) (aA:Int) (aJ:Int) (aR:Int) (aQ:Int) (aT:Int) (r:Bool) (w:World) (cG:Kd.C k101 w aX aE.length aE) (cH:aE.length≤aV) (h:r02_ok.f aE aA aJ aR aQ aT = some r) :
    Calls Tryz.prog 67 #[.agg #[.slice aX aE.length aV,.int .i64 aA,.int .i64 aJ,.int .i64 aR,.int .i64 aQ,.int .i64 aT]] w fun e w' =>e = .returned (.bool r)∧Below w.heap.size w w':=by
 have hu103:=Tryz.underlying103;have aY:=a0B.mk cG;have bH:=a0B.mk cH;clear cG cH;have HB:=a0B.mk (zG0 w.heap.size w);have H:(some (aQ == 0)) = some r:=h;clear h;obtain rfl:=zC0 H;go_enter Tryz.func67,Tryz.ntmps67
 go_wp2_with (first | ((with_reducible refine a0N (N:=1) rfl ?_);refine a1K ?hg (N:=1) ?hd (cs:=#[.slice aX aE.length aV,.int .i64 aA,.int .i64 aJ,.int .i64 aR,.int .i64 aQ,.int .i64 aT]) (t:=103) ?hr ?_;(case hd =>rfl);(case hg =>rfl);(case hr =>first | (go_simp;done) | (go_simp;rfl));intro iX hg w2 hbox hb;have bC:=a0B.mk (a0L qG0 hb);have cI:=a0B.mk (hbox);have cJ:=a0B.mk ((by rw [hg];exact (a1G qG0):w.heap.size≤iX));have eZ:=a0B.mk ((by rw [hg];exact (a1G qG0):w.heap.size≤iX));clear HB;have HB:=bC;have iY:=cI;have GW101:=cJ;have iZ:=eZ;clear bC cI cJ eZ;clear hb hbox hg;have jZ:=cf6 iY.out));go_ret;exact ⟨by first | rfl | (simp [a0Z,a0Y] <;> rfl) | (simp [*,a0Z,a0Y] <;> rfl),by repeat (first | (with_reducible first | exact HB.out | apply a0D | apply a0C | apply a0E | refine a0O ?_ iZ.out) | exact HB.out)⟩
def r01_Letter.f (a0:Int):Option (Bool):=if a0 ≥ 97 then (if a0≤122 then (some true) else (if a0 ≥ 65 then (some (decide (a0≤90))) else (some false))) else (if a0 ≥ 65 then (some (decide (a0≤90))) else (some false))
theorem r01_Letter.calls (a0:Int) (r:Bool) (w:World) (h:r01_Letter.f a0 = some r) :
    Calls Tryz.prog 63 #[.int .u8 a0] w fun e w' =>e = .returned (.bool r)∧a0S w w':=by
 have H:(if a0 ≥ 97 then (if a0≤122 then (some true) else (if a0 ≥ 65 then (some (decide (a0≤90))) else (some false))) else (if a0 ≥ 65 then (some (decide (a0≤90))) else (some false))) = some r:=h;clear h;by_cases c2:a0 ≥ 97
 ·rw [if_pos c2] at H;have c2b0:decide (97≤a0) = true:=zI0 c2;clear c2;by_cases c3:a0≤122
  ·rw [if_pos c3] at H;have c3b0:decide (a0≤122) = true:=zI0 c3;clear c3;obtain rfl:=zC0 H;go_enter Tryz.func63,Tryz.ntmps63
   go_wp2;go_ret;exact qE3
  ·rw [if_neg c3] at H;have c3b0:decide (a0≤122) = false:=zM0 c3;clear c3;by_cases c4:a0 ≥ 65
   ·rw [if_pos c4] at H;have c4b0:decide (65≤a0) = true:=zI0 c4;clear c4;obtain rfl:=zC0 H;go_enter Tryz.func63,Tryz.ntmps63
    go_wp2;go_ret;exact qE3
   ·rw [if_neg c4] at H;have c4b0:decide (65≤a0) = false:=zM0 c4;clear c4;obtain rfl:=zC0 H;go_enter Tryz.func63,Tryz.ntmps63
    go_wp2;go_ret;exact qE3
 ·rw [if_neg c2] at H;have c2b0:decide (97≤a0) = false:=zM0 c2;clear c2;by_cases c5:a0 ≥ 65
  ·rw [if_pos c5] at H;have c5b0:decide (65≤a0) = true:=zI0 c5;clear c5;obtain rfl:=zC0 H;go_enter Tryz.func63,Tryz.ntmps63
   go_wp2;go_ret;exact qE3
  ·rw [if_neg c5] at H;have c5b0:decide (65≤a0) = false:=zM0 c5;clear c5;obtain rfl:=zC0 H;go_enter Tryz.func63,Tryz.ntmps63
   go_wp2;go_ret;exact qE3
def r01_Digit.f (a0:Int):Option (Bool):=if a0 ≥ 48 then (some (decide (a0≤57))) else (some false)
theorem r01_Digit.calls (a0:Int) (r:Bool) (w:World) (h:r01_Digit.f a0 = some r) :
    Calls Tryz.prog 65 #[.int .u8 a0] w fun e w' =>e = .returned (.bool r)∧a0S w w':=by
 have H:(if a0 ≥ 48 then (some (decide (a0≤57))) else (some false)) = some r:=h;clear h;by_cases c2:a0 ≥ 48
 ·rw [if_pos c2] at H;have c2b0:decide (48≤a0) = true:=zI0 c2;clear c2;obtain rfl:=zC0 H;go_enter Tryz.func65,Tryz.ntmps65
  go_wp2;go_ret;exact qE3
 ·rw [if_neg c2] at H;have c2b0:decide (48≤a0) = false:=zM0 c2;clear c2;obtain rfl:=zC0 H;go_enter Tryz.func65,Tryz.ntmps65
  go_wp2;go_ret;exact qE3
def r01_Inner.f (a0:Int):Option (Bool):=(r01_Letter.f a0).bind fun t102 =>(if t102 = true then (some true) else ((r01_Digit.f a0).bind fun t103 =>(if t103 = true then (some true) else (some (a0 == 95)))))
theorem r01_Inner.calls (a0:Int) (r:Bool) (w:World) (h:r01_Inner.f a0 = some r) :
    Calls Tryz.prog 64 #[.int .u8 a0] w fun e w' =>e = .returned (.bool r)∧a0S w w':=by
 have H:((r01_Letter.f a0).bind fun t102 =>(if t102 = true then (some true) else ((r01_Digit.f a0).bind fun t103 =>(if t103 = true then (some true) else (some (a0 == 95)))))) = some r:=h;clear h;obtain ⟨t102,A2,H⟩:=ob_ H;by_cases c3:t102 = true
 ·subst c3;rw [if_pos rfl] at H;obtain rfl:=zC0 H;go_enter Tryz.func64,Tryz.ntmps64
  go_wp2_with (first | ((with_reducible refine a1A (f:=63) rfl ?_);refine a2H (some 4) rfl rfl Tryz.func63 qF0 rfl #[.int .u8 a0] rfl qD0 ?_;(with_reducible refine (r01_Letter.calls a0 true _ A2.out).mono ?_);rintro e w' ⟨rfl,⟨nd,rfl⟩⟩;refine ⟨_,rfl,?_⟩));go_ret;exact qE3
 ·replace c3:=Bool.eq_false_iff.mpr c3;subst c3;rw [if_neg (show ¬ (false = true) by decide)] at H;obtain ⟨t103,A4,H⟩:=ob_ H;by_cases c5:t103 = true
  ·subst c5;rw [if_pos rfl] at H;obtain rfl:=zC0 H;go_enter Tryz.func64,Tryz.ntmps64
   go_wp2_with (first | ((with_reducible refine a1A (f:=63) rfl ?_);refine a2H (some 4) rfl rfl Tryz.func63 qF0 rfl #[.int .u8 a0] rfl qD0 ?_;(with_reducible refine (r01_Letter.calls a0 false _ A2.out).mono ?_);rintro e w' ⟨rfl,⟨nd,rfl⟩⟩;refine ⟨_,rfl,?_⟩) | (go_at_call 65;(with_reducible refine (r01_Digit.calls a0 true _ A4.out).mono ?_);rintro e w' ⟨rfl,⟨nd,rfl⟩⟩));go_ret;exact qE3
  ·replace c5:=Bool.eq_false_iff.mpr c5;subst c5;rw [if_neg (show ¬ (false = true) by decide)] at H;obtain rfl:=zC0 H;go_enter Tryz.func64,Tryz.ntmps64
   go_wp2_with (first | ((with_reducible refine a1A (f:=63) rfl ?_);refine a2H (some 4) rfl rfl Tryz.func63 qF0 rfl #[.int .u8 a0] rfl qD0 ?_;(with_reducible refine (r01_Letter.calls a0 false _ A2.out).mono ?_);rintro e w' ⟨rfl,⟨nd,rfl⟩⟩;refine ⟨_,rfl,?_⟩) | (go_at_call 65;(with_reducible refine (r01_Digit.calls a0 false _ A4.out).mono ?_);rintro e w' ⟨rfl,⟨nd,rfl⟩⟩));go_ret;exact qE3
def r01_Sign.l0:Nat→Int→ByteArray→Int→Option (Bool)
 | 0,_,_,_ =>none
 | k + 1,x0,x3,x4 =>if x4 < (x3.size:Int) then (if 0≤x4 then (if (bt x3 x4) = x0 then (some true) else (r01_Sign.l0 k x0 x3 (wrap64 (x4 + 1)))) else (none)) else (some false)
def r01_Sign.f (k:Nat) (a0:Int):Option (Bool):=r01_Sign.l0 k a0 (⟨#[123,125,40,41,44,59,46,61,43,45,42,60,38,58]⟩:ByteArray) 0
theorem r01_Sign.calls (k:Nat) (a0:Int) (r:Bool) (w:World) (h:r01_Sign.f k a0 = some r) :
    Calls Tryz.prog 66 #[.int .u8 a0] w fun e w' =>e = .returned (.bool r)∧a0S w w':=by
 have H:(r01_Sign.l0 k a0 (⟨#[123,125,40,41,44,59,46,61,43,45,42,60,38,58]⟩:ByteArray) 0) = some r:=h;clear h;have H':=a0B.mk H;clear H;go_enter Tryz.func66,Tryz.ntmps66
 go_wp2;go_loopg [4] k (fun kq v4 w' =>∃ (aC:Int),v4 = .int .i64 aC∧a0B (r01_Sign.l0 kq a0 (⟨#[123,125,40,41,44,59,46,61,43,45,42,60,38,58]⟩:ByteArray) aC = some r)∧a0B (kq≤k)∧a0S w w')
 case atStart =>exact ⟨(0),qH0,H',⟨zJ0 _⟩,by repeat (first | exact a0S.refl _ | apply a0S.step)⟩
 case round =>
  clear H';obtain ⟨aC,rfl,HA,HK1,⟨m1,rfl⟩⟩:=hrel;cases gk with
  | zero =>exact absurd HA.out (by simp [r01_Sign.l0])
  | succ k1 =>
   have H:=HA.out;clear HA;simp only [r01_Sign.l0] at H;by_cases c2:aC < ((⟨#[123,125,40,41,44,59,46,61,43,45,42,60,38,58]⟩:ByteArray).size:Int)
   ·rw [if_pos c2] at H;have c2b0:decide (aC < ((⟨#[123,125,40,41,44,59,46,61,43,45,42,60,38,58]⟩:ByteArray).size:Int)) = true:=zI0 c2;have c2b0x:decide (aC < (14:Int)) = true:=c2b0;clear c2;by_cases c3:0≤aC
    ·rw [if_pos c3] at H;have c3b0:decide (0≤aC) = true:=zI0 c3;clear c3;by_cases c5:(bt (⟨#[123,125,40,41,44,59,46,61,43,45,42,60,38,58]⟩:ByteArray) aC) = a0
     ·rw [if_pos c5] at H;have c5b0:((bt (⟨#[123,125,40,41,44,59,46,61,43,45,42,60,38,58]⟩:ByteArray) aC) == a0) = true:=beq_iff_eq.mpr c5;have c5b1:((bt (⟨#[123,125,40,41,44,59,46,61,43,45,42,60,38,58]⟩:ByteArray) aC) != a0) = false:=bne_eq_false_iff_eq.mpr c5;clear c5;obtain rfl:=zC0 H;have p4:0≤(aC:Int):=zB0 qA0;have q4:aC < (14:Int):=zB0 qA0;have hx4:=a5L (⟨#[123,125,40,41,44,59,46,61,43,45,42,60,38,58]⟩:ByteArray) aC;replace p4:=eq_true p4;replace q4:=eq_true q4;go_wp2;go_ret;exact qE3
     ·rw [if_neg c5] at H;have c5b0:((bt (⟨#[123,125,40,41,44,59,46,61,43,45,42,60,38,58]⟩:ByteArray) aC) == a0) = false:=beq_eq_false_iff_ne.mpr c5;have c5b1:((bt (⟨#[123,125,40,41,44,59,46,61,43,45,42,60,38,58]⟩:ByteArray) aC) != a0) = true:=bne_iff_ne.mpr c5;have H':=a0B.mk H;clear H;have p4:0≤(aC:Int):=zB0 qA0;have q4:aC < (14:Int):=zB0 qA0;have hx4:=a5L (⟨#[123,125,40,41,44,59,46,61,43,45,42,60,38,58]⟩:ByteArray) aC;replace p4:=eq_true p4;replace q4:=eq_true q4;go_wp2;go_roundg k1
      case measure =>have:=HK1.out;omega
      case rel =>exact ⟨(wrap64 (aC + 1)),qH0,H',⟨by have:=HK1.out;omega⟩,by repeat (first | exact a0S.refl _ | apply a0S.step)⟩
    ·rw [if_neg c3] at H;exact absurd H qE0
   ·rw [if_neg c2] at H;have c2b0:decide (aC < ((⟨#[123,125,40,41,44,59,46,61,43,45,42,60,38,58]⟩:ByteArray).size:Int)) = false:=zM0 c2;have c2b0x:decide (aC < (14:Int)) = false:=c2b0;clear c2;obtain rfl:=zC0 H;go_wp2;go_ret;exact qE3
mutual
def r01_Right.j0:Nat→Bool→Int→ByteArray→Int→Option (Bool)
 | 0,_,_,_,_ =>none
 | k + 1,x14,x105000,x105001,x105002 =>if x14 = true then (none) else (r01_Right.l0 k 0 x105000 x105001 x105002)
def r01_Right.l0:Nat→Int→Int→ByteArray→Int→Option (Bool)
 | 0,_,_,_,_ =>none
 | k + 1,x3,x105000,x105001,x105002 =>if x3 < (x105001.size:Int) then (if 0≤x3 then (if x105000 = 0 then ((r01_Inner.f (bt x105001 x3)).bind fun t105 =>(if t105 = true then (if x105000 = 1 then ((r01_Digit.f (bt x105001 x3)).bind fun t106 =>(if t106 = true then (if x105000 = 2 then ((r01_Sign.f k (bt x105001 x3)).bind fun t107 =>(if t107 = true then (r01_Right.l0 k (wrap64 (x3 + 1)) x105000 x105001 x105002) else (none))) else (r01_Right.l0 k (wrap64 (x3 + 1)) x105000 x105001 x105002)) else (none))) else (if x105000 = 2 then ((r01_Sign.f k (bt x105001 x3)).bind fun t108 =>(if t108 = true then (r01_Right.l0 k (wrap64 (x3 + 1)) x105000 x105001 x105002) else (none))) else (r01_Right.l0 k (wrap64 (x3 + 1)) x105000 x105001 x105002))) else (none))) else (if x105000 = 1 then ((r01_Digit.f (bt x105001 x3)).bind fun t109 =>(if t109 = true then (if x105000 = 2 then ((r01_Sign.f k (bt x105001 x3)).bind fun t110 =>(if t110 = true then (r01_Right.l0 k (wrap64 (x3 + 1)) x105000 x105001 x105002) else (none))) else (r01_Right.l0 k (wrap64 (x3 + 1)) x105000 x105001 x105002)) else (none))) else (if x105000 = 2 then ((r01_Sign.f k (bt x105001 x3)).bind fun t111 =>(if t111 = true then (r01_Right.l0 k (wrap64 (x3 + 1)) x105000 x105001 x105002) else (none))) else (r01_Right.l0 k (wrap64 (x3 + 1)) x105000 x105001 x105002)))) else (none)) else (if x105000 = 0 then (if 0 < (x105001.size:Int) then ((r01_Letter.f (bt x105001 0)).bind fun t112 =>(some t112)) else (none)) else (if x105000 = 1 then (some (decide ((x105001.size:Int)≤9))) else (if x105000 = 2 then (some ((x105001.size:Int) == 1)) else (some false))))
end
def r01_Right.f (k:Nat) (aI:Int) (aA:ByteArray) (aJ:Int):Option (Bool):=if (aA.size:Int) < 1 then (r01_Right.j0 k true aI aA aJ) else (r01_Right.j0 k (decide ((aA.size:Int) > 65536)) aI aA aJ)
theorem r01_Right.calls (k:Nat) (aI:Int) (aA:ByteArray) (aJ:Int) (r:Bool) (w:World) (h:r01_Right.f k aI aA aJ = some r) :
    Calls Tryz.prog 111 #[.agg #[.int .i64 aI,.string aA,.int .i64 aJ]] w fun e w' =>e = .returned (.bool r)∧Below w.heap.size w w':=by
 have hu101:=Tryz.underlying101;have HB:=a0B.mk (zG0 w.heap.size w);have H:(if (aA.size:Int) < 1 then (r01_Right.j0 k true aI aA aJ) else (r01_Right.j0 k (decide ((aA.size:Int) > 65536)) aI aA aJ)) = some r:=h;clear h;have HC2:=a0B.mk H;clear H;go_enter Tryz.func111,Tryz.ntmps111
 go_upto_region 1 with (first | ((with_reducible refine a0N (N:=1) rfl ?_);(try (refine a3G (by rfl) ?_;dsimp only));refine a1K ?hg (N:=1) ?hd (cs:=#[.int .i64 aI,.string aA,.int .i64 aJ]) (t:=101) ?hr ?_;(case hd =>rfl);(case hg =>rfl);(case hr =>first | (go_simp;done) | (go_simp;rfl));intro bG hg w3 hbox hb;have bC:=a0B.mk (a0L qG0 hb);have cI:=a0B.mk (hbox);have cJ:=a0B.mk ((by rw [hg];exact (a1G qG0):w.heap.size≤bG));have eZ:=a0B.mk ((by rw [hg];exact (a1G qG0):w.heap.size≤bG));clear HB;have HB:=bC;have aK:=cI;have GW104:=cJ;have aZ:=eZ;clear bC cI cJ eZ;clear hb hbox hg))
 (try simp only [Act.put,zL0,zV0,zW0])
 go_cut [14] (fun v14 wc =>∃ (kq:Nat) (fA:Bool),v14 = .bool fA∧a0B (r01_Right.j0 kq fA aI aA aJ = some r)∧a0B (kq≤k)∧a0B (wc.heap[bG]? = some (.cells #[.int .i64 aI,.string aA,.int .i64 aJ] 101 (0,0)))∧a0B (Below w.heap.size w wc))
 case first =>
  have H:=HC2.out;clear HC2;by_cases c4:(aA.size:Int) < 1
  ·rw [if_pos c4] at H;have c4b0:decide ((aA.size:Int) < 1) = true:=zI0 c4;have c4b1:decide (aA.size < 1) = true:=zI0 qC0;clear c4
   (first | rw [c4b0] | (simp only [a4P,a5B];rw [c4b0]) | skip)
   have H':=a0B.mk H;clear H;have kA:w3.cell? ⟨bG,0,none⟩ = some (.int .i64 aI):=(a0I aK.out 0).trans rfl;have kB:w3.cell? ⟨bG,1,none⟩ = some (.string aA):=(a0I aK.out 1).trans rfl;have kC:w3.cell? ⟨bG,2,none⟩ = some (.int .i64 aJ):=(a0I aK.out 2).trans rfl;have kD:=a0K aK.out 0;have kE:=a0K aK.out 1;have kF:=a0K aK.out 2;go_wp2;go_meet
   case rel =>exact ⟨_,(true),qH0,H',⟨by first | omega | exact zJ0 _⟩,⟨by (with_reducible repeat (first | refine a0T ?_ _ | refine a0W ?_ | refine a0Q ?_ _));exact aK.out⟩,⟨by repeat (first | (with_reducible first | exact HB.out | apply a0D | apply a0C | apply a0E | refine a0O ?_ aZ.out) | exact HB.out)⟩⟩
  ·rw [if_neg c4] at H;have c4b0:decide ((aA.size:Int) < 1) = false:=zM0 c4;have c4b1:decide (aA.size < 1) = false:=zM0 qC0;clear c4
   (first | rw [c4b0] | (simp only [a4P,a5B];rw [c4b0]) | skip)
   have H':=a0B.mk H;clear H;have kG:w3.cell? ⟨bG,0,none⟩ = some (.int .i64 aI):=(a0I aK.out 0).trans rfl;have kH:w3.cell? ⟨bG,1,none⟩ = some (.string aA):=(a0I aK.out 1).trans rfl;have kJ:w3.cell? ⟨bG,2,none⟩ = some (.int .i64 aJ):=(a0I aK.out 2).trans rfl;have kK:=a0K aK.out 0;have kN:=a0K aK.out 1;have kO:=a0K aK.out 2;go_wp2;go_meet
   case rel =>exact ⟨_,(decide ((aA.size:Int) > 65536)),qH0,H',⟨by first | omega | exact zJ0 _⟩,⟨by (with_reducible repeat (first | refine a0T ?_ _ | refine a0W ?_ | refine a0Q ?_ _));exact aK.out⟩,⟨by repeat (first | (with_reducible first | exact HB.out | apply a0D | apply a0C | apply a0E | refine a0O ?_ aZ.out) | exact HB.out)⟩⟩
 case rest =>
  clear HC2;obtain ⟨kq,fA,rfl,HA,HJ1,aK,HB⟩:=hcut;cases kq with
  | zero =>exact absurd HA.out (by simp [r01_Right.j0])
  | succ kj1 =>
   have H:=HA.out;clear HA;simp only [r01_Right.j0] at H;by_cases c7:fA = true
   ·subst c7;rw [if_pos rfl] at H;exact absurd H qE0
   ·replace c7:=Bool.eq_false_iff.mpr c7;subst c7;rw [if_neg (show ¬ (false = true) by decide)] at H;have H':=a0B.mk H;clear H;go_wp2;go_loopg [3] kj1 (fun kq v3 w' =>∃ (aN:Int),v3 = .int .i64 aN∧a0B (r01_Right.l0 kq aN aI aA aJ = some r)∧a0B (kq≤kj1)∧a0B (w'.heap[bG]? = some (.cells #[.int .i64 aI,.string aA,.int .i64 aJ] 101 (0,0)))∧a0B (Below w.heap.size w w'))
    case atStart =>exact ⟨(0),qH0,H',⟨zJ0 _⟩,⟨by (with_reducible repeat (first | refine a0T ?_ _ | refine a0W ?_ | refine a0Q ?_ _));exact aK.out⟩,⟨by repeat (first | (with_reducible first | exact HB.out | apply a0D | apply a0C | apply a0E | refine a0O ?_ aZ.out) | exact HB.out)⟩⟩
    case round =>
     clear H';obtain ⟨aN,rfl,HA,HK2,aK,HB⟩:=hrel;cases gk with
     | zero =>exact absurd HA.out (by simp [r01_Right.l0])
     | succ k2 =>
      have H:=HA.out;clear HA;simp only [r01_Right.l0] at H;by_cases c8:aN < (aA.size:Int)
      ·rw [if_pos c8] at H;have c8b0:decide (aN < (aA.size:Int)) = true:=zI0 c8;clear c8;by_cases c9:0≤aN
       ·rw [if_pos c9] at H;have c9b0:decide (0≤aN) = true:=zI0 c9;clear c9;by_cases c11:aI = 0
        ·rw [if_pos c11] at H;have c11b0:(aI == 0) = true:=beq_iff_eq.mpr c11;have c11b1:(aI != 0) = false:=bne_eq_false_iff_eq.mpr c11;clear c11;obtain ⟨t105,A12,H⟩:=ob_ H;by_cases c13:t105 = true
         ·subst c13;rw [if_pos rfl] at H;by_cases c14:aI = 1
          ·rw [if_pos c14] at H;have c14b0:(aI == 1) = true:=beq_iff_eq.mpr c14;have c14b1:(aI != 1) = false:=bne_eq_false_iff_eq.mpr c14;clear c14;obtain ⟨t106,A15,H⟩:=ob_ H;by_cases c16:t106 = true
           ·subst c16;rw [if_pos rfl] at H;by_cases c17:aI = 2
            ·rw [if_pos c17] at H;have c17b0:(aI == 2) = true:=beq_iff_eq.mpr c17;have c17b1:(aI != 2) = false:=bne_eq_false_iff_eq.mpr c17;clear c17;obtain ⟨t107,A18,H⟩:=ob_ H;by_cases c19:t107 = true
             ·subst c19;rw [if_pos rfl] at H;have H':=a0B.mk H;clear H;have jA:=cf3 aK.out;have p10:0≤(aN:Int):=zB0 qA0;have q10:aN < (aA.size:Int):=zB0 qA0;have hx10:=a5L aA aN;replace p10:=eq_true p10;replace q10:=eq_true q10;go_wp2_with (first | (go_at_call 64;(with_reducible refine (r01_Inner.calls (bt aA aN) true _ A12.out).mono ?_);rintro e w' ⟨rfl,⟨nd,rfl⟩⟩) | (go_at_call 65;(with_reducible refine (r01_Digit.calls (bt aA aN) true _ A15.out).mono ?_);rintro e w' ⟨rfl,⟨nd,rfl⟩⟩) | (go_at_call 66;(with_reducible refine (r01_Sign.calls k2 (bt aA aN) true _ A18.out).mono ?_);rintro e w' ⟨rfl,⟨nd,rfl⟩⟩));go_roundg k2
              case measure =>have:=HJ1.out;have:=HK2.out;omega
              case rel =>exact ⟨(wrap64 (aN + 1)),qH0,H',⟨by have:=HJ1.out;have:=HK2.out;omega⟩,⟨by (with_reducible repeat (first | refine a0T ?_ _ | refine a0W ?_ | refine a0Q ?_ _));exact aK.out⟩,⟨by repeat (first | (with_reducible first | exact HB.out | apply a0D | apply a0C | apply a0E | refine a0O ?_ aZ.out) | exact HB.out)⟩⟩
             ·replace c19:=Bool.eq_false_iff.mpr c19;subst c19;rw [if_neg (show ¬ (false = true) by decide)] at H;exact absurd H qE0
            ·rw [if_neg c17] at H;have c17b0:(aI == 2) = false:=beq_eq_false_iff_ne.mpr c17;have c17b1:(aI != 2) = true:=bne_iff_ne.mpr c17;have H':=a0B.mk H;clear H;have jB:=cf3 aK.out;have p10:0≤(aN:Int):=zB0 qA0;have q10:aN < (aA.size:Int):=zB0 qA0;have hx10:=a5L aA aN;replace p10:=eq_true p10;replace q10:=eq_true q10;go_wp2_with (first | (go_at_call 64;(with_reducible refine (r01_Inner.calls (bt aA aN) true _ A12.out).mono ?_);rintro e w' ⟨rfl,⟨nd,rfl⟩⟩) | (go_at_call 65;(with_reducible refine (r01_Digit.calls (bt aA aN) true _ A15.out).mono ?_);rintro e w' ⟨rfl,⟨nd,rfl⟩⟩));go_roundg k2
             case measure =>have:=HJ1.out;have:=HK2.out;omega
             case rel =>exact ⟨(wrap64 (aN + 1)),qH0,H',⟨by have:=HJ1.out;have:=HK2.out;omega⟩,⟨by (with_reducible repeat (first | refine a0T ?_ _ | refine a0W ?_ | refine a0Q ?_ _));exact aK.out⟩,⟨by repeat (first | (with_reducible first | exact HB.out | apply a0D | apply a0C | apply a0E | refine a0O ?_ aZ.out) | exact HB.out)⟩⟩
           ·replace c16:=Bool.eq_false_iff.mpr c16;subst c16;rw [if_neg (show ¬ (false = true) by decide)] at H;exact absurd H qE0
          ·rw [if_neg c14] at H;have c14b0:(aI == 1) = false:=beq_eq_false_iff_ne.mpr c14;have c14b1:(aI != 1) = true:=bne_iff_ne.mpr c14;by_cases c22:aI = 2
           ·rw [if_pos c22] at H;have c22b0:(aI == 2) = true:=beq_iff_eq.mpr c22;have c22b1:(aI != 2) = false:=bne_eq_false_iff_eq.mpr c22;clear c22;obtain ⟨t108,A23,H⟩:=ob_ H;by_cases c24:t108 = true
            ·subst c24;rw [if_pos rfl] at H;have H':=a0B.mk H;clear H;have jC:=cf3 aK.out;have p10:0≤(aN:Int):=zB0 qA0;have q10:aN < (aA.size:Int):=zB0 qA0;have hx10:=a5L aA aN;replace p10:=eq_true p10;replace q10:=eq_true q10;go_wp2_with (first | (go_at_call 64;(with_reducible refine (r01_Inner.calls (bt aA aN) true _ A12.out).mono ?_);rintro e w' ⟨rfl,⟨nd,rfl⟩⟩) | (go_at_call 66;(with_reducible refine (r01_Sign.calls k2 (bt aA aN) true _ A23.out).mono ?_);rintro e w' ⟨rfl,⟨nd,rfl⟩⟩));go_roundg k2
             case measure =>have:=HJ1.out;have:=HK2.out;omega
             case rel =>exact ⟨(wrap64 (aN + 1)),qH0,H',⟨by have:=HJ1.out;have:=HK2.out;omega⟩,⟨by (with_reducible repeat (first | refine a0T ?_ _ | refine a0W ?_ | refine a0Q ?_ _));exact aK.out⟩,⟨by repeat (first | (with_reducible first | exact HB.out | apply a0D | apply a0C | apply a0E | refine a0O ?_ aZ.out) | exact HB.out)⟩⟩
            ·replace c24:=Bool.eq_false_iff.mpr c24;subst c24;rw [if_neg (show ¬ (false = true) by decide)] at H;exact absurd H qE0
           ·rw [if_neg c22] at H;have c22b0:(aI == 2) = false:=beq_eq_false_iff_ne.mpr c22;have c22b1:(aI != 2) = true:=bne_iff_ne.mpr c22;have H':=a0B.mk H;clear H;have jD:=cf3 aK.out;have p10:0≤(aN:Int):=zB0 qA0;have q10:aN < (aA.size:Int):=zB0 qA0;have hx10:=a5L aA aN;replace p10:=eq_true p10;replace q10:=eq_true q10;go_wp2_with (first | (go_at_call 64;(with_reducible refine (r01_Inner.calls (bt aA aN) true _ A12.out).mono ?_);rintro e w' ⟨rfl,⟨nd,rfl⟩⟩));go_roundg k2
            case measure =>have:=HJ1.out;have:=HK2.out;omega
            case rel =>exact ⟨(wrap64 (aN + 1)),qH0,H',⟨by have:=HJ1.out;have:=HK2.out;omega⟩,⟨by (with_reducible repeat (first | refine a0T ?_ _ | refine a0W ?_ | refine a0Q ?_ _));exact aK.out⟩,⟨by repeat (first | (with_reducible first | exact HB.out | apply a0D | apply a0C | apply a0E | refine a0O ?_ aZ.out) | exact HB.out)⟩⟩
         ·replace c13:=Bool.eq_false_iff.mpr c13;subst c13;rw [if_neg (show ¬ (false = true) by decide)] at H;exact absurd H qE0
        ·rw [if_neg c11] at H;have c11b0:(aI == 0) = false:=beq_eq_false_iff_ne.mpr c11;have c11b1:(aI != 0) = true:=bne_iff_ne.mpr c11;by_cases c27:aI = 1
         ·rw [if_pos c27] at H;have c27b0:(aI == 1) = true:=beq_iff_eq.mpr c27;have c27b1:(aI != 1) = false:=bne_eq_false_iff_eq.mpr c27;clear c27;obtain ⟨t109,A28,H⟩:=ob_ H;by_cases c29:t109 = true
          ·subst c29;rw [if_pos rfl] at H;by_cases c30:aI = 2
           ·rw [if_pos c30] at H;have c30b0:(aI == 2) = true:=beq_iff_eq.mpr c30;have c30b1:(aI != 2) = false:=bne_eq_false_iff_eq.mpr c30;clear c30;obtain ⟨t110,A31,H⟩:=ob_ H;by_cases c32:t110 = true
            ·subst c32;rw [if_pos rfl] at H;have H':=a0B.mk H;clear H;have jE:=cf3 aK.out;have p10:0≤(aN:Int):=zB0 qA0;have q10:aN < (aA.size:Int):=zB0 qA0;have hx10:=a5L aA aN;replace p10:=eq_true p10;replace q10:=eq_true q10;go_wp2_with (first | (go_at_call 65;(with_reducible refine (r01_Digit.calls (bt aA aN) true _ A28.out).mono ?_);rintro e w' ⟨rfl,⟨nd,rfl⟩⟩) | (go_at_call 66;(with_reducible refine (r01_Sign.calls k2 (bt aA aN) true _ A31.out).mono ?_);rintro e w' ⟨rfl,⟨nd,rfl⟩⟩));go_roundg k2
             case measure =>have:=HJ1.out;have:=HK2.out;omega
             case rel =>exact ⟨(wrap64 (aN + 1)),qH0,H',⟨by have:=HJ1.out;have:=HK2.out;omega⟩,⟨by (with_reducible repeat (first | refine a0T ?_ _ | refine a0W ?_ | refine a0Q ?_ _));exact aK.out⟩,⟨by repeat (first | (with_reducible first | exact HB.out | apply a0D | apply a0C | apply a0E | refine a0O ?_ aZ.out) | exact HB.out)⟩⟩
            ·replace c32:=Bool.eq_false_iff.mpr c32;subst c32;rw [if_neg (show ¬ (false = true) by decide)] at H;exact absurd H qE0
           ·rw [if_neg c30] at H;have c30b0:(aI == 2) = false:=beq_eq_false_iff_ne.mpr c30;have c30b1:(aI != 2) = true:=bne_iff_ne.mpr c30;have H':=a0B.mk H;clear H;have jF:=cf3 aK.out;have p10:0≤(aN:Int):=zB0 qA0;have q10:aN < (aA.size:Int):=zB0 qA0;have hx10:=a5L aA aN;replace p10:=eq_true p10;replace q10:=eq_true q10;go_wp2_with (first | (go_at_call 65;(with_reducible refine (r01_Digit.calls (bt aA aN) true _ A28.out).mono ?_);rintro e w' ⟨rfl,⟨nd,rfl⟩⟩));go_roundg k2
            case measure =>have:=HJ1.out;have:=HK2.out;omega
            case rel =>exact ⟨(wrap64 (aN + 1)),qH0,H',⟨by have:=HJ1.out;have:=HK2.out;omega⟩,⟨by (with_reducible repeat (first | refine a0T ?_ _ | refine a0W ?_ | refine a0Q ?_ _));exact aK.out⟩,⟨by repeat (first | (with_reducible first | exact HB.out | apply a0D | apply a0C | apply a0E | refine a0O ?_ aZ.out) | exact HB.out)⟩⟩
          ·replace c29:=Bool.eq_false_iff.mpr c29;subst c29;rw [if_neg (show ¬ (false = true) by decide)] at H;exact absurd H qE0
         ·rw [if_neg c27] at H;have c27b0:(aI == 1) = false:=beq_eq_false_iff_ne.mpr c27;have c27b1:(aI != 1) = true:=bne_iff_ne.mpr c27;by_cases c35:aI = 2
          ·rw [if_pos c35] at H;have c35b0:(aI == 2) = true:=beq_iff_eq.mpr c35;have c35b1:(aI != 2) = false:=bne_eq_false_iff_eq.mpr c35;clear c35;obtain ⟨t111,A36,H⟩:=ob_ H;by_cases c37:t111 = true
           ·subst c37;rw [if_pos rfl] at H;have H':=a0B.mk H;clear H;have jG:=cf3 aK.out;have p10:0≤(aN:Int):=zB0 qA0;have q10:aN < (aA.size:Int):=zB0 qA0;have hx10:=a5L aA aN;replace p10:=eq_true p10;replace q10:=eq_true q10;go_wp2_with (first | (go_at_call 66;(with_reducible refine (r01_Sign.calls k2 (bt aA aN) true _ A36.out).mono ?_);rintro e w' ⟨rfl,⟨nd,rfl⟩⟩));go_roundg k2
            case measure =>have:=HJ1.out;have:=HK2.out;omega
            case rel =>exact ⟨(wrap64 (aN + 1)),qH0,H',⟨by have:=HJ1.out;have:=HK2.out;omega⟩,⟨by (with_reducible repeat (first | refine a0T ?_ _ | refine a0W ?_ | refine a0Q ?_ _));exact aK.out⟩,⟨by repeat (first | (with_reducible first | exact HB.out | apply a0D | apply a0C | apply a0E | refine a0O ?_ aZ.out) | exact HB.out)⟩⟩
           ·replace c37:=Bool.eq_false_iff.mpr c37;subst c37;rw [if_neg (show ¬ (false = true) by decide)] at H;exact absurd H qE0
          ·rw [if_neg c35] at H;have c35b0:(aI == 2) = false:=beq_eq_false_iff_ne.mpr c35;have c35b1:(aI != 2) = true:=bne_iff_ne.mpr c35;have H':=a0B.mk H;clear H;have jH:=cf3 aK.out;have p10:0≤(aN:Int):=zB0 qA0;have q10:aN < (aA.size:Int):=zB0 qA0;have hx10:=a5L aA aN;replace p10:=eq_true p10;replace q10:=eq_true q10;go_wp2;go_roundg k2
           case measure =>have:=HJ1.out;have:=HK2.out;omega
           case rel =>exact ⟨(wrap64 (aN + 1)),qH0,H',⟨by have:=HJ1.out;have:=HK2.out;omega⟩,⟨by (with_reducible repeat (first | refine a0T ?_ _ | refine a0W ?_ | refine a0Q ?_ _));exact aK.out⟩,⟨by repeat (first | (with_reducible first | exact HB.out | apply a0D | apply a0C | apply a0E | refine a0O ?_ aZ.out) | exact HB.out)⟩⟩
       ·rw [if_neg c9] at H;exact absurd H qE0
      ·rw [if_neg c8] at H;have c8b0:decide (aN < (aA.size:Int)) = false:=zM0 c8;clear c8;by_cases c40:aI = 0
       ·rw [if_pos c40] at H;have c40b0:(aI == 0) = true:=beq_iff_eq.mpr c40;have c40b1:(aI != 0) = false:=bne_eq_false_iff_eq.mpr c40;clear c40;by_cases c41:0 < (aA.size:Int)
        ·rw [if_pos c41] at H;have c41b0:decide (0 < (aA.size:Int)) = true:=zI0 c41;have c41b1:decide (0 < aA.size) = true:=zI0 qC0;clear c41;obtain ⟨t112,A43,H⟩:=ob_ H;obtain rfl:=zC0 H;have jI:=cf3 aK.out;have p42:0≤(0:Int):=(by omega);have q42:0 < aA.size:=(by have:(0:Int) < (aA.size:Int):=zB0 qA0;omega);have hx42:∀ h:0 < aA.size,((aA[0]'h).toNat:Int) = bt aA 0:=a5L aA 0;clear p42;have qi42:(0 < (aA.size:Int)) = True:=eq_true (zB0 qA0);replace q42:=eq_true q42;go_wp2_with (first | ((with_reducible refine a1A (f:=63) rfl ?_);refine a2H (some 60) rfl rfl Tryz.func63 qF0 rfl #[.int .u8 (bt aA 0)] rfl qD0 ?_;(with_reducible refine (r01_Letter.calls (bt aA 0) t112 _ A43.out).mono ?_);rintro e w' ⟨rfl,⟨nd,rfl⟩⟩;refine ⟨_,rfl,?_⟩));go_ret;exact qF3
        ·rw [if_neg c41] at H;exact absurd H qE0
       ·rw [if_neg c40] at H;have c40b0:(aI == 0) = false:=beq_eq_false_iff_ne.mpr c40;have c40b1:(aI != 0) = true:=bne_iff_ne.mpr c40;by_cases c45:aI = 1
        ·rw [if_pos c45] at H;have c45b0:(aI == 1) = true:=beq_iff_eq.mpr c45;have c45b1:(aI != 1) = false:=bne_eq_false_iff_eq.mpr c45;clear c45;obtain rfl:=zC0 H;have jJ:=cf3 aK.out;go_wp2;go_ret;exact qF3
        ·rw [if_neg c45] at H;have c45b0:(aI == 1) = false:=beq_eq_false_iff_ne.mpr c45;have c45b1:(aI != 1) = true:=bne_iff_ne.mpr c45;by_cases c47:aI = 2
         ·rw [if_pos c47] at H;have c47b0:(aI == 2) = true:=beq_iff_eq.mpr c47;have c47b1:(aI != 2) = false:=bne_eq_false_iff_eq.mpr c47;clear c47;obtain rfl:=zC0 H;have jK:=cf3 aK.out;go_wp2;go_ret;exact qF3
         ·rw [if_neg c47] at H;have c47b0:(aI == 2) = false:=beq_eq_false_iff_ne.mpr c47;have c47b1:(aI != 2) = true:=bne_iff_ne.mpr c47;obtain rfl:=zC0 H;have jL:=cf3 aK.out;go_wp2;go_ret;exact qF3
def r02_is.f (k:Nat) (aE:List (S101)) (aA:Int) (aJ:Int) (aR:Int) (aQ:Int) (aT:Int) (a1:ByteArray):Option (Bool):=(r02_ok.f aE aA aJ aR aQ aT).bind fun t114 =>(if t114 = true then (if aA < (aE.length:Int) then (if 0≤aA then ((r01_Right.f k ((a0U aE aA).f0) ((a0U aE aA).f1) ((a0U aE aA).f2)).bind fun t116 =>(if t116 = true then (if ((a0U aE aA).f1).toList = a1.toList then (some (((a0U aE aA).f0) != 1)) else (some false)) else (some false))) else (none)) else (some false)) else (some false))
theorem r02_is.lf {p:Prop} (h:p:=by go_enter Tryz.func91,Tryz.ntmps91;go_wp2_with (first | ((with_reducible refine a0N (N:=2) rfl ?_);(try (refine a3G (by rfl) ?_;dsimp only));refine a1K ?hg (N:=2) ?hd (cs:=#[.slice aX aE.length aV,.int .i64 aA,.int .i64 aJ,.int .i64 aR,.int .i64 aQ,.int .i64 aT]) (t:=103) ?hr ?_;(case hd =>rfl);(case hg =>rfl);(case hr =>first | (go_simp;done) | (go_simp;rfl));intro cL hg w900 hbox hb;have bC:=a0B.mk (a0L qG0 hb);have cI:=a0B.mk (hbox);have cJ:=a0B.mk ((by rw [hg];exact (a1G qG0):w.heap.size≤cL));have eZ:=a0B.mk ((by rw [hg];exact (a1G qG0):w.heap.size≤cL));clear HB;have HB:=bC;have aW:=cI;have GW113:=cJ;have dF:=eZ;clear bC cI cJ eZ;clear hb hbox hg;have bF:=cf6 aW.out) | ((with_reducible refine a1A (f:=67) rfl ?_);refine a2H (some 6) rfl rfl Tryz.func67 qF0 rfl #[.agg #[.slice aX aE.length aV,.int .i64 aA,.int .i64 aJ,.int .i64 aR,.int .i64 aQ,.int .i64 aT]] rfl qD0 ?_;(with_reducible refine (r02_ok.calls _ _ aE aA aJ aR aQ aT _ _ ?side1 ?side2 A3.out).mono ?_);(case side1 =>repeat (first | exact (Kd.a0H aY.out HB.out) | (with_reducible refine Kd.a1V ?_ _) | (with_reducible refine Kd.a1N ?_ _) | (with_reducible refine Kd.a2B ?_)));(case side2 =>exact bH.out);rintro e w900 ⟨rfl,hb⟩;refine ⟨_,rfl,?_⟩;replace aW:=a0B.mk (a0P (g:=cL) (o:=.cells #[.slice aX aE.length aV,.int .i64 aA,.int .i64 aJ,.int .i64 aR,.int .i64 aQ,.int .i64 aT] 103 (0,0)) qM0 hb);replace HB:=a0B.mk (a0L qK0 hb);(try clear hb);have bF:=cf6 aW.out;have p115:0≤(aA:Int):=zB0 qA0;have q115:aA < (aE.length:Int):=zB0 qA0;obtain ⟨ad115,e115,fB,fC,fD⟩:=a4I aY.out aA p115 q115;cases e115;replace fB:=a0A HB.out fB;replace fC:=a0A HB.out fC;replace fD:=a0A HB.out fD;replace p115:=eq_true p115;replace q115:=eq_true q115) | ((with_reducible refine a1A (f:=67) rfl ?_);refine a2H (some 6) rfl rfl Tryz.func67 qF0 rfl #[.agg #[.slice aX aE.length aV,.int .i64 aA,.int .i64 aJ,.int .i64 aR,.int .i64 aQ,.int .i64 aT]] rfl qD0 ?_;(with_reducible refine (r02_ok.calls _ _ aE aA aJ aR aQ aT _ _ ?side1 ?side2 A3.out).mono ?_);(case side1 =>repeat (first | exact (Kd.a0H aY.out HB.out) | (with_reducible refine Kd.a1V ?_ _) | (with_reducible refine Kd.a1N ?_ _) | (with_reducible refine Kd.a2B ?_)));(case side2 =>exact bH.out);rintro e w900 ⟨rfl,hb⟩;refine ⟨_,rfl,?_⟩;replace aW:=a0B.mk (a0P (g:=cL) (o:=.cells #[.slice aX aE.length aV,.int .i64 aA,.int .i64 aJ,.int .i64 aR,.int .i64 aQ,.int .i64 aT] 103 (0,0)) qM0 hb);replace HB:=a0B.mk (a0L qK0 hb);(try clear hb);have bF:=cf6 aW.out) | ((with_reducible refine a1A (f:=67) rfl ?_);refine a2H (some 6) rfl rfl Tryz.func67 qF0 rfl #[.agg #[.slice aX aE.length aV,.int .i64 aA,.int .i64 aJ,.int .i64 aR,.int .i64 aQ,.int .i64 aT]] rfl qD0 ?_;(with_reducible refine (r02_ok.calls _ _ aE aA aJ aR aQ aT _ _ ?side1 ?side2 A3.out).mono ?_);(case side1 =>repeat (first | exact (Kd.a0H aY.out HB.out) | (with_reducible refine Kd.a1V ?_ _) | (with_reducible refine Kd.a1N ?_ _) | (with_reducible refine Kd.a2B ?_)));(case side2 =>exact bH.out);rintro e w900 ⟨rfl,hb⟩;refine ⟨_,rfl,?_⟩;replace aW:=a0B.mk (a0P (g:=cL) (o:=.cells #[.slice aX aE.length aV,.int .i64 aA,.int .i64 aJ,.int .i64 aR,.int .i64 aQ,.int .i64 aT] 103 (0,0)) qM0 hb);replace HB:=a0B.mk (a0L qK0 hb);(try clear hb)) | (go_at_call 111;(with_reducible refine (r01_Right.calls k ((a0U aE aA).f0) ((a0U aE aA).f1) ((a0U aE aA).f2) _ _ A7.out).mono ?_);rintro e w900 ⟨rfl,hb⟩;replace aW:=a0B.mk (a0P (g:=cL) (o:=.cells #[.slice (some ad115) aE.length aV,.int .i64 aA,.int .i64 aJ,.int .i64 aR,.int .i64 aQ,.int .i64 aT] 103 (0,0)) qM0 hb);replace HB:=a0B.mk (a0L qK0 hb);(try clear hb);have bF:=cf6 aW.out;have p117:0≤(aA:Int):=zB0 qA0;have q117:aA < (aE.length:Int):=zB0 qA0;obtain ⟨ad117,e117,bI,bJ,bK⟩:=a4I aY.out aA p117 q117;obtain rfl:ad115 = ad117:=(by injection e117);replace bI:=a0A HB.out bI;replace bJ:=a0A HB.out bJ;replace bK:=a0A HB.out bK;replace p117:=eq_true p117;replace q117:=eq_true q117;have p118:0≤(aA:Int):=zB0 qA0;have q118:aA < (aE.length:Int):=zB0 qA0;obtain ⟨ad118,e118,fE,fF,fG⟩:=a4I aY.out aA p118 q118;obtain rfl:ad115 = ad118:=(by injection e118);replace fE:=a0A HB.out fE;replace fF:=a0A HB.out fF;replace fG:=a0A HB.out fG;replace p118:=eq_true p118;replace q118:=eq_true q118) | (go_at_call 111;(with_reducible refine (r01_Right.calls k ((a0U aE aA).f0) ((a0U aE aA).f1) ((a0U aE aA).f2) _ _ A7.out).mono ?_);rintro e w900 ⟨rfl,hb⟩;replace aW:=a0B.mk (a0P (g:=cL) (o:=.cells #[.slice (some ad115) aE.length aV,.int .i64 aA,.int .i64 aJ,.int .i64 aR,.int .i64 aQ,.int .i64 aT] 103 (0,0)) qM0 hb);replace HB:=a0B.mk (a0L qK0 hb);(try clear hb);have bF:=cf6 aW.out;have p117:0≤(aA:Int):=zB0 qA0;have q117:aA < (aE.length:Int):=zB0 qA0;obtain ⟨ad117,e117,bI,bJ,bK⟩:=a4I aY.out aA p117 q117;obtain rfl:ad115 = ad117:=(by injection e117);replace bI:=a0A HB.out bI;replace bJ:=a0A HB.out bJ;replace bK:=a0A HB.out bK;replace p117:=eq_true p117;replace q117:=eq_true q117) | (go_at_call 111;(with_reducible refine (r01_Right.calls k ((a0U aE aA).f0) ((a0U aE aA).f1) ((a0U aE aA).f2) _ _ A7.out).mono ?_);rintro e w900 ⟨rfl,hb⟩;replace aW:=a0B.mk (a0P (g:=cL) (o:=.cells #[.slice (some ad115) aE.length aV,.int .i64 aA,.int .i64 aJ,.int .i64 aR,.int .i64 aQ,.int .i64 aT] 103 (0,0)) qM0 hb);replace HB:=a0B.mk (a0L qK0 hb);(try clear hb)));go_ret;exact ⟨by first | rfl | (simp [a0Z,a0Y] <;> rfl) | (simp [*,a0Z,a0Y] <;> rfl),by repeat (first | (with_reducible first | exact HB.out | apply a0D | apply a0C | apply a0E | refine a0O ?_ dF.out) | exact HB.out)⟩):p:=h
theorem r02_is.calls (k:Nat) (aX:Option Addr) (aV:Nat) (aE:List (S101)) (aA:Int) (aJ:Int) (aR:Int) (aQ:Int) (aT:Int) (a1:ByteArray) (r:Bool) (w:World) (cG:Kd.C k101 w aX aE.length aE) (cH:aE.length≤aV) (h:r02_is.f k aE aA aJ aR aQ aT a1 = some r) :
    Calls Tryz.prog 91 #[.agg #[.slice aX aE.length aV,.int .i64 aA,.int .i64 aJ,.int .i64 aR,.int .i64 aQ,.int .i64 aT],.string a1] w fun e w' =>e = .returned (.bool r)∧Below w.heap.size w w':=by
 have hu103:=Tryz.underlying103;have hu101:=Tryz.underlying101;have aY:=a0B.mk cG;have bH:=a0B.mk cH;clear cG cH;have HB:=a0B.mk (zG0 w.heap.size w);have H:((r02_ok.f aE aA aJ aR aQ aT).bind fun t114 =>(if t114 = true then (if aA < (aE.length:Int) then (if 0≤aA then ((r01_Right.f k ((a0U aE aA).f0) ((a0U aE aA).f1) ((a0U aE aA).f2)).bind fun t116 =>(if t116 = true then (if ((a0U aE aA).f1).toList = a1.toList then (some (((a0U aE aA).f0) != 1)) else (some false)) else (some false))) else (none)) else (some false)) else (some false))) = some r:=h;clear h;obtain ⟨t114,A3,H⟩:=ob_ H;by_cases c4:t114 = true
 ·subst c4;rw [if_pos rfl] at H;by_cases c5:aA < (aE.length:Int)
  ·rw [if_pos c5] at H;have c5b0:decide (aA < (aE.length:Int)) = true:=zI0 c5;clear c5;by_cases c6:0≤aA
   ·rw [if_pos c6] at H;have c6b0:decide (0≤aA) = true:=zI0 c6;clear c6;obtain ⟨t116,A7,H⟩:=ob_ H;by_cases c8:t116 = true
    ·subst c8;rw [if_pos rfl] at H;by_cases c9:((a0U aE aA).f1).toList = a1.toList
     ·rw [if_pos c9] at H;have c9b0:(((a0U aE aA).f1).toList == a1.toList) = true:=beq_iff_eq.mpr c9;have c9b1:(((a0U aE aA).f1).toList != a1.toList) = false:=bne_eq_false_iff_eq.mpr c9;clear c9;obtain rfl:=zC0 H;exact r02_is.lf
     ·rw [if_neg c9] at H;have c9b0:(((a0U aE aA).f1).toList == a1.toList) = false:=beq_eq_false_iff_ne.mpr c9;have c9b1:(((a0U aE aA).f1).toList != a1.toList) = true:=bne_iff_ne.mpr c9;obtain rfl:=zC0 H;exact r02_is.lf
    ·replace c8:=Bool.eq_false_iff.mpr c8;subst c8;rw [if_neg (show ¬ (false = true) by decide)] at H;obtain rfl:=zC0 H;exact r02_is.lf
   ·rw [if_neg c6] at H;exact absurd H qE0
  ·rw [if_neg c5] at H;have c5b0:decide (aA < (aE.length:Int)) = false:=zM0 c5;clear c5;obtain rfl:=zC0 H;exact r02_is.lf
 ·replace c4:=Bool.eq_false_iff.mpr c4;subst c4;rw [if_neg (show ¬ (false = true) by decide)] at H;obtain rfl:=zC0 H;exact r02_is.lf
def r02_Keyword.l0:Nat→ByteArray→List ByteArray→Int→Option (Bool)
 | 0,_,_,_ =>none
 | k + 1,x0,x3,x4 =>if x4 < (x3.length:Int) then (if 0≤x4 then (if (rdOf ByteArray.empty x3 x4).toList = x0.toList then (some true) else (r02_Keyword.l0 k x0 x3 (wrap64 (x4 + 1)))) else (none)) else (some false)
def r02_Keyword.f (k:Nat) (a0:ByteArray):Option (Bool):=r02_Keyword.l0 k a0 (([(⟨#[102,117,110]⟩:ByteArray),(⟨#[111,117,116]⟩:ByteArray),(⟨#[114,101,116,117,114,110]⟩:ByteArray),(⟨#[105,102]⟩:ByteArray),(⟨#[101,108,115,101]⟩:ByteArray),(⟨#[119,104,105,108,101]⟩:ByteArray),(⟨#[110,101,119]⟩:ByteArray),(⟨#[112,114,111,116,111]⟩:ByteArray),(⟨#[99,97,108,108]⟩:ByteArray),(⟨#[105,110]⟩:ByteArray),(⟨#[110,117,108,108]⟩:ByteArray),(⟨#[116,114,117,101]⟩:ByteArray),(⟨#[102,97,108,115,101]⟩:ByteArray)]:List ByteArray)) 0
theorem r02_Keyword.calls (k:Nat) (a0:ByteArray) (r:Bool) (w:World) (h:r02_Keyword.f k a0 = some r) :
    Calls Tryz.prog 119 #[.string a0] w fun e w' =>e = .returned (.bool r)∧Below w.heap.size w w':=by
 have HB:=a0B.mk (zG0 w.heap.size w);have H:(r02_Keyword.l0 k a0 (([(⟨#[102,117,110]⟩:ByteArray),(⟨#[111,117,116]⟩:ByteArray),(⟨#[114,101,116,117,114,110]⟩:ByteArray),(⟨#[105,102]⟩:ByteArray),(⟨#[101,108,115,101]⟩:ByteArray),(⟨#[119,104,105,108,101]⟩:ByteArray),(⟨#[110,101,119]⟩:ByteArray),(⟨#[112,114,111,116,111]⟩:ByteArray),(⟨#[99,97,108,108]⟩:ByteArray),(⟨#[105,110]⟩:ByteArray),(⟨#[110,117,108,108]⟩:ByteArray),(⟨#[116,114,117,101]⟩:ByteArray),(⟨#[102,97,108,115,101]⟩:ByteArray)]:List ByteArray)) 0) = some r:=h;clear h;obtain ⟨y119,hy119⟩:∃ y_:List ByteArray,y_ = (([(⟨#[102,117,110]⟩:ByteArray),(⟨#[111,117,116]⟩:ByteArray),(⟨#[114,101,116,117,114,110]⟩:ByteArray),(⟨#[105,102]⟩:ByteArray),(⟨#[101,108,115,101]⟩:ByteArray),(⟨#[119,104,105,108,101]⟩:ByteArray),(⟨#[110,101,119]⟩:ByteArray),(⟨#[112,114,111,116,111]⟩:ByteArray),(⟨#[99,97,108,108]⟩:ByteArray),(⟨#[105,110]⟩:ByteArray),(⟨#[110,117,108,108]⟩:ByteArray),(⟨#[116,114,117,101]⟩:ByteArray),(⟨#[102,97,108,115,101]⟩:ByteArray)]:List ByteArray)):=⟨_,rfl⟩;replace H:(r02_Keyword.l0 k a0 y119 0) = some r:=by first | (rw [hy119];with_reducible exact H) | (have H2_:=(zU0 _ _).symm.trans H;rw [hy119];with_reducible exact H2_) | (have H2_:=(zU0 _ _).symm.trans H;with_reducible exact H2_) | with_reducible exact H | (rw [hy119];exact H) | exact H
 have Ny119:=a0B.mk hy119;clear hy119;have H':=a0B.mk H;clear H;go_enter Tryz.func119,Tryz.ntmps119
 go_wp2_with (first | ((with_reducible refine a0N (N:=5) rfl ?_);refine Kd.R_lit Kd.string _ 9 ?hg (N:=5) ?hd (xs:=([(⟨#[102,117,110]⟩:ByteArray),(⟨#[111,117,116]⟩:ByteArray),(⟨#[114,101,116,117,114,110]⟩:ByteArray),(⟨#[105,102]⟩:ByteArray),(⟨#[101,108,115,101]⟩:ByteArray),(⟨#[119,104,105,108,101]⟩:ByteArray),(⟨#[110,101,119]⟩:ByteArray),(⟨#[112,114,111,116,111]⟩:ByteArray),(⟨#[99,97,108,108]⟩:ByteArray),(⟨#[105,110]⟩:ByteArray),(⟨#[110,117,108,108]⟩:ByteArray),(⟨#[116,114,117,101]⟩:ByteArray),(⟨#[102,97,108,115,101]⟩:ByteArray)]:List ByteArray)) (inner:=[.string (⟨#[102,117,110]⟩:ByteArray),.string (⟨#[111,117,116]⟩:ByteArray),.string (⟨#[114,101,116,117,114,110]⟩:ByteArray),.string (⟨#[105,102]⟩:ByteArray),.string (⟨#[101,108,115,101]⟩:ByteArray),.string (⟨#[119,104,105,108,101]⟩:ByteArray),.string (⟨#[110,101,119]⟩:ByteArray),.string (⟨#[112,114,111,116,111]⟩:ByteArray),.string (⟨#[99,97,108,108]⟩:ByteArray),.string (⟨#[105,110]⟩:ByteArray),.string (⟨#[110,117,108,108]⟩:ByteArray),.string (⟨#[116,114,117,101]⟩:ByteArray),.string (⟨#[102,97,108,115,101]⟩:ByteArray)]) (ok:=fun _ =>True) (okp:=fun _ =>True) ?hr ?hp (fun _ hk =>hk) trivial (zG0 _ _) (zJ0 _) qE0 ?_;(case hd =>rfl);(case hg =>rfl);(case hr =>first | (go_simp;done) | (go_simp;rfl));(case hp =>exact (Reps.one (show Kd.M Kd.string _ _ _ (⟨#[102,117,110]⟩:ByteArray) [.string (⟨#[102,117,110]⟩:ByteArray)] from rfl) (Reps.one (show Kd.M Kd.string _ _ _ (⟨#[111,117,116]⟩:ByteArray) [.string (⟨#[111,117,116]⟩:ByteArray)] from rfl) (Reps.one (show Kd.M Kd.string _ _ _ (⟨#[114,101,116,117,114,110]⟩:ByteArray) [.string (⟨#[114,101,116,117,114,110]⟩:ByteArray)] from rfl) (Reps.one (show Kd.M Kd.string _ _ _ (⟨#[105,102]⟩:ByteArray) [.string (⟨#[105,102]⟩:ByteArray)] from rfl) (Reps.one (show Kd.M Kd.string _ _ _ (⟨#[101,108,115,101]⟩:ByteArray) [.string (⟨#[101,108,115,101]⟩:ByteArray)] from rfl) (Reps.one (show Kd.M Kd.string _ _ _ (⟨#[119,104,105,108,101]⟩:ByteArray) [.string (⟨#[119,104,105,108,101]⟩:ByteArray)] from rfl) (Reps.one (show Kd.M Kd.string _ _ _ (⟨#[110,101,119]⟩:ByteArray) [.string (⟨#[110,101,119]⟩:ByteArray)] from rfl) (Reps.one (show Kd.M Kd.string _ _ _ (⟨#[112,114,111,116,111]⟩:ByteArray) [.string (⟨#[112,114,111,116,111]⟩:ByteArray)] from rfl) (Reps.one (show Kd.M Kd.string _ _ _ (⟨#[99,97,108,108]⟩:ByteArray) [.string (⟨#[99,97,108,108]⟩:ByteArray)] from rfl) (Reps.one (show Kd.M Kd.string _ _ _ (⟨#[105,110]⟩:ByteArray) [.string (⟨#[105,110]⟩:ByteArray)] from rfl) (Reps.one (show Kd.M Kd.string _ _ _ (⟨#[110,117,108,108]⟩:ByteArray) [.string (⟨#[110,117,108,108]⟩:ByteArray)] from rfl) (Reps.one (show Kd.M Kd.string _ _ _ (⟨#[116,114,117,101]⟩:ByteArray) [.string (⟨#[116,114,117,101]⟩:ByteArray)] from rfl) (Reps.one (show Kd.M Kd.string _ _ _ (⟨#[102,97,108,115,101]⟩:ByteArray) [.string (⟨#[102,97,108,115,101]⟩:ByteArray)] from rfl) (Reps.none _ _)))))))))))))));intro v120 w2 ho3 hb hg_ hnew_;clear hg_ hnew_;(first | rw [← Ny119.out] at ho3 | (simp only [Int.reduceToNat] at ho3;rw [← Ny119.out] at ho3));have HO121:=a0B.mk (Kd.a4J ho3 (a1G qG0));replace HB:=a0B.mk (a0L qG0 hb);clear hb ho3));go_loopg [4] k (fun kq v4 w' =>∃ (aC:Int),v4 = .int .i64 aC∧a0B (r02_Keyword.l0 kq a0 y119 aC = some r)∧a0B (kq≤k)∧a0B (Kd.R Kd.string 9 w' w.heap.size (fun _ =>True) v120 y119)∧a0B (Below w.heap.size w w'))
 case atStart =>exact ⟨(0),qH0,H',⟨zJ0 _⟩,⟨by (with_reducible repeat (first | apply Kd.a2J | apply Kd.a2I | apply Kd.a3H));exact HO121.out⟩,⟨by repeat (first | (with_reducible first | exact HB.out | apply a0D | apply a0C | apply a0E) | exact HB.out)⟩⟩
 case round =>
  clear H';obtain ⟨aC,rfl,HA,HK1,gW,HB⟩:=hrel;cases gk with
  | zero =>exact absurd HA.out (by simp [r02_Keyword.l0])
  | succ k1 =>
   have H:=HA.out;clear HA;simp only [r02_Keyword.l0] at H;by_cases c4:aC < (y119.length:Int)
   ·rw [if_pos c4] at H;have c4b0:decide (aC < (y119.length:Int)) = true:=zI0 c4;clear c4;by_cases c5:0≤aC
    ·rw [if_pos c5] at H;have c5b0:decide (0≤aC) = true:=zI0 c5;clear c5;by_cases c6:(rdOf ByteArray.empty y119 aC).toList = a0.toList
     ·rw [if_pos c6] at H;have c6b0:((rdOf ByteArray.empty y119 aC).toList == a0.toList) = true:=beq_iff_eq.mpr c6;have c6b1:((rdOf ByteArray.empty y119 aC).toList != a0.toList) = false:=bne_eq_false_iff_eq.mpr c6;clear c6;obtain rfl:=zC0 H;obtain ⟨Ao7,co7,eo7⟩:=Kd.a3D gW.out;subst eo7;have p122:0≤(aC:Int):=zB0 qA0;have q122:aC < (y119.length:Int):=zB0 qA0;obtain ⟨ad122,e122,iF⟩:=Kd.a3A (Kd.a2V gW.out).2.2 aC p122 q122;cases e122;replace p122:=eq_true p122;replace q122:=eq_true q122;go_wp2;go_ret;exact qG3
     ·rw [if_neg c6] at H;have c6b0:((rdOf ByteArray.empty y119 aC).toList == a0.toList) = false:=beq_eq_false_iff_ne.mpr c6;have c6b1:((rdOf ByteArray.empty y119 aC).toList != a0.toList) = true:=bne_iff_ne.mpr c6;have H':=a0B.mk H;clear H;obtain ⟨Ao8,co8,eo8⟩:=Kd.a3D gW.out;subst eo8;have p122:0≤(aC:Int):=zB0 qA0;have q122:aC < (y119.length:Int):=zB0 qA0;obtain ⟨ad122,e122,iF⟩:=Kd.a3A (Kd.a2V gW.out).2.2 aC p122 q122;cases e122;replace p122:=eq_true p122;replace q122:=eq_true q122;go_wp2;go_roundg k1
      case measure =>have:=HK1.out;omega
      case rel =>exact ⟨(wrap64 (aC + 1)),qH0,H',⟨by have:=HK1.out;omega⟩,⟨by (with_reducible repeat (first | apply Kd.a2J | apply Kd.a2I | apply Kd.a3H));exact gW.out⟩,⟨by repeat (first | (with_reducible first | exact HB.out | apply a0D | apply a0C | apply a0E) | exact HB.out)⟩⟩
    ·rw [if_neg c5] at H;exact absurd H qE0
   ·rw [if_neg c4] at H;have c4b0:decide (aC < (y119.length:Int)) = false:=zM0 c4;clear c4;obtain rfl:=zC0 H;obtain ⟨Ao9,co9,eo9⟩:=Kd.a3D gW.out;subst eo9;go_wp2;go_ret;exact qG3
def r02_Name.f (k:Nat) (a0:ByteArray):Option (Bool):=(r01_Right.f k 0 a0 0).bind fun t123 =>(if t123 = true then ((r02_Keyword.f k a0).bind fun t124 =>(some (!t124))) else (some false))
theorem r02_Name.calls (k:Nat) (a0:ByteArray) (r:Bool) (w:World) (h:r02_Name.f k a0 = some r) :
    Calls Tryz.prog 110 #[.string a0] w fun e w' =>e = .returned (.bool r)∧Below w.heap.size w w':=by
 have hu101:=Tryz.underlying101;have HB:=a0B.mk (zG0 w.heap.size w);have H:((r01_Right.f k 0 a0 0).bind fun t123 =>(if t123 = true then ((r02_Keyword.f k a0).bind fun t124 =>(some (!t124))) else (some false))) = some r:=h;clear h;obtain ⟨t123,A2,H⟩:=ob_ H;by_cases c3:t123 = true
 ·subst c3;rw [if_pos rfl] at H;obtain ⟨t124,A4,H⟩:=ob_ H;obtain rfl:=zC0 H;go_enter Tryz.func110,Tryz.ntmps110
  go_wp2_with (first | ((with_reducible refine a1A (f:=111) rfl ?_);refine a2H (some 5) rfl rfl Tryz.func111 qF0 rfl #[.agg #[.int .i64 0,.string a0,.int .i64 0]] rfl qD0 ?_;(with_reducible refine (r01_Right.calls k 0 a0 0 true _ A2.out).mono ?_);rintro e w5 ⟨rfl,hb⟩;refine ⟨_,rfl,?_⟩;replace HB:=a0B.mk (a0L qG0 hb);(try clear hb)) | (go_at_call 119;(with_reducible refine (r02_Keyword.calls k a0 t124 _ A4.out).mono ?_);rintro e w6 ⟨rfl,hb⟩;replace HB:=a0B.mk (a0L qG0 hb);(try clear hb)));go_ret;exact qG3
 ·replace c3:=Bool.eq_false_iff.mpr c3;subst c3;rw [if_neg (show ¬ (false = true) by decide)] at H;obtain rfl:=zC0 H;go_enter Tryz.func110,Tryz.ntmps110
  go_wp2_with (first | ((with_reducible refine a1A (f:=111) rfl ?_);refine a2H (some 5) rfl rfl Tryz.func111 qF0 rfl #[.agg #[.int .i64 0,.string a0,.int .i64 0]] rfl qD0 ?_;(with_reducible refine (r01_Right.calls k 0 a0 0 false _ A2.out).mono ?_);rintro e w7 ⟨rfl,hb⟩;refine ⟨_,rfl,?_⟩;replace HB:=a0B.mk (a0L qG0 hb);(try clear hb)));go_ret;exact qG3
def r02_isName.f (k:Nat) (aE:List (S101)) (aA:Int) (aJ:Int) (aR:Int) (aQ:Int) (aT:Int):Option (Bool):=(r02_ok.f aE aA aJ aR aQ aT).bind fun t126 =>(if t126 = true then (if aA < (aE.length:Int) then (if 0≤aA then (if ((a0U aE aA).f0) = 0 then ((r02_Name.f k ((a0U aE aA).f1)).bind fun t129 =>(some t129)) else (some false)) else (none)) else (some false)) else (some false))
theorem r02_isName.lf {p:Prop} (h:p:=by go_enter Tryz.func89,Tryz.ntmps89;go_wp2_with (first | ((with_reducible refine a0N (N:=1) rfl ?_);(try (refine a3G (by rfl) ?_;dsimp only));refine a1K ?hg (N:=1) ?hd (cs:=#[.slice aX aE.length aV,.int .i64 aA,.int .i64 aJ,.int .i64 aR,.int .i64 aQ,.int .i64 aT]) (t:=103) ?hr ?_;(case hd =>rfl);(case hg =>rfl);(case hr =>first | (go_simp;done) | (go_simp;rfl));intro dG hg w900 hbox hb;have bC:=a0B.mk (a0L qG0 hb);have cI:=a0B.mk (hbox);have cJ:=a0B.mk ((by rw [hg];exact (a1G qG0):w.heap.size≤dG));have eZ:=a0B.mk ((by rw [hg];exact (a1G qG0):w.heap.size≤dG));clear HB;have HB:=bC;have bD:=cI;have GW125:=cJ;have dH:=eZ;clear bC cI cJ eZ;clear hb hbox hg;have bF:=cf6 bD.out) | ((with_reducible refine a1A (f:=67) rfl ?_);refine a2H (some 4) rfl rfl Tryz.func67 qF0 rfl #[.agg #[.slice aX aE.length aV,.int .i64 aA,.int .i64 aJ,.int .i64 aR,.int .i64 aQ,.int .i64 aT]] rfl qD0 ?_;(with_reducible refine (r02_ok.calls _ _ aE aA aJ aR aQ aT _ _ ?side1 ?side2 A2.out).mono ?_);(case side1 =>repeat (first | exact (Kd.a0H aY.out HB.out) | (with_reducible refine Kd.a1V ?_ _) | (with_reducible refine Kd.a1N ?_ _) | (with_reducible refine Kd.a2B ?_)));(case side2 =>exact bH.out);rintro e w900 ⟨rfl,hb⟩;refine ⟨_,rfl,?_⟩;replace bD:=a0B.mk (a0P (g:=dG) (o:=.cells #[.slice aX aE.length aV,.int .i64 aA,.int .i64 aJ,.int .i64 aR,.int .i64 aQ,.int .i64 aT] 103 (0,0)) qR0 hb);replace HB:=a0B.mk (a0L qL0 hb);(try clear hb);have bF:=cf6 bD.out;have p127:0≤(aA:Int):=zB0 qA0;have q127:aA < (aE.length:Int):=zB0 qA0;obtain ⟨ad127,e127,bM,bN,bO⟩:=a4I aY.out aA p127 q127;cases e127;replace bM:=a0A HB.out bM;replace bN:=a0A HB.out bN;replace bO:=a0A HB.out bO;replace p127:=eq_true p127;replace q127:=eq_true q127;have p128:0≤(aA:Int):=zB0 qA0;have q128:aA < (aE.length:Int):=zB0 qA0;obtain ⟨ad128,e128,fH,fI,fJ⟩:=a4I aY.out aA p128 q128;obtain rfl:ad127 = ad128:=(by injection e128);replace fH:=a0A HB.out fH;replace fI:=a0A HB.out fI;replace fJ:=a0A HB.out fJ;replace p128:=eq_true p128;replace q128:=eq_true q128) | ((with_reducible refine a1A (f:=67) rfl ?_);refine a2H (some 4) rfl rfl Tryz.func67 qF0 rfl #[.agg #[.slice aX aE.length aV,.int .i64 aA,.int .i64 aJ,.int .i64 aR,.int .i64 aQ,.int .i64 aT]] rfl qD0 ?_;(with_reducible refine (r02_ok.calls _ _ aE aA aJ aR aQ aT _ _ ?side1 ?side2 A2.out).mono ?_);(case side1 =>repeat (first | exact (Kd.a0H aY.out HB.out) | (with_reducible refine Kd.a1V ?_ _) | (with_reducible refine Kd.a1N ?_ _) | (with_reducible refine Kd.a2B ?_)));(case side2 =>exact bH.out);rintro e w900 ⟨rfl,hb⟩;refine ⟨_,rfl,?_⟩;replace bD:=a0B.mk (a0P (g:=dG) (o:=.cells #[.slice aX aE.length aV,.int .i64 aA,.int .i64 aJ,.int .i64 aR,.int .i64 aQ,.int .i64 aT] 103 (0,0)) qR0 hb);replace HB:=a0B.mk (a0L qL0 hb);(try clear hb);have bF:=cf6 bD.out;have p127:0≤(aA:Int):=zB0 qA0;have q127:aA < (aE.length:Int):=zB0 qA0;obtain ⟨ad127,e127,bM,bN,bO⟩:=a4I aY.out aA p127 q127;cases e127;replace bM:=a0A HB.out bM;replace bN:=a0A HB.out bN;replace bO:=a0A HB.out bO;replace p127:=eq_true p127;replace q127:=eq_true q127) | ((with_reducible refine a1A (f:=67) rfl ?_);refine a2H (some 4) rfl rfl Tryz.func67 qF0 rfl #[.agg #[.slice aX aE.length aV,.int .i64 aA,.int .i64 aJ,.int .i64 aR,.int .i64 aQ,.int .i64 aT]] rfl qD0 ?_;(with_reducible refine (r02_ok.calls _ _ aE aA aJ aR aQ aT _ _ ?side1 ?side2 A2.out).mono ?_);(case side1 =>repeat (first | exact (Kd.a0H aY.out HB.out) | (with_reducible refine Kd.a1V ?_ _) | (with_reducible refine Kd.a1N ?_ _) | (with_reducible refine Kd.a2B ?_)));(case side2 =>exact bH.out);rintro e w900 ⟨rfl,hb⟩;refine ⟨_,rfl,?_⟩;replace bD:=a0B.mk (a0P (g:=dG) (o:=.cells #[.slice aX aE.length aV,.int .i64 aA,.int .i64 aJ,.int .i64 aR,.int .i64 aQ,.int .i64 aT] 103 (0,0)) qR0 hb);replace HB:=a0B.mk (a0L qL0 hb);(try clear hb);have bF:=cf6 bD.out) | ((with_reducible refine a1A (f:=67) rfl ?_);refine a2H (some 4) rfl rfl Tryz.func67 qF0 rfl #[.agg #[.slice aX aE.length aV,.int .i64 aA,.int .i64 aJ,.int .i64 aR,.int .i64 aQ,.int .i64 aT]] rfl qD0 ?_;(with_reducible refine (r02_ok.calls _ _ aE aA aJ aR aQ aT _ _ ?side1 ?side2 A2.out).mono ?_);(case side1 =>repeat (first | exact (Kd.a0H aY.out HB.out) | (with_reducible refine Kd.a1V ?_ _) | (with_reducible refine Kd.a1N ?_ _) | (with_reducible refine Kd.a2B ?_)));(case side2 =>exact bH.out);rintro e w900 ⟨rfl,hb⟩;refine ⟨_,rfl,?_⟩;replace bD:=a0B.mk (a0P (g:=dG) (o:=.cells #[.slice aX aE.length aV,.int .i64 aA,.int .i64 aJ,.int .i64 aR,.int .i64 aQ,.int .i64 aT] 103 (0,0)) qR0 hb);replace HB:=a0B.mk (a0L qL0 hb);(try clear hb)) | (go_at_call 110;(with_reducible refine (r02_Name.calls k ((a0U aE aA).f1) t129 _ A7.out).mono ?_);rintro e w900 ⟨rfl,hb⟩;replace bD:=a0B.mk (a0P (g:=dG) (o:=.cells #[.slice (some ad127) aE.length aV,.int .i64 aA,.int .i64 aJ,.int .i64 aR,.int .i64 aQ,.int .i64 aT] 103 (0,0)) qR0 hb);replace HB:=a0B.mk (a0L qL0 hb);(try clear hb)));go_ret;exact ⟨by first | rfl | (simp [a0Z,a0Y] <;> rfl) | (simp [*,a0Z,a0Y] <;> rfl),by repeat (first | (with_reducible first | exact HB.out | apply a0D | apply a0C | apply a0E | refine a0O ?_ dH.out) | exact HB.out)⟩):p:=h
theorem r02_isName.calls (k:Nat) (aX:Option Addr) (aV:Nat) (aE:List (S101)) (aA:Int) (aJ:Int) (aR:Int) (aQ:Int) (aT:Int) (r:Bool) (w:World) (cG:Kd.C k101 w aX aE.length aE) (cH:aE.length≤aV) (h:r02_isName.f k aE aA aJ aR aQ aT = some r) :
    Calls Tryz.prog 89 #[.agg #[.slice aX aE.length aV,.int .i64 aA,.int .i64 aJ,.int .i64 aR,.int .i64 aQ,.int .i64 aT]] w fun e w' =>e = .returned (.bool r)∧Below w.heap.size w w':=by
 have hu103:=Tryz.underlying103;have aY:=a0B.mk cG;have bH:=a0B.mk cH;clear cG cH;have HB:=a0B.mk (zG0 w.heap.size w);have H:((r02_ok.f aE aA aJ aR aQ aT).bind fun t126 =>(if t126 = true then (if aA < (aE.length:Int) then (if 0≤aA then (if ((a0U aE aA).f0) = 0 then ((r02_Name.f k ((a0U aE aA).f1)).bind fun t129 =>(some t129)) else (some false)) else (none)) else (some false)) else (some false))) = some r:=h;clear h;obtain ⟨t126,A2,H⟩:=ob_ H;by_cases c3:t126 = true
 ·subst c3;rw [if_pos rfl] at H;by_cases c4:aA < (aE.length:Int)
  ·rw [if_pos c4] at H;have c4b0:decide (aA < (aE.length:Int)) = true:=zI0 c4;clear c4;by_cases c5:0≤aA
   ·rw [if_pos c5] at H;have c5b0:decide (0≤aA) = true:=zI0 c5;clear c5;by_cases c6:((a0U aE aA).f0) = 0
    ·rw [if_pos c6] at H;have c6b0:(((a0U aE aA).f0) == 0) = true:=beq_iff_eq.mpr c6;have c6b1:(((a0U aE aA).f0) != 0) = false:=bne_eq_false_iff_eq.mpr c6;clear c6;obtain ⟨t129,A7,H⟩:=ob_ H;obtain rfl:=zC0 H;exact r02_isName.lf
    ·rw [if_neg c6] at H;have c6b0:(((a0U aE aA).f0) == 0) = false:=beq_eq_false_iff_ne.mpr c6;have c6b1:(((a0U aE aA).f0) != 0) = true:=bne_iff_ne.mpr c6;obtain rfl:=zC0 H;exact r02_isName.lf
   ·rw [if_neg c5] at H;exact absurd H qE0
  ·rw [if_neg c4] at H;have c4b0:decide (aA < (aE.length:Int)) = false:=zM0 c4;clear c4;obtain rfl:=zC0 H;exact r02_isName.lf
 ·replace c3:=Bool.eq_false_iff.mpr c3;subst c3;rw [if_neg (show ¬ (false = true) by decide)] at H;obtain rfl:=zC0 H;exact r02_isName.lf
def r01_Blank.f (a0:Int):Option (Bool):=if a0 = 9 then (some true) else (if a0 = 10 then (some true) else (if a0 = 13 then (some true) else (some (a0 == 32))))
theorem r01_Blank.calls (a0:Int) (r:Bool) (w:World) (h:r01_Blank.f a0 = some r) :
    Calls Tryz.prog 62 #[.int .u8 a0] w fun e w' =>e = .returned (.bool r)∧a0S w w':=by
 have H:(if a0 = 9 then (some true) else (if a0 = 10 then (some true) else (if a0 = 13 then (some true) else (some (a0 == 32))))) = some r:=h;clear h;by_cases c2:a0 = 9
 ·rw [if_pos c2] at H;have c2b0:(a0 == 9) = true:=beq_iff_eq.mpr c2;have c2b1:(a0 != 9) = false:=bne_eq_false_iff_eq.mpr c2;clear c2;obtain rfl:=zC0 H;go_enter Tryz.func62,Tryz.ntmps62
  go_wp2;go_ret;exact qE3
 ·rw [if_neg c2] at H;have c2b0:(a0 == 9) = false:=beq_eq_false_iff_ne.mpr c2;have c2b1:(a0 != 9) = true:=bne_iff_ne.mpr c2;by_cases c3:a0 = 10
  ·rw [if_pos c3] at H;have c3b0:(a0 == 10) = true:=beq_iff_eq.mpr c3;have c3b1:(a0 != 10) = false:=bne_eq_false_iff_eq.mpr c3;clear c3;obtain rfl:=zC0 H;go_enter Tryz.func62,Tryz.ntmps62
   go_wp2;go_ret;exact qE3
  ·rw [if_neg c3] at H;have c3b0:(a0 == 10) = false:=beq_eq_false_iff_ne.mpr c3;have c3b1:(a0 != 10) = true:=bne_iff_ne.mpr c3;by_cases c4:a0 = 13
   ·rw [if_pos c4] at H;have c4b0:(a0 == 13) = true:=beq_iff_eq.mpr c4;have c4b1:(a0 != 13) = false:=bne_eq_false_iff_eq.mpr c4;clear c4;obtain rfl:=zC0 H;go_enter Tryz.func62,Tryz.ntmps62
    go_wp2;go_ret;exact qE3
   ·rw [if_neg c4] at H;have c4b0:(a0 == 13) = false:=beq_eq_false_iff_ne.mpr c4;have c4b1:(a0 != 13) = true:=bne_iff_ne.mpr c4;obtain rfl:=zC0 H;go_enter Tryz.func62,Tryz.ntmps62
    go_wp2;go_ret;exact qE3
mutual
def r01_Lex.l0:Nat→ByteArray→List (S101)→Int→Option ((List (S101)) × Int × Int)
 | 0,_,_,_ =>none
 | k + 1,x0,x4,x5 =>if x5 < (x0.size:Int) then (if 0≤x5 then ((r01_Blank.f (bt x0 x5)).bind fun t134 =>(if t134 = true then (r01_Lex.l0 k x0 x4 (wrap64 (x5 + 1))) else (if (bt x0 x5) = 35 then (none) else ((r01_Letter.f (bt x0 x5)).bind fun t135 =>(if t135 = true then (r01_Lex.l1 k x0 x4 x5 (wrap64 (x5 + 1)) 0) else ((r01_Digit.f (bt x0 x5)).bind fun t143 =>(if t143 = true then (r01_Lex.l2 k x0 x4 x5 (wrap64 (x5 + 1)) 1) else ((r01_Sign.f k (bt x0 x5)).bind fun t149 =>(if t149 = true then (if x5≤(wrap64 (x5 + 1)) then (if (wrap64 (x5 + 1))≤(x0.size:Int) then (if x4.length < 4398046511104 then (r01_Lex.l0 k x0 (x4 ++ [(⟨2,x0.extract (x5:Int).toNat ((wrap64 (x5 + 1)):Int).toNat,x5⟩:S101)]) (wrap64 (x5 + 1))) else (none)) else (none)) else (none)) else (none)))))))))) else (none)) else (some (x4,0,0))
def r01_Lex.l1:Nat→ByteArray→List (S101)→Int→Int→Int→Option ((List (S101)) × Int × Int)
 | 0,_,_,_,_,_ =>none
 | k + 1,x0,x4,x5,x7,x8 =>if x7 < (x0.size:Int) then (if 0≤x7 then ((r01_Inner.f (bt x0 x7)).bind fun t136 =>(if t136 = true then (r01_Lex.l1 k x0 x4 x5 (wrap64 (x7 + 1)) x8) else (if 0≤x5 then (if x5≤x7 then (if x7≤(x0.size:Int) then (if x4.length < 4398046511104 then (r01_Lex.l0 k x0 (x4 ++ [(⟨x8,x0.extract (x5:Int).toNat (x7:Int).toNat,x5⟩:S101)]) x7) else (none)) else (none)) else (none)) else (none)))) else (none)) else (if 0≤x5 then (if x5≤x7 then (if x7≤(x0.size:Int) then (if x4.length < 4398046511104 then (r01_Lex.l0 k x0 (x4 ++ [(⟨x8,x0.extract (x5:Int).toNat (x7:Int).toNat,x5⟩:S101)]) x7) else (none)) else (none)) else (none)) else (none))
def r01_Lex.l2:Nat→ByteArray→List (S101)→Int→Int→Int→Option ((List (S101)) × Int × Int)
 | 0,_,_,_,_,_ =>none
 | k + 1,x0,x4,x5,x7,x8 =>if x7 < (x0.size:Int) then (if 0≤x7 then ((r01_Inner.f (bt x0 x7)).bind fun t144 =>(r01_Lex.j3 k x0 x4 x5 x7 x8 t144)) else (none)) else (r01_Lex.j3 k x0 x4 x5 x7 x8 false)
def r01_Lex.j3:Nat→ByteArray→List (S101)→Int→Int→Int→Bool→Option ((List (S101)) × Int × Int)
 | 0,_,_,_,_,_,_ =>none
 | k + 1,x0,x4,x5,x7,x8,x66 =>if x66 = true then (if 0≤x7 then (if x7 < (x0.size:Int) then ((r01_Digit.f (bt x0 x7)).bind fun t145 =>(if t145 = true then (r01_Lex.l2 k x0 x4 x5 (wrap64 (x7 + 1)) x8) else (none))) else (none)) else (none)) else (if (wrap64 (x7 - x5)) > 9 then (none) else (if 0≤x5 then (if x5≤x7 then (if x7≤(x0.size:Int) then (if x4.length < 4398046511104 then (r01_Lex.l0 k x0 (x4 ++ [(⟨x8,x0.extract (x5:Int).toNat (x7:Int).toNat,x5⟩:S101)]) x7) else (none)) else (none)) else (none)) else (none)))
end
def r01_Lex.f (k:Nat) (a0:ByteArray):Option ((List (S101)) × Int × Int):=if (a0.size:Int) > 65536 then (none) else (r01_Lex.l0 k a0 (([]:List (S101))) 0)
theorem r01_Lex.calls (k:Nat) (a0:ByteArray) (r1:List (S101)) (r2:Int) (r3:Int) (w:World) (h:r01_Lex.f k a0 = some (r1,r2,r3)) :
    Calls Tryz.prog 44 #[.string a0] w fun e w' =>∃ v0_:Value,e = .returned (.tuple #[v0_,.agg #[.int .i64 r2,.int .i64 r3]])∧Kd.R k101 101 w' w.heap.size (fun _ =>True) v0_ r1∧Below w.heap.size w w':=by
 have hu52:=Tryz.underlying52;have hu101:=Tryz.underlying101;have HB:=a0B.mk (zG0 w.heap.size w);have H:(if (a0.size:Int) > 65536 then (none) else (r01_Lex.l0 k a0 (([]:List (S101))) 0)) = some (r1,r2,r3):=h;clear h;by_cases c2:(a0.size:Int) > 65536
 ·rw [if_pos c2] at H;exact absurd H qE0
 ·rw [if_neg c2] at H;have c2b0:decide (65536 < (a0.size:Int)) = false:=zM0 c2;have c2b1:decide (65536 < a0.size) = false:=zM0 qC0;clear c2;obtain ⟨y131,hy131⟩:∃ y_:List (S101),y_ = (([]:List (S101))):=⟨_,rfl⟩;replace H:(r01_Lex.l0 k a0 y131 0) = some (r1,r2,r3):=by first | (rw [hy131];with_reducible exact H) | (have H2_:=(zU0 _ _).symm.trans H;rw [hy131];with_reducible exact H2_) | (have H2_:=(zU0 _ _).symm.trans H;with_reducible exact H2_) | with_reducible exact H | (rw [hy131];exact H) | exact H
  have Ny131:=a0B.mk hy131;clear hy131;have H':=a0B.mk H;clear H;go_enter Tryz.func44,Tryz.ntmps44
  go_wp2_with (first | ((with_reducible refine a0N (N:=3) rfl ?_);refine a1K ?hg (N:=3) ?hd (cs:=#[.int .i64 0,.int .i64 0]) (t:=52) ?hr ?_;(case hd =>rfl);(case hg =>rfl);(case hr =>first | (go_simp;done) | (go_simp;rfl));intro bE hg w3 hbox hb;have bC:=a0B.mk (a0L qG0 hb);have cI:=a0B.mk (hbox);have cJ:=a0B.mk ((by rw [hg];exact (a1G qG0):w.heap.size≤bE));have eZ:=a0B.mk ((by rw [hg];exact (a1G qG0):w.heap.size≤bE));clear HB;have HB:=bC;have aM:=cI;have GW130:=cJ;have aU:=eZ;clear bC cI cJ eZ;clear hb hbox hg) | ((with_reducible refine a0N (N:=13) rfl ?_);refine Kd.R_lit k101 _ 101 ?hg (N:=13) ?hd (xs:=([]:List (S101))) (inner:=[]) (ok:=fun _ =>True) (okp:=fun _ =>True) ?hr ?hp (fun _ hk =>hk) trivial (zG0 _ _) (zJ0 _) qE0 ?_;(case hd =>rfl);(case hg =>rfl);(case hr =>first | (go_simp;done) | (go_simp;rfl));(case hp =>exact (Reps.none _ _));intro v132 w4 ho5 hb hg_ hnew_;clear hg_ hnew_;(first | rw [← Ny131.out] at ho5 | (simp only [Int.reduceToNat] at ho5;rw [← Ny131.out] at ho5));have HO133:=a0B.mk (Kd.a4J ho5 (a1G qJ0));replace aM:=a0B.mk (a0P (g:=bE) (o:=.cells #[.int .i64 0,.int .i64 0] 52 (0,0)) qS0 hb);replace HB:=a0B.mk (a0L qJ0 hb);clear hb ho5));go_loopg [4,5] k (fun kq v4 v5 w' =>∃ (aC:List (S101)) (aD:Int),v5 = .int .i64 aD∧a0B (r01_Lex.l0 kq a0 aC aD = some (r1,r2,r3))∧a0B (kq≤k)∧a0B (Kd.R k101 101 w' w.heap.size (fun _ =>True) v4 aC)∧a0B (w'.heap[bE]? = some (.cells #[.int .i64 0,.int .i64 0] 52 (0,0)))∧a0B (Below w.heap.size w w'))
  case atStart =>exact ⟨(y131),(0),qH0,H',⟨zJ0 _⟩,⟨by (with_reducible repeat (first | apply Kd.a2J | apply Kd.a2I | apply Kd.a3H));exact HO133.out⟩,⟨by (with_reducible repeat (first | refine a0T ?_ _ | refine a0W ?_ | refine a0Q ?_ _));exact aM.out⟩,⟨by repeat (first | (with_reducible first | exact HB.out | apply a0D | apply a0C | apply a0E | refine a0O ?_ aU.out) | exact HB.out)⟩⟩
  case round =>
   clear H';obtain ⟨aC,aD,rfl,HA,HK1,bA,aM,HB⟩:=hrel;cases gk with
   | zero =>exact absurd HA.out (by simp [r01_Lex.l0])
   | succ k1 =>
    have H:=HA.out;clear HA;simp only [r01_Lex.l0] at H;by_cases c6:aD < (a0.size:Int)
    ·rw [if_pos c6] at H;have c6b0:decide (aD < (a0.size:Int)) = true:=zI0 c6;clear c6;by_cases c7:0≤aD
     ·rw [if_pos c7] at H;have c7b0:decide (0≤aD) = true:=zI0 c7;clear c7;obtain ⟨t134,A9,H⟩:=ob_ H;by_cases c10:t134 = true
      ·subst c10;rw [if_pos rfl] at H;have H':=a0B.mk H;clear H;have p8:0≤(aD:Int):=zB0 qA0;have q8:aD < (a0.size:Int):=zB0 qA0;have hx8:=a5L a0 aD;replace p8:=eq_true p8;replace q8:=eq_true q8;go_wp2_with (first | ((with_reducible refine a1A (f:=62) rfl ?_);refine a2H (some 22) rfl rfl Tryz.func62 qF0 rfl #[.int .u8 (bt a0 aD)] rfl qD0 ?_;(with_reducible refine (r01_Blank.calls (bt a0 aD) true _ A9.out).mono ?_);rintro e w' ⟨rfl,⟨nd,rfl⟩⟩;refine ⟨_,rfl,?_⟩));go_roundg k1
       case measure =>have:=HK1.out;omega
       case rel =>exact ⟨(aC),(wrap64 (aD + 1)),qH0,H',⟨by have:=HK1.out;omega⟩,⟨by (with_reducible repeat (first | apply Kd.a2J | apply Kd.a2I | apply Kd.a3H));exact bA.out⟩,⟨by (with_reducible repeat (first | refine a0T ?_ _ | refine a0W ?_ | refine a0Q ?_ _));exact aM.out⟩,⟨by repeat (first | (with_reducible first | exact HB.out | apply a0D | apply a0C | apply a0E | refine a0O ?_ aU.out) | exact HB.out)⟩⟩
      ·replace c10:=Bool.eq_false_iff.mpr c10;subst c10;rw [if_neg (show ¬ (false = true) by decide)] at H;by_cases c11:(bt a0 aD) = 35
       ·rw [if_pos c11] at H;exact absurd H qE0
       ·rw [if_neg c11] at H;have c11b0:((bt a0 aD) == 35) = false:=beq_eq_false_iff_ne.mpr c11;have c11b1:((bt a0 aD) != 35) = true:=bne_iff_ne.mpr c11;obtain ⟨t135,A12,H⟩:=ob_ H;by_cases c13:t135 = true
        ·subst c13;rw [if_pos rfl] at H;have H':=a0B.mk H;clear H;have p8:0≤(aD:Int):=zB0 qA0;have q8:aD < (a0.size:Int):=zB0 qA0;have hx8:=a5L a0 aD;replace p8:=eq_true p8;replace q8:=eq_true q8;go_wp2_with (first | ((with_reducible refine a1A (f:=62) rfl ?_);refine a2H (some 22) rfl rfl Tryz.func62 qF0 rfl #[.int .u8 (bt a0 aD)] rfl qD0 ?_;(with_reducible refine (r01_Blank.calls (bt a0 aD) false _ A9.out).mono ?_);rintro e w' ⟨rfl,⟨nd,rfl⟩⟩;refine ⟨_,rfl,?_⟩) | ((with_reducible refine a1A (f:=63) rfl ?_);refine a2H (some 42) rfl rfl Tryz.func63 qF0 rfl #[.int .u8 (bt a0 aD)] rfl qD0 ?_;(with_reducible refine (r01_Letter.calls (bt a0 aD) true _ A12.out).mono ?_);rintro e w' ⟨rfl,⟨nd,rfl⟩⟩;refine ⟨_,rfl,?_⟩));go_loopg [7] k1 (fun kq v7 w' =>∃ (aG:Int),v7 = .int .i64 aG∧a0B (r01_Lex.l1 kq a0 aC aD aG 0 = some (r1,r2,r3))∧a0B (kq≤k1)∧a0B (Kd.R k101 101 w' w.heap.size (fun _ =>True) u4 aC)∧a0B (w'.heap[bE]? = some (.cells #[.int .i64 0,.int .i64 0] 52 (0,0)))∧a0B (Below w.heap.size w w'))
         case atStart =>exact ⟨(wrap64 (aD + 1)),qH0,H',⟨zJ0 _⟩,⟨by (with_reducible repeat (first | apply Kd.a2J | apply Kd.a2I | apply Kd.a3H));exact bA.out⟩,⟨by (with_reducible repeat (first | refine a0T ?_ _ | refine a0W ?_ | refine a0Q ?_ _));exact aM.out⟩,⟨by repeat (first | (with_reducible first | exact HB.out | apply a0D | apply a0C | apply a0E | refine a0O ?_ aU.out) | exact HB.out)⟩⟩
         case round =>
          clear H';obtain ⟨aG,rfl,HA,HK2,bA,aM,HB⟩:=hrel;cases gk with
          | zero =>exact absurd HA.out (by simp [r01_Lex.l1])
          | succ k2 =>
           have H:=HA.out;clear HA;simp only [r01_Lex.l1] at H;by_cases c14:aG < (a0.size:Int)
           ·rw [if_pos c14] at H;have c14b0:decide (aG < (a0.size:Int)) = true:=zI0 c14;clear c14;by_cases c15:0≤aG
            ·rw [if_pos c15] at H;have c15b0:decide (0≤aG) = true:=zI0 c15;clear c15;obtain ⟨t136,A17,H⟩:=ob_ H;by_cases c18:t136 = true
             ·subst c18;rw [if_pos rfl] at H;have H':=a0B.mk H;clear H;have p16:0≤(aG:Int):=zB0 qA0;have q16:aG < (a0.size:Int):=zB0 qA0;have hx16:=a5L a0 aG;replace p16:=eq_true p16;replace q16:=eq_true q16;go_wp2_with (first | (go_at_call 64;(with_reducible refine (r01_Inner.calls (bt a0 aG) true _ A17.out).mono ?_);rintro e w' ⟨rfl,⟨nd,rfl⟩⟩));go_roundg k2
              case measure =>have:=HK1.out;have:=HK2.out;omega
              case rel =>exact ⟨(wrap64 (aG + 1)),qH0,H',⟨by have:=HK1.out;have:=HK2.out;omega⟩,⟨by (with_reducible repeat (first | apply Kd.a2J | apply Kd.a2I | apply Kd.a3H));exact bA.out⟩,⟨by (with_reducible repeat (first | refine a0T ?_ _ | refine a0W ?_ | refine a0Q ?_ _));exact aM.out⟩,⟨by repeat (first | (with_reducible first | exact HB.out | apply a0D | apply a0C | apply a0E | refine a0O ?_ aU.out) | exact HB.out)⟩⟩
             ·replace c18:=Bool.eq_false_iff.mpr c18;subst c18;rw [if_neg (show ¬ (false = true) by decide)] at H;by_cases c19:0≤aD
              ·rw [if_pos c19] at H;have c19b0:=eq_true c19;have c19b1:decide (0≤aD) = true:=zI0 c19;clear c19;by_cases c20:aD≤aG
               ·rw [if_pos c20] at H;have c20b0:=eq_true c20;have c20b1:decide (aD≤aG) = true:=zI0 c20;clear c20;by_cases c21:aG≤(a0.size:Int)
                ·rw [if_pos c21] at H;have c21b0:=eq_true c21;have c21b1:decide (aG≤(a0.size:Int)) = true:=zI0 c21;clear c21;by_cases c22:aC.length < 4398046511104
                 ·rw [if_pos c22] at H;have LMc22:=a0B.mk c22;clear c22;obtain ⟨y137,hy137⟩:∃ y_:List (S101),y_ = (aC ++ [(⟨0,a0.extract (aD:Int).toNat (aG:Int).toNat,aD⟩:S101)]):=⟨_,rfl⟩;replace H:(r01_Lex.l0 k2 a0 y137 aG) = some (r1,r2,r3):=by first | (rw [hy137];with_reducible exact H) | (have H2_:=(zU0 _ _).symm.trans H;rw [hy137];with_reducible exact H2_) | (have H2_:=(zU0 _ _).symm.trans H;with_reducible exact H2_) | with_reducible exact H | (rw [hy137];exact H) | exact H
                  have Ny137:=a0B.mk hy137;clear hy137;have H':=a0B.mk H;clear H;have p16:0≤(aG:Int):=zB0 qA0;have q16:aG < (a0.size:Int):=zB0 qA0;have hx16:=a5L a0 aG;replace p16:=eq_true p16;replace q16:=eq_true q16;go_wp2_with (first | (go_at_call 64;(with_reducible refine (r01_Inner.calls (bt a0 aG) false _ A17.out).mono ?_);rintro e w' ⟨rfl,⟨nd,rfl⟩⟩) | ((with_reducible refine a1U (b:=.append) (xs:=#[.tmp 87,.tmp 95]) rfl ?_);at_builtin;refine Kd.a3Z k101 (w0:=w) w.heap.size rfl (.tmp 87) (.tmp 95) 74 101 (.agg #[(.int .i64 0),(.string ⟨#[]⟩),(.int .i64 0)]) 32 rfl Tryz.underlying74 b1Y rfl qB0 qC0 u4 aC (⟨0,a0.extract (aD:Int).toNat (aG:Int).toNat,aD⟩:S101) [.int .i64 0,.string (a0.extract (aD:Int).toNat (aG:Int).toNat),.int .i64 aD] (fun _ =>True) (fun _ =>False) rfl rfl ?aP (fun _ hk =>hk.elim) ?aF ?aO ?aB ?aS ?aL ?_;(case aP =>exact a8P _ _ _ (⟨0,a0.extract (aD:Int).toNat (aG:Int).toNat,aD⟩:S101));(case aB =>exact qJ0);(case aF =>exact (fun _ _ =>trivial));(case aO =>exact qU0);(case aS =>exact (a1G qJ0));(case aL =>have:=LMc22.out;omega);intro v138 w23 ho hb hg hat;rw [← Ny137.out] at ho;have bC:=a0B.mk (a1D (g:=bE) (o:=.cells #[.int .i64 0,.int .i64 0] 52 (0,0)) qS0 hg (Kd.R_ne bA.out aM.out qB0));have cI:=a0B.mk (hb);have cJ:=a0B.mk (ho);clear aM;clear HB;clear bA;have aM:=bC;have HB:=cI;have HO139:=cJ;clear bC cI cJ;clear ho hb hg hat));go_roundg k2
                  case measure =>have:=HK1.out;have:=HK2.out;omega
                  case rel =>exact ⟨(y137),(aG),qH0,H',⟨by have:=HK1.out;have:=HK2.out;omega⟩,⟨by (with_reducible repeat (first | apply Kd.a2J | apply Kd.a2I | apply Kd.a3H));exact HO139.out⟩,⟨by (with_reducible repeat (first | refine a0T ?_ _ | refine a0W ?_ | refine a0Q ?_ _));exact aM.out⟩,⟨by repeat (first | (with_reducible first | exact HB.out | apply a0D | apply a0C | apply a0E | refine a0O ?_ aU.out) | exact HB.out)⟩⟩
                 ·rw [if_neg c22] at H;exact absurd H qE0
                ·rw [if_neg c21] at H;exact absurd H qE0
               ·rw [if_neg c20] at H;exact absurd H qE0
              ·rw [if_neg c19] at H;exact absurd H qE0
            ·rw [if_neg c15] at H;exact absurd H qE0
           ·rw [if_neg c14] at H;have c14b0:decide (aG < (a0.size:Int)) = false:=zM0 c14;clear c14;by_cases c24:0≤aD
            ·rw [if_pos c24] at H;have c24b0:=eq_true c24;have c24b1:decide (0≤aD) = true:=zI0 c24;clear c24;by_cases c25:aD≤aG
             ·rw [if_pos c25] at H;have c25b0:=eq_true c25;have c25b1:decide (aD≤aG) = true:=zI0 c25;clear c25;by_cases c26:aG≤(a0.size:Int)
              ·rw [if_pos c26] at H;have c26b0:=eq_true c26;have c26b1:decide (aG≤(a0.size:Int)) = true:=zI0 c26;clear c26;by_cases c27:aC.length < 4398046511104
               ·rw [if_pos c27] at H;have LMc27:=a0B.mk c27;clear c27;obtain ⟨y140,hy140⟩:∃ y_:List (S101),y_ = (aC ++ [(⟨0,a0.extract (aD:Int).toNat (aG:Int).toNat,aD⟩:S101)]):=⟨_,rfl⟩;replace H:(r01_Lex.l0 k2 a0 y140 aG) = some (r1,r2,r3):=by first | (rw [hy140];with_reducible exact H) | (have H2_:=(zU0 _ _).symm.trans H;rw [hy140];with_reducible exact H2_) | (have H2_:=(zU0 _ _).symm.trans H;with_reducible exact H2_) | with_reducible exact H | (rw [hy140];exact H) | exact H
                have Ny140:=a0B.mk hy140;clear hy140;have H':=a0B.mk H;clear H;go_wp2_with (first | ((with_reducible refine a1U (b:=.append) (xs:=#[.tmp 87,.tmp 95]) rfl ?_);at_builtin;refine Kd.a3Z k101 (w0:=w) w.heap.size rfl (.tmp 87) (.tmp 95) 74 101 (.agg #[(.int .i64 0),(.string ⟨#[]⟩),(.int .i64 0)]) 32 rfl Tryz.underlying74 b1Y rfl qB0 qC0 u4 aC (⟨0,a0.extract (aD:Int).toNat (aG:Int).toNat,aD⟩:S101) [.int .i64 0,.string (a0.extract (aD:Int).toNat (aG:Int).toNat),.int .i64 aD] (fun _ =>True) (fun _ =>False) rfl rfl ?aP (fun _ hk =>hk.elim) ?aF ?aO ?aB ?aS ?aL ?_;(case aP =>exact a8P _ _ _ (⟨0,a0.extract (aD:Int).toNat (aG:Int).toNat,aD⟩:S101));(case aB =>exact qJ0);(case aF =>exact (fun _ _ =>trivial));(case aO =>exact qU0);(case aS =>exact (a1G qJ0));(case aL =>have:=LMc27.out;omega);intro v141 w28 ho hb hg hat;rw [← Ny140.out] at ho;have bC:=a0B.mk (a1D (g:=bE) (o:=.cells #[.int .i64 0,.int .i64 0] 52 (0,0)) qS0 hg (Kd.R_ne bA.out aM.out qB0));have cI:=a0B.mk (hb);have cJ:=a0B.mk (ho);clear aM;clear HB;clear bA;have aM:=bC;have HB:=cI;have HO142:=cJ;clear bC cI cJ;clear ho hb hg hat));go_roundg k2
                case measure =>have:=HK1.out;have:=HK2.out;omega
                case rel =>exact ⟨(y140),(aG),qH0,H',⟨by have:=HK1.out;have:=HK2.out;omega⟩,⟨by (with_reducible repeat (first | apply Kd.a2J | apply Kd.a2I | apply Kd.a3H));exact HO142.out⟩,⟨by (with_reducible repeat (first | refine a0T ?_ _ | refine a0W ?_ | refine a0Q ?_ _));exact aM.out⟩,⟨by repeat (first | (with_reducible first | exact HB.out | apply a0D | apply a0C | apply a0E | refine a0O ?_ aU.out) | exact HB.out)⟩⟩
               ·rw [if_neg c27] at H;exact absurd H qE0
              ·rw [if_neg c26] at H;exact absurd H qE0
             ·rw [if_neg c25] at H;exact absurd H qE0
            ·rw [if_neg c24] at H;exact absurd H qE0
        ·replace c13:=Bool.eq_false_iff.mpr c13;subst c13;rw [if_neg (show ¬ (false = true) by decide)] at H;obtain ⟨t143,A29,H⟩:=ob_ H;by_cases c30:t143 = true
         ·subst c30;rw [if_pos rfl] at H;have H':=a0B.mk H;clear H;have p8:0≤(aD:Int):=zB0 qA0;have q8:aD < (a0.size:Int):=zB0 qA0;have hx8:=a5L a0 aD;replace p8:=eq_true p8;replace q8:=eq_true q8;go_wp2_with (first | ((with_reducible refine a1A (f:=62) rfl ?_);refine a2H (some 22) rfl rfl Tryz.func62 qF0 rfl #[.int .u8 (bt a0 aD)] rfl qD0 ?_;(with_reducible refine (r01_Blank.calls (bt a0 aD) false _ A9.out).mono ?_);rintro e w' ⟨rfl,⟨nd,rfl⟩⟩;refine ⟨_,rfl,?_⟩) | ((with_reducible refine a1A (f:=63) rfl ?_);refine a2H (some 42) rfl rfl Tryz.func63 qF0 rfl #[.int .u8 (bt a0 aD)] rfl qD0 ?_;(with_reducible refine (r01_Letter.calls (bt a0 aD) false _ A12.out).mono ?_);rintro e w' ⟨rfl,⟨nd,rfl⟩⟩;refine ⟨_,rfl,?_⟩) | ((with_reducible refine a1A (f:=65) rfl ?_);refine a2H (some 56) rfl rfl Tryz.func65 qF0 rfl #[.int .u8 (bt a0 aD)] rfl qD0 ?_;(with_reducible refine (r01_Digit.calls (bt a0 aD) true _ A29.out).mono ?_);rintro e w' ⟨rfl,⟨nd,rfl⟩⟩;refine ⟨_,rfl,?_⟩));go_loopg [7] k1 (fun kq v7 w' =>∃ (aG:Int),v7 = .int .i64 aG∧a0B (r01_Lex.l2 kq a0 aC aD aG 1 = some (r1,r2,r3))∧a0B (kq≤k1)∧a0B (Kd.R k101 101 w' w.heap.size (fun _ =>True) u4 aC)∧a0B (w'.heap[bE]? = some (.cells #[.int .i64 0,.int .i64 0] 52 (0,0)))∧a0B (Below w.heap.size w w'))
          case atStart =>exact ⟨(wrap64 (aD + 1)),qH0,H',⟨zJ0 _⟩,⟨by (with_reducible repeat (first | apply Kd.a2J | apply Kd.a2I | apply Kd.a3H));exact bA.out⟩,⟨by (with_reducible repeat (first | refine a0T ?_ _ | refine a0W ?_ | refine a0Q ?_ _));exact aM.out⟩,⟨by repeat (first | (with_reducible first | exact HB.out | apply a0D | apply a0C | apply a0E | refine a0O ?_ aU.out) | exact HB.out)⟩⟩
          case round =>
           clear H';obtain ⟨aG,rfl,HA,HK2,bA,aM,HB⟩:=hrel;cases gk with
           | zero =>exact absurd HA.out (by simp [r01_Lex.l2])
           | succ k2 =>
            have H:=HA.out;clear HA;simp only [r01_Lex.l2] at H;have HC31:=a0B.mk H;clear H;go_upto_region 20 with (fail)
            go_cut [66] (fun v66 wc =>∃ (kq:Nat) (dI:Bool),v66 = .bool dI∧a0B (r01_Lex.j3 kq a0 aC aD aG 1 dI = some (r1,r2,r3))∧a0B (kq≤k2)∧a0B (Kd.R k101 101 wc w.heap.size (fun _ =>True) u4 aC)∧a0B (wc.heap[bE]? = some (.cells #[.int .i64 0,.int .i64 0] 52 (0,0)))∧a0B (Below w.heap.size w wc))
            case first =>
             have H:=HC31.out;clear HC31;by_cases c32:aG < (a0.size:Int)
             ·rw [if_pos c32] at H;have c32b0:decide (aG < (a0.size:Int)) = true:=zI0 c32;clear c32
              (first | rw [c32b0] | (simp only [a4P,a5B];rw [c32b0]) | skip)
              by_cases c33:0≤aG
              ·rw [if_pos c33] at H;have c33b0:decide (0≤aG) = true:=zI0 c33;clear c33;obtain ⟨t144,A35,H⟩:=ob_ H;have H':=a0B.mk H;clear H;have p34:0≤(aG:Int):=zB0 qA0;have q34:aG < (a0.size:Int):=zB0 qA0;have hx34:=a5L a0 aG;replace p34:=eq_true p34;replace q34:=eq_true q34;go_wp2_with (first | (go_at_call 64;(with_reducible refine (r01_Inner.calls (bt a0 aG) t144 _ A35.out).mono ?_);rintro e w' ⟨rfl,⟨nd,rfl⟩⟩));go_meet
               case rel =>exact ⟨_,(t144),qH0,H',⟨by have:=HK1.out;have:=HK2.out;first | omega | exact zJ0 _⟩,⟨by (with_reducible repeat (first | apply Kd.a2J | apply Kd.a2I | apply Kd.a3H));exact bA.out⟩,⟨by (with_reducible repeat (first | refine a0T ?_ _ | refine a0W ?_ | refine a0Q ?_ _));exact aM.out⟩,⟨by repeat (first | (with_reducible first | exact HB.out | apply a0D | apply a0C | apply a0E | refine a0O ?_ aU.out) | exact HB.out)⟩⟩
              ·rw [if_neg c33] at H;exact absurd H qE0
             ·rw [if_neg c32] at H;have c32b0:decide (aG < (a0.size:Int)) = false:=zM0 c32;clear c32
              (first | rw [c32b0] | (simp only [a4P,a5B];rw [c32b0]) | skip)
              have H':=a0B.mk H;clear H;go_wp2;go_meet
              case rel =>exact ⟨_,(false),qH0,H',⟨by have:=HK1.out;have:=HK2.out;first | omega | exact zJ0 _⟩,⟨by (with_reducible repeat (first | apply Kd.a2J | apply Kd.a2I | apply Kd.a3H));exact bA.out⟩,⟨by (with_reducible repeat (first | refine a0T ?_ _ | refine a0W ?_ | refine a0Q ?_ _));exact aM.out⟩,⟨by repeat (first | (with_reducible first | exact HB.out | apply a0D | apply a0C | apply a0E | refine a0O ?_ aU.out) | exact HB.out)⟩⟩
            case rest =>
             clear HC31;obtain ⟨kq,dI,rfl,HA,HJ30,bA,aM,HB⟩:=hcut;cases kq with
             | zero =>exact absurd HA.out (by simp [r01_Lex.j3])
             | succ kj30 =>
              have H:=HA.out;clear HA;simp only [r01_Lex.j3] at H;by_cases c36:dI = true
              ·subst c36;rw [if_pos rfl] at H;by_cases c37:0≤aG
               ·rw [if_pos c37] at H;have c37b0:decide (0≤aG) = true:=zI0 c37;clear c37;by_cases c38:aG < (a0.size:Int)
                ·rw [if_pos c38] at H;have c38b0:decide (aG < (a0.size:Int)) = true:=zI0 c38;clear c38;obtain ⟨t145,A40,H⟩:=ob_ H;by_cases c41:t145 = true
                 ·subst c41;rw [if_pos rfl] at H;have H':=a0B.mk H;clear H;have p39:0≤(aG:Int):=zB0 qA0;have q39:aG < (a0.size:Int):=zB0 qA0;have hx39:=a5L a0 aG;replace p39:=eq_true p39;replace q39:=eq_true q39;go_wp2_with (first | ((with_reducible refine a1A (f:=65) rfl ?_);refine a2H (some 70) rfl rfl Tryz.func65 qF0 rfl #[.int .u8 (bt a0 aG)] rfl qD0 ?_;(with_reducible refine (r01_Digit.calls (bt a0 aG) true _ A40.out).mono ?_);rintro e w' ⟨rfl,⟨nd,rfl⟩⟩;refine ⟨_,rfl,?_⟩));go_roundg kj30
                  case measure =>have:=HK1.out;have:=HK2.out;have:=HJ30.out;omega
                  case rel =>exact ⟨(wrap64 (aG + 1)),qH0,H',⟨by have:=HK1.out;have:=HK2.out;have:=HJ30.out;omega⟩,⟨by (with_reducible repeat (first | apply Kd.a2J | apply Kd.a2I | apply Kd.a3H));exact bA.out⟩,⟨by (with_reducible repeat (first | refine a0T ?_ _ | refine a0W ?_ | refine a0Q ?_ _));exact aM.out⟩,⟨by repeat (first | (with_reducible first | exact HB.out | apply a0D | apply a0C | apply a0E | refine a0O ?_ aU.out) | exact HB.out)⟩⟩
                 ·replace c41:=Bool.eq_false_iff.mpr c41;subst c41;rw [if_neg (show ¬ (false = true) by decide)] at H;exact absurd H qE0
                ·rw [if_neg c38] at H;exact absurd H qE0
               ·rw [if_neg c37] at H;exact absurd H qE0
              ·replace c36:=Bool.eq_false_iff.mpr c36;subst c36;rw [if_neg (show ¬ (false = true) by decide)] at H;by_cases c42:(wrap64 (aG - aD)) > 9
               ·rw [if_pos c42] at H;exact absurd H qE0
               ·rw [if_neg c42] at H;have c42b0:decide (9 < (wrap64 (aG - aD))) = false:=zM0 c42;clear c42;by_cases c43:0≤aD
                ·rw [if_pos c43] at H;have c43b0:=eq_true c43;have c43b1:decide (0≤aD) = true:=zI0 c43;clear c43;by_cases c44:aD≤aG
                 ·rw [if_pos c44] at H;have c44b0:=eq_true c44;have c44b1:decide (aD≤aG) = true:=zI0 c44;clear c44;by_cases c45:aG≤(a0.size:Int)
                  ·rw [if_pos c45] at H;have c45b0:=eq_true c45;have c45b1:decide (aG≤(a0.size:Int)) = true:=zI0 c45;clear c45;by_cases c46:aC.length < 4398046511104
                   ·rw [if_pos c46] at H;have LMc46:=a0B.mk c46;clear c46;obtain ⟨y146,hy146⟩:∃ y_:List (S101),y_ = (aC ++ [(⟨1,a0.extract (aD:Int).toNat (aG:Int).toNat,aD⟩:S101)]):=⟨_,rfl⟩;replace H:(r01_Lex.l0 kj30 a0 y146 aG) = some (r1,r2,r3):=by first | (rw [hy146];with_reducible exact H) | (have H2_:=(zU0 _ _).symm.trans H;rw [hy146];with_reducible exact H2_) | (have H2_:=(zU0 _ _).symm.trans H;with_reducible exact H2_) | with_reducible exact H | (rw [hy146];exact H) | exact H
                    have Ny146:=a0B.mk hy146;clear hy146;have H':=a0B.mk H;clear H;go_wp2_with (first | ((with_reducible refine a1U (b:=.append) (xs:=#[.tmp 87,.tmp 95]) rfl ?_);at_builtin;refine Kd.a3Z k101 (w0:=w) w.heap.size rfl (.tmp 87) (.tmp 95) 74 101 (.agg #[(.int .i64 0),(.string ⟨#[]⟩),(.int .i64 0)]) 32 rfl Tryz.underlying74 b1Y rfl qB0 qC0 u4 aC (⟨1,a0.extract (aD:Int).toNat (aG:Int).toNat,aD⟩:S101) [.int .i64 1,.string (a0.extract (aD:Int).toNat (aG:Int).toNat),.int .i64 aD] (fun _ =>True) (fun _ =>False) rfl rfl ?aP (fun _ hk =>hk.elim) ?aF ?aO ?aB ?aS ?aL ?_;(case aP =>exact a8P _ _ _ (⟨1,a0.extract (aD:Int).toNat (aG:Int).toNat,aD⟩:S101));(case aB =>exact qJ0);(case aF =>exact (fun _ _ =>trivial));(case aO =>exact qU0);(case aS =>exact (a1G qJ0));(case aL =>have:=LMc46.out;omega);intro v147 w47 ho hb hg hat;rw [← Ny146.out] at ho;have bC:=a0B.mk (a1D (g:=bE) (o:=.cells #[.int .i64 0,.int .i64 0] 52 (0,0)) qS0 hg (Kd.R_ne bA.out aM.out qB0));have cI:=a0B.mk (hb);have cJ:=a0B.mk (ho);clear aM;clear HB;clear bA;have aM:=bC;have HB:=cI;have HO148:=cJ;clear bC cI cJ;clear ho hb hg hat));go_roundg kj30
                    case measure =>have:=HK1.out;have:=HK2.out;have:=HJ30.out;omega
                    case rel =>exact ⟨(y146),(aG),qH0,H',⟨by have:=HK1.out;have:=HK2.out;have:=HJ30.out;omega⟩,⟨by (with_reducible repeat (first | apply Kd.a2J | apply Kd.a2I | apply Kd.a3H));exact HO148.out⟩,⟨by (with_reducible repeat (first | refine a0T ?_ _ | refine a0W ?_ | refine a0Q ?_ _));exact aM.out⟩,⟨by repeat (first | (with_reducible first | exact HB.out | apply a0D | apply a0C | apply a0E | refine a0O ?_ aU.out) | exact HB.out)⟩⟩
                   ·rw [if_neg c46] at H;exact absurd H qE0
                  ·rw [if_neg c45] at H;exact absurd H qE0
                 ·rw [if_neg c44] at H;exact absurd H qE0
                ·rw [if_neg c43] at H;exact absurd H qE0
         ·replace c30:=Bool.eq_false_iff.mpr c30;subst c30;rw [if_neg (show ¬ (false = true) by decide)] at H;obtain ⟨t149,A48,H⟩:=ob_ H;by_cases c49:t149 = true
          ·subst c49;rw [if_pos rfl] at H;have c50b0:=eq_true (zB0 qA0:0≤aD);by_cases c51:aD≤(wrap64 (aD + 1))
           ·rw [if_pos c51] at H;have c51b0:=eq_true c51;have c51b1:decide (aD≤(wrap64 (aD + 1))) = true:=zI0 c51;by_cases c52:(wrap64 (aD + 1))≤(a0.size:Int)
            ·rw [if_pos c52] at H;have c52b0:=eq_true c52;have c52b1:decide ((wrap64 (aD + 1))≤(a0.size:Int)) = true:=zI0 c52;by_cases c53:aC.length < 4398046511104
             ·rw [if_pos c53] at H;have LMc53:=a0B.mk c53;clear c53;obtain ⟨y150,hy150⟩:∃ y_:List (S101),y_ = (aC ++ [(⟨2,a0.extract (aD:Int).toNat ((wrap64 (aD + 1)):Int).toNat,aD⟩:S101)]):=⟨_,rfl⟩;replace H:(r01_Lex.l0 k1 a0 y150 (wrap64 (aD + 1))) = some (r1,r2,r3):=by first | (rw [hy150];with_reducible exact H) | (have H2_:=(zU0 _ _).symm.trans H;rw [hy150];with_reducible exact H2_) | (have H2_:=(zU0 _ _).symm.trans H;with_reducible exact H2_) | with_reducible exact H | (rw [hy150];exact H) | exact H
              have Ny150:=a0B.mk hy150;clear hy150;have H':=a0B.mk H;clear H;have p8:0≤(aD:Int):=zB0 qA0;have q8:aD < (a0.size:Int):=zB0 qA0;have hx8:=a5L a0 aD;replace p8:=eq_true p8;replace q8:=eq_true q8;go_wp2_with (first | ((with_reducible refine a1A (f:=62) rfl ?_);refine a2H (some 22) rfl rfl Tryz.func62 qF0 rfl #[.int .u8 (bt a0 aD)] rfl qD0 ?_;(with_reducible refine (r01_Blank.calls (bt a0 aD) false _ A9.out).mono ?_);rintro e w' ⟨rfl,⟨nd,rfl⟩⟩;refine ⟨_,rfl,?_⟩) | ((with_reducible refine a1A (f:=63) rfl ?_);refine a2H (some 42) rfl rfl Tryz.func63 qF0 rfl #[.int .u8 (bt a0 aD)] rfl qD0 ?_;(with_reducible refine (r01_Letter.calls (bt a0 aD) false _ A12.out).mono ?_);rintro e w' ⟨rfl,⟨nd,rfl⟩⟩;refine ⟨_,rfl,?_⟩) | ((with_reducible refine a1A (f:=65) rfl ?_);refine a2H (some 56) rfl rfl Tryz.func65 qF0 rfl #[.int .u8 (bt a0 aD)] rfl qD0 ?_;(with_reducible refine (r01_Digit.calls (bt a0 aD) false _ A29.out).mono ?_);rintro e w' ⟨rfl,⟨nd,rfl⟩⟩;refine ⟨_,rfl,?_⟩) | ((with_reducible refine a1A (f:=66) rfl ?_);refine a2H (some 83) rfl rfl Tryz.func66 qF0 rfl #[.int .u8 (bt a0 aD)] rfl qD0 ?_;(with_reducible refine (r01_Sign.calls k1 (bt a0 aD) true _ A48.out).mono ?_);rintro e w' ⟨rfl,⟨nd,rfl⟩⟩;refine ⟨_,rfl,?_⟩) | ((with_reducible refine a1U (b:=.append) (xs:=#[.tmp 87,.tmp 95]) rfl ?_);at_builtin;refine Kd.a3Z k101 (w0:=w) w.heap.size rfl (.tmp 87) (.tmp 95) 74 101 (.agg #[(.int .i64 0),(.string ⟨#[]⟩),(.int .i64 0)]) 32 rfl Tryz.underlying74 b1Y rfl qB0 qC0 u4 aC (⟨2,a0.extract (aD:Int).toNat ((wrap64 (aD + 1)):Int).toNat,aD⟩:S101) [.int .i64 2,.string (a0.extract (aD:Int).toNat ((wrap64 (aD + 1)):Int).toNat),.int .i64 aD] (fun _ =>True) (fun _ =>False) rfl rfl ?aP (fun _ hk =>hk.elim) ?aF ?aO ?aB ?aS ?aL ?_;(case aP =>exact a8P _ _ _ (⟨2,a0.extract (aD:Int).toNat ((wrap64 (aD + 1)):Int).toNat,aD⟩:S101));(case aB =>exact qJ0);(case aF =>exact (fun _ _ =>trivial));(case aO =>exact qU0);(case aS =>exact (a1G qJ0));(case aL =>have:=LMc53.out;omega);intro v151 w54 ho hb hg hat;rw [← Ny150.out] at ho;have bC:=a0B.mk (a1D (g:=bE) (o:=.cells #[.int .i64 0,.int .i64 0] 52 (0,0)) qS0 hg (Kd.R_ne bA.out aM.out qB0));have cI:=a0B.mk (hb);have cJ:=a0B.mk (ho);clear aM;clear HB;clear bA;have aM:=bC;have HB:=cI;have HO152:=cJ;clear bC cI cJ;clear ho hb hg hat));go_roundg k1
              case measure =>have:=HK1.out;omega
              case rel =>exact ⟨(y150),(wrap64 (aD + 1)),qH0,H',⟨by have:=HK1.out;omega⟩,⟨by (with_reducible repeat (first | apply Kd.a2J | apply Kd.a2I | apply Kd.a3H));exact HO152.out⟩,⟨by (with_reducible repeat (first | refine a0T ?_ _ | refine a0W ?_ | refine a0Q ?_ _));exact aM.out⟩,⟨by repeat (first | (with_reducible first | exact HB.out | apply a0D | apply a0C | apply a0E | refine a0O ?_ aU.out) | exact HB.out)⟩⟩
             ·rw [if_neg c53] at H;exact absurd H qE0
            ·rw [if_neg c52] at H;exact absurd H qE0
           ·rw [if_neg c51] at H;exact absurd H qE0
          ·replace c49:=Bool.eq_false_iff.mpr c49;subst c49;rw [if_neg (show ¬ (false = true) by decide)] at H;exact absurd H qE0
     ·rw [if_neg c7] at H;exact absurd H qE0
    ·rw [if_neg c6] at H;have c6b0:decide (aD < (a0.size:Int)) = false:=zM0 c6;clear c6;simp only [Option.some.injEq,Prod.mk.injEq] at H;obtain ⟨rfl,rfl,rfl⟩:=H;have jM:=cf2 aM.out;go_wp2;refine bodyPost_ret (b6N rfl _ _ bE 52 #[.int .i64 0,.int .i64 0] (0,0) _ rfl (by (with_reducible repeat (first | refine a0T ?_ _ | refine a0W ?_ | refine a0Q ?_ _));refine a2A (cs:=#[.int .i64 0,.int .i64 0]) ?_ 1 _ rfl;(with_reducible repeat (first | refine a0T ?_ _ | refine a0W ?_ | refine a0Q ?_ _));refine a2A (cs:=#[.int .i64 0,.int .i64 0]) ?_ 0 _ rfl;(with_reducible repeat (first | refine a0T ?_ _ | refine a0W ?_ | refine a0Q ?_ _));exact aM.out) Tryz.underlying52 rfl qF0) rfl ?_;exact ⟨_,by first | rfl | (simp [a0Z,a0Y] <;> rfl) | (simp [*,a0Z,a0Y] <;> rfl),by (with_reducible repeat (first | apply Kd.a2J | apply Kd.a2I | apply Kd.a3H));exact Kd.a3C (Kd.b2F (p:=⟨bE,1,none⟩) (Kd.b2F (p:=⟨bE,0,none⟩) (Kd.c0P bA.out aM.out qB0) (fun _ hk =>hk.2) (.int .i64 0)) (fun _ hk =>hk.2) (.int .i64 0)) (fun _ hk =>trivial),by repeat (first | (with_reducible first | exact HB.out | apply a0D | apply a0C | apply a0E | refine a0O ?_ aU.out) | exact HB.out)⟩
mutual
def r03_Deep.l0:Nat→List (S65)→Int→Int→Int→Option (Int)
 | 0,_,_,_,_ =>none
 | k + 1,x0,x1,x5,x6 =>if x6 < (x0.length:Int) then (r03_Deep.j1 k x0 x1 x5 x6 (decide (x1 > 0))) else (r03_Deep.j1 k x0 x1 x5 x6 false)
def r03_Deep.j1:Nat→List (S65)→Int→Int→Int→Bool→Option (Int)
 | 0,_,_,_,_,_ =>none
 | k + 1,x0,x1,x5,x6,x14 =>if x14 = true then (if 0≤x6 then (if x6 < (x0.length:Int) then ((r03_Deep.f k ((a0J x0 x6).f6) (wrap64 (x1 - 1))).bind fun t154 =>((r03_Deep.f k ((a0J x0 x6).f7) (wrap64 (x1 - 1))).bind fun t156 =>(r03_Deep.l0 k x0 x1 (mx x5 (wrap64 (1 + (mx t154 t156)))) (wrap64 (x6 + 1))))) else (none)) else (none)) else (some x5)
def r03_Deep.f:Nat→List (S65)→Int→Option (Int)
 | 0,_,_ =>none
 | k + 1,l0,a1 =>r03_Deep.l0 k l0 a1 0 0
end
def r03_Deep.T5:Bool × List (List Nat × List Nat):=(true,[([],[]),([],[]),([],[]),([1,2],[1,2]),([3],[3]),([4],[4]),([],[]),([6],[6]),([5,7],[5,7]),([],[]),([],[]),([9,10],[9,10]),([11],[11]),([12],[12]),([],[]),([14],[14]),([13,15,8],[13,15]),([8,16],[8,16]),([17],[17]),([0,18],[0,18]),([19,16,0,1,2,3,4,5,6,7,8,9,10,11,12,13,14,15,16,17,18,19],[0,19])])
def r03_Deep.B5:List Nat:=[0,0,0,6,14,30,0,64,254,0,0,1536,3584,7680,0,16384,65534,131070,262142,524287,1048575]
theorem r03_Deep.tab5:rtab .any (opsOf Tryz.f24 5) = r03_Deep.T5:=by kernel_rfl
theorem r03_Deep.bits5:waitsOk r03_Deep.T5.2 r03_Deep.B5 = true:=by kernel_rfl
theorem r03_Deep.calls (k:Nat):∀ (A0:Option Addr) (c0:Nat) (l0:List (S65)) (a1:Int) (r:Int) (w:World) (hr0:Kd.C k65 w A0 l0.length l0) (hc0:l0.length≤c0) (h:r03_Deep.f k l0 a1 = some r),
    Calls Tryz.prog 24 #[.slice A0 l0.length c0,.int .i64 a1] w fun e w' =>e = .returned (.int .i64 r)∧Below w.heap.size w w':=by
 induction k using Nat.strongRecOn with
 | _ k ih =>
 intro A0 c0 l0 a1 r w hr0 hc0 h;cases k with
 | zero =>exact absurd h (by simp [r03_Deep.f])
 | succ k =>
 simp only [r03_Deep.f] at h;have HR0:=a0B.mk hr0;have HC0:=a0B.mk hc0;clear hr0 hc0;have HB:=a0B.mk (zG0 w.heap.size w);have H:(r03_Deep.l0 k l0 a1 0 0) = some r:=h;clear h;have H':=a0B.mk H;clear H;go_enter Tryz.func24,Tryz.ntmps24
 go_wp2;go_loopg [5,6] k (fun kq v5 v6 w' =>∃ (aD:Int) (aH:Int),v5 = .int .i64 aD∧v6 = .int .i64 aH∧a0B (r03_Deep.l0 kq l0 a1 aD aH = some r)∧a0B (kq≤k)∧a0B (Below w.heap.size w w'))
 case atStart =>exact ⟨(0),(0),qH0,qH0,H',⟨zJ0 _⟩,⟨by repeat (first | (with_reducible first | exact HB.out | apply a0D | apply a0C | apply a0E) | exact HB.out)⟩⟩
 case round =>
  clear H';obtain ⟨aD,aH,rfl,rfl,HA,HK1,HB⟩:=hrel;cases gk with
  | zero =>exact absurd HA.out (by simp [r03_Deep.l0])
  | succ k1 =>
   have H:=HA.out;clear HA;simp only [r03_Deep.l0] at H;have HC3:=a0B.mk H;clear H;go_upto_region 3 with (fail)
   go_cut [14] (fun v14 wc =>∃ (kq:Nat) (fK:Bool),v14 = .bool fK∧a0B (r03_Deep.j1 kq l0 a1 aD aH fK = some r)∧a0B (kq≤k1)∧a0B (Below w.heap.size w wc))
   case first =>
    have H:=HC3.out;clear HC3;by_cases c4:aH < (l0.length:Int)
    ·rw [if_pos c4] at H;have c4b0:decide (aH < (l0.length:Int)) = true:=zI0 c4;clear c4
     (first | rw [c4b0] | (simp only [a4P,a5B];rw [c4b0]) | skip)
     have H':=a0B.mk H;clear H;go_wp2;go_meet
     case rel =>exact ⟨_,(decide (a1 > 0)),qH0,H',⟨by have:=HK1.out;first | omega | exact zJ0 _⟩,⟨by repeat (first | (with_reducible first | exact HB.out | apply a0D | apply a0C | apply a0E) | exact HB.out)⟩⟩
    ·rw [if_neg c4] at H;have c4b0:decide (aH < (l0.length:Int)) = false:=zM0 c4;clear c4
     (first | rw [c4b0] | (simp only [a4P,a5B];rw [c4b0]) | skip)
     have H':=a0B.mk H;clear H;go_wp2;go_meet
     case rel =>exact ⟨_,(false),qH0,H',⟨by have:=HK1.out;first | omega | exact zJ0 _⟩,⟨by repeat (first | (with_reducible first | exact HB.out | apply a0D | apply a0C | apply a0E) | exact HB.out)⟩⟩
   case rest =>
    clear HC3;obtain ⟨kq,fK,rfl,HA,HJ2,HB⟩:=hcut;cases kq with
    | zero =>exact absurd HA.out (by simp [r03_Deep.j1])
    | succ kj2 =>
     have H:=HA.out;clear HA;simp only [r03_Deep.j1] at H;by_cases c5:fK = true
     ·subst c5;rw [if_pos rfl] at H;by_cases c6:0≤aH
      ·rw [if_pos c6] at H;have c6b0:decide (0≤aH) = true:=zI0 c6;clear c6;by_cases c7:aH < (l0.length:Int)
       ·rw [if_pos c7] at H;have c7b0:decide (aH < (l0.length:Int)) = true:=zI0 c7;clear c7;obtain ⟨t154,A8,H⟩:=ob_ H;obtain ⟨t156,A9,H⟩:=ob_ H;obtain ⟨ji10,hji10⟩:∃ j_:Int,(mx t154 t156) = j_:=⟨_,rfl⟩;replace H:(r03_Deep.l0 kj2 l0 a1 (mx aD (wrap64 (1 + (ji10)))) (wrap64 (aH + 1))) = some r:=by first | (rw [hji10] at H;exact H) | (simp only [hji10] at H ⊢;exact H)
        (try rw [hji10] at A8)
        (try rw [hji10] at A9)
        have hji10_:(if t154 < t156 then t156 else t154) = ji10:=hji10;obtain ⟨ji11,hji11⟩:∃ j_:Int,(mx aD (wrap64 (1 + (ji10)))) = j_:=⟨_,rfl⟩;replace H:(r03_Deep.l0 kj2 l0 a1 ji11 (wrap64 (aH + 1))) = some r:=by first | (rw [hji11] at H;exact H) | (simp only [hji11] at H ⊢;exact H)
        (try rw [hji11] at A8)
        (try rw [hji11] at A9)
        have hji11_:(if aD < (wrap64 (1 + (ji10))) then (wrap64 (1 + (ji10))) else aD) = ji11:=hji11;have H':=a0B.mk H;clear H
        try go_wp2
        have bC:=a0B.mk (a0E HB.out);clear HB;have HB:=bC;clear bC;have p153:0≤(aH:Int):=zB0 qA0;have q153:aH < (l0.length:Int):=zB0 qA0;obtain ⟨ad153,gX,gY,gZ,iA,eR,eS,eT,eU,e153,cM,cN,cO,cQ,bP,bQ,bR,bS,fL,fM,fN,fO,fP,fQ,fR,fS⟩:=a1W HR0.out aH p153 q153;have dJ:=bS;have dK:=bR;have dL:=bQ;have dM:=bP;have dN:=cQ;have dO:=cO;have dP:=cN;have dQ:=cM;cases e153;replace cM:=a0A HB.out cM;replace cN:=a0A HB.out cN;replace cO:=a0A HB.out cO;replace cQ:=a0A HB.out cQ;replace bP:=a0A HB.out bP;replace bQ:=a0A HB.out bQ;replace bR:=a0A HB.out bR;replace bS:=a0A HB.out bS;have iG:=a0B.mk fM;have jN:=a0B.mk fL;clear fM fL;have iH:=a0B.mk fO;have jO:=a0B.mk fN;clear fO fN;have fT:=a0B.mk fQ;have iI:=a0B.mk fP;clear fQ fP;have iJ:=a0B.mk fS;have jP:=a0B.mk fR;clear fS fR;replace p153:=eq_true p153;replace q153:=eq_true q153;have p155:0≤(aH:Int):=zB0 qA0;have q155:aH < (l0.length:Int):=zB0 qA0;obtain ⟨ad155,kP,kQ,kR,kS,kU,kV,kW,kX,e155,cR,cU,cV,cW,bT,bU,bV,bW,fU,fV,fW,fX,fY,fZ,gA,gB⟩:=a1W HR0.out aH p155 q155;have dR:=bW;have dS:=bV;have dT:=bU;have dU:=bT;have dV:=cW;have dW:=cV;have dX:=cU;have dY:=cR;obtain rfl:ad153 = ad155:=(by injection e155);replace cR:=a0A HB.out cR;replace cU:=a0A HB.out cU;replace cV:=a0A HB.out cV;replace cW:=a0A HB.out cW;replace bT:=a0A HB.out bT;replace bU:=a0A HB.out bU;replace bV:=a0A HB.out bV;replace bW:=a0A HB.out bW;have iK:=a0B.mk fV;have jQ:=a0B.mk fU;clear fV fU;have iL:=a0B.mk fX;have jR:=a0B.mk fW;clear fX fW;have iM:=a0B.mk fZ;have jS:=a0B.mk fY;clear fZ fY;have gC:=a0B.mk gB;have iN:=a0B.mk gA;clear gB gA;replace p155:=eq_true p155;replace q155:=eq_true q155;have ea_:=zC0 (bP.symm.trans bT);injection ea_ with ea_ en_ ec_
        subst ea_;subst ec_;clear en_;have ea_:=zC0 (bQ.symm.trans bU);injection ea_ with ea_ en_ ec_
        subst ea_;subst ec_;clear en_;have ea_:=zC0 (bR.symm.trans bV);injection ea_ with ea_ en_ ec_
        subst ea_;subst ec_;clear en_;have ea_:=zC0 (bS.symm.trans bW);injection ea_ with ea_ en_ ec_
        subst ea_;subst ec_;clear en_;refine b7O (n:=21) (S:=fun w' =>w'.cell? (ad153.add ((aH).toNat * 8)) = some (.int .i64 ((a0J l0 aH).f0))∧w'.cell? ⟨(ad153.add ((aH).toNat * 8)).block,(ad153.add ((aH).toNat * 8)).off + 1,none⟩ = some (.string ((a0J l0 aH).f1))∧w'.cell? ⟨(ad153.add ((aH).toNat * 8)).block,(ad153.add ((aH).toNat * 8)).off + 2,none⟩ = some (.string ((a0J l0 aH).f2))∧w'.cell? ⟨(ad153.add ((aH).toNat * 8)).block,(ad153.add ((aH).toNat * 8)).off + 3,none⟩ = some (.string ((a0J l0 aH).f3))∧w'.cell? ⟨(ad153.add ((aH).toNat * 8)).block,(ad153.add ((aH).toNat * 8)).off + 4,none⟩ = some (.slice gX ((a0J l0 aH).f4).length gY)∧w'.cell? ⟨(ad153.add ((aH).toNat * 8)).block,(ad153.add ((aH).toNat * 8)).off + 5,none⟩ = some (.slice gZ ((a0J l0 aH).f5).length iA)∧w'.cell? ⟨(ad153.add ((aH).toNat * 8)).block,(ad153.add ((aH).toNat * 8)).off + 6,none⟩ = some (.slice eR ((a0J l0 aH).f6).length eS)∧w'.cell? ⟨(ad153.add ((aH).toNat * 8)).block,(ad153.add ((aH).toNat * 8)).off + 7,none⟩ = some (.slice eT ((a0J l0 aH).f7).length eU)∧w'.cell? (ad153.add ((aH).toNat * 8)) = some (.int .i64 ((a0J l0 aH).f0))∧w'.cell? ⟨(ad153.add ((aH).toNat * 8)).block,(ad153.add ((aH).toNat * 8)).off + 1,none⟩ = some (.string ((a0J l0 aH).f1))∧w'.cell? ⟨(ad153.add ((aH).toNat * 8)).block,(ad153.add ((aH).toNat * 8)).off + 2,none⟩ = some (.string ((a0J l0 aH).f2))∧w'.cell? ⟨(ad153.add ((aH).toNat * 8)).block,(ad153.add ((aH).toNat * 8)).off + 3,none⟩ = some (.string ((a0J l0 aH).f3))∧w'.cell? ⟨(ad153.add ((aH).toNat * 8)).block,(ad153.add ((aH).toNat * 8)).off + 4,none⟩ = some (.slice gX ((a0J l0 aH).f4).length gY)∧w'.cell? ⟨(ad153.add ((aH).toNat * 8)).block,(ad153.add ((aH).toNat * 8)).off + 5,none⟩ = some (.slice gZ ((a0J l0 aH).f5).length iA)∧w'.cell? ⟨(ad153.add ((aH).toNat * 8)).block,(ad153.add ((aH).toNat * 8)).off + 6,none⟩ = some (.slice eR ((a0J l0 aH).f6).length eS)∧w'.cell? ⟨(ad153.add ((aH).toNat * 8)).block,(ad153.add ((aH).toNat * 8)).off + 7,none⟩ = some (.slice eT ((a0J l0 aH).f7).length eU)) (ds:=[]) #[false,false,false,false,false,false,false,false,false,false,false,false,false,false,false,false,false,false,false,false,false] qF0 rfl rfl ⟨(a0A HB.out dQ),(a0A HB.out dP),(a0A HB.out dO),(a0A HB.out dN),(a0A HB.out dM),(a0A HB.out dL),(a0A HB.out dK),(a0A HB.out dJ),(a0A HB.out dY),(a0A HB.out dX),(a0A HB.out dW),(a0A HB.out dV),(a0A HB.out dU),(a0A HB.out dT),(a0A HB.out dS),(a0A HB.out dR)⟩ (fun hHeld =>?_);refine a8X r03_Deep.tab5 r03_Deep.bits5 (fun HT_ HW_ =>?_);generalize wc.drew = w12 at HB iG iH fT iJ iK iL iM gC cM cN cO cQ bP bQ bR bS cR cU cV cW bT bU bV bW hHeld ⊢;refine pz_ 0 (some 17) HT_.out rfl rfl (fun _ _ _ h =>h) (h:=?_);refine pz_ 1 (some 18) HT_.out rfl rfl (fun _ _ _ h =>h) (h:=?_);refine pz_ 2 (some 19) HT_.out rfl rfl (fun _ _ _ h =>h) (h:=?_);refine pz_ 3 (some 20) HT_.out rfl rfl (fun _ _ _ h =>h) (h:=?_);refine pz_ 4 (some 21) HT_.out rfl rfl (fun _ _ _ h =>h) (h:=?_);refine pz_ 6 (some 23) HT_.out rfl rfl (fun _ _ _ h =>h) (h:=?_);refine pz_ 7 (some 24) HT_.out rfl rfl (fun _ _ _ h =>h) (h:=?_);refine pz_ 9 (some 26) HT_.out rfl rfl (fun _ _ _ h =>h) (h:=?_);refine pz_ 10 (some 27) HT_.out rfl rfl (fun _ _ _ h =>h) (h:=?_);refine pz_ 11 (some 28) HT_.out rfl rfl (fun _ _ _ h =>h) (h:=?_);refine pz_ 12 (some 29) HT_.out rfl rfl (fun _ _ _ h =>h) (h:=?_);refine pz_ 14 (some 31) HT_.out rfl rfl (fun _ _ _ h =>h) (h:=?_);refine pz_ 15 (some 32) HT_.out rfl rfl (fun _ _ _ h =>h) (h:=?_);refine a8Z (i:=5) (N:=some 22) (v:=?_) (a':=?_) #[true,true,true,true,true,true,true,true,false,true,true,true,true,false,true,true,false,false,false,false,false] rfl rfl (a4Q HT_.out HW_.out qF0) (fun _ _ _ h =>h) (Or.inl ⟨by rfl,?_⟩) hHeld ?_ ?_;rotate_left
        ·rintro w' ⟨s0,s1,s2,s3,s4,s5,s6,s7,s8,s9,s10,s11,s12,s13,s14,s15⟩;go_simp
         with_reducible rfl
        rotate_left
        ·simp only [Act.put,zL0,zV0,zW0,a4P,a5B]
         rfl
        refine a8Z (i:=13) (N:=some 30) (v:=?_) (a':=?_) #[true,true,true,true,true,true,true,true,false,true,true,true,true,true,true,true,false,false,false,false,false] rfl rfl (a4Q HT_.out HW_.out qF0) (fun _ _ _ h =>h) (Or.inl ⟨by rfl,?_⟩) hHeld ?_ ?_;rotate_left
        ·rintro w' ⟨s0,s1,s2,s3,s4,s5,s6,s7,s8,s9,s10,s11,s12,s13,s14,s15⟩;go_simp
         with_reducible rfl
        rotate_left
        ·simp only [Act.put,zL0,zV0,zW0,a4P,a5B]
         rfl
        refine one_ (i:=8) (N:=some 25) #[true,true,true,true,true,true,true,true,true,true,true,true,true,true,true,true,false,false,false,false,false] rfl rfl (b3D HT_.out qF0) qB0 (fun K hK =>?_);refine b9S Tryz.func24 qF0 rfl #[.slice eR ((a0J l0 aH).f6).length eS,.int .i64 (wrap64 (a1 - 1))] (by rfl) rfl rfl qD0 ?_
        with_reducible refine (ih kj2 (by have:=HK1.out;have:=HJ2.out;omega) _ _ ((a0J l0 aH).f6) (wrap64 (a1 - 1)) t154 _ ?side1 ?side2 A8.out).mono ?_
        (case side1 =>repeat (first | exact (Kd.a0H fT.out HB.out) | (with_reducible refine Kd.a1V ?_ _) | (with_reducible refine Kd.a1N ?_ _) | (with_reducible refine Kd.a2B ?_)))
        (case side2 =>exact iI.out)
        rintro e w13 ⟨rfl,hb⟩;refine ⟨_,rfl,?_⟩;have bC:=a0B.mk (a0L qG0 hb);clear HB;have HB:=bC;clear bC
        (try clear hb)
        (try clear hb2)
        (try clear hk)
        (try clear hi)
        refine hK.out _ _ ⟨(a0A HB.out dQ),(a0A HB.out dP),(a0A HB.out dO),(a0A HB.out dN),(a0A HB.out dM),(a0A HB.out dL),(a0A HB.out dK),(a0A HB.out dJ),(a0A HB.out dY),(a0A HB.out dX),(a0A HB.out dW),(a0A HB.out dV),(a0A HB.out dU),(a0A HB.out dT),(a0A HB.out dS),(a0A HB.out dR)⟩ (fun hHeld =>?_);clear hK K;refine b8X (a':=?_) ?_ ?_;rotate_left
        ·show Act.put _ (some 25) _ = _;simp only [Act.put,zL0,zV0,zW0,a4P,a5B]
         rfl
        refine one_ (i:=16) (N:=some 33) #[true,true,true,true,true,true,true,true,true,true,true,true,true,true,true,true,true,false,false,false,false] rfl rfl (b3D HT_.out qF0) qB0 (fun K hK =>?_);refine b9S Tryz.func24 qF0 rfl #[.slice eT ((a0J l0 aH).f7).length eU,.int .i64 (wrap64 (a1 - 1))] (by rfl) rfl rfl qD0 ?_
        with_reducible refine (ih kj2 (by have:=HK1.out;have:=HJ2.out;omega) _ _ ((a0J l0 aH).f7) (wrap64 (a1 - 1)) t156 _ ?side1 ?side2 A9.out).mono ?_
        (case side1 =>repeat (first | exact (Kd.a0H gC.out HB.out) | (with_reducible refine Kd.a1V ?_ _) | (with_reducible refine Kd.a1N ?_ _) | (with_reducible refine Kd.a2B ?_)))
        (case side2 =>exact iN.out)
        rintro e w14 ⟨rfl,hb⟩;refine ⟨_,rfl,?_⟩;have bC:=a0B.mk (a0L qG0 hb);clear HB;have HB:=bC;clear bC
        (try clear hb)
        (try clear hb2)
        (try clear hk)
        (try clear hi)
        refine hK.out _ _ ⟨(a0A HB.out dQ),(a0A HB.out dP),(a0A HB.out dO),(a0A HB.out dN),(a0A HB.out dM),(a0A HB.out dL),(a0A HB.out dK),(a0A HB.out dJ),(a0A HB.out dY),(a0A HB.out dX),(a0A HB.out dW),(a0A HB.out dV),(a0A HB.out dU),(a0A HB.out dT),(a0A HB.out dS),(a0A HB.out dR)⟩ (fun hHeld =>?_);clear hK K;refine b8X (a':=?_) ?_ ?_;rotate_left
        ·show Act.put _ (some 33) _ = _;simp only [Act.put,zL0,zV0,zW0,a4P,a5B]
         rfl
        refine pz_ 17 (some 34) HT_.out rfl rfl (fun _ _ _ h =>h) (h:=?_);refine pz_ 18 (some 35) HT_.out rfl rfl (fun _ _ _ h =>h) (h:=?_);refine pz_ 19 (some 36) HT_.out rfl rfl (fun _ _ _ h =>h) (h:=?_);refine pz_ 20 (some 5) HT_.out rfl rfl (fun _ _ _ h =>h) (h:=?_);refine done_ (b4T HT_.out qF0) ?_
        try go_wp2
        go_roundg kj2
        case measure =>have:=HK1.out;have:=HJ2.out;omega
        case rel =>exact ⟨(ji11),(wrap64 (aH + 1)),(by first | rfl | (simp;done) | (simp only [← hji11] <;> (first | rfl | simp)) | (simp [*];done)),qH0,H',⟨by have:=HK1.out;have:=HJ2.out;omega⟩,⟨by repeat (first | (with_reducible first | exact HB.out | apply a0D | apply a0C | apply a0E) | exact HB.out)⟩⟩
       ·rw [if_neg c7] at H;exact absurd H qE0
      ·rw [if_neg c6] at H;exact absurd H qE0
     ·replace c5:=Bool.eq_false_iff.mpr c5;subst c5;rw [if_neg (show ¬ (false = true) by decide)] at H;obtain rfl:=zC0 H;go_wp2;go_ret;exact qG3
mutual
def r03_Count.l0:Nat→List (S65)→Int→Int→Option (Int)
 | 0,_,_,_ =>none
 | k + 1,x0,x3,x4 =>if x4 < (x0.length:Int) then (if 0≤x4 then ((r03_Count.f k ((a0J x0 x4).f6)).bind fun t158 =>((r03_Count.f k ((a0J x0 x4).f7)).bind fun t160 =>(r03_Count.l0 k x0 (wrap64 (x3 + (wrap64 (t158 + t160)))) (wrap64 (x4 + 1))))) else (none)) else (some x3)
def r03_Count.f:Nat→List (S65)→Option (Int)
 | 0,_ =>none
 | k + 1,l0 =>r03_Count.l0 k l0 (l0.length:Int) 0
end
def r03_Count.T5:Bool × List (List Nat × List Nat):=(true,[([],[]),([],[]),([],[]),([1,2],[1,2]),([3],[3]),([4],[4]),([5],[5]),([],[]),([],[]),([7,8],[7,8]),([9],[9]),([10],[10]),([11,6],[11]),([6,12],[6,12]),([0,13],[0,13]),([14,12,0,1,2,3,4,5,6,7,8,9,10,11,12,13,14],[0,14])])
def r03_Count.B5:List Nat:=[0,0,0,6,14,30,62,0,0,384,896,1920,4094,8190,16383,32767]
theorem r03_Count.tab5:rtab .any (opsOf Tryz.f25 5) = r03_Count.T5:=by kernel_rfl
theorem r03_Count.bits5:waitsOk r03_Count.T5.2 r03_Count.B5 = true:=by kernel_rfl
theorem r03_Count.calls (k:Nat):∀ (A0:Option Addr) (c0:Nat) (l0:List (S65)) (r:Int) (w:World) (hr0:Kd.C k65 w A0 l0.length l0) (hc0:l0.length≤c0) (h:r03_Count.f k l0 = some r),
    Calls Tryz.prog 25 #[.slice A0 l0.length c0] w fun e w' =>e = .returned (.int .i64 r)∧Below w.heap.size w w':=by
 induction k using Nat.strongRecOn with
 | _ k ih =>
 intro A0 c0 l0 r w hr0 hc0 h;cases k with
 | zero =>exact absurd h (by simp [r03_Count.f])
 | succ k =>
 simp only [r03_Count.f] at h;have HR0:=a0B.mk hr0;have HC0:=a0B.mk hc0;clear hr0 hc0;have HB:=a0B.mk (zG0 w.heap.size w);have H:(r03_Count.l0 k l0 (l0.length:Int) 0) = some r:=h;clear h;have H':=a0B.mk H;clear H;go_enter Tryz.func25,Tryz.ntmps25
 go_wp2;go_loopg [3,4] k (fun kq v3 v4 w' =>∃ (iO:Int) (aC:Int),v3 = .int .i64 iO∧v4 = .int .i64 aC∧a0B (r03_Count.l0 kq l0 iO aC = some r)∧a0B (kq≤k)∧a0B (Below w.heap.size w w'))
 case atStart =>exact ⟨((l0.length:Int)),(0),qH0,qH0,H',⟨zJ0 _⟩,⟨by repeat (first | (with_reducible first | exact HB.out | apply a0D | apply a0C | apply a0E) | exact HB.out)⟩⟩
 case round =>
  clear H';obtain ⟨iO,aC,rfl,rfl,HA,HK1,HB⟩:=hrel;cases gk with
  | zero =>exact absurd HA.out (by simp [r03_Count.l0])
  | succ k1 =>
   have H:=HA.out;clear HA;simp only [r03_Count.l0] at H;by_cases c2:aC < (l0.length:Int)
   ·rw [if_pos c2] at H;have c2b0:decide (aC < (l0.length:Int)) = true:=zI0 c2;clear c2;by_cases c3:0≤aC
    ·rw [if_pos c3] at H;have c3b0:decide (0≤aC) = true:=zI0 c3;clear c3;obtain ⟨t158,A4,H⟩:=ob_ H;obtain ⟨t160,A5,H⟩:=ob_ H;have H':=a0B.mk H;clear H
     try go_wp2
     have bC:=a0B.mk (a0E HB.out);clear HB;have HB:=bC;clear bC;have p157:0≤(aC:Int):=zB0 qA0;have q157:aC < (l0.length:Int):=zB0 qA0;obtain ⟨ad157,iB,iC,iD,iE,eV,eW,eX,eY,e157,cX,cY,cZ,dA,bX,bY,bZ,cA,gD,gE,gG,gH,gI,gJ,gK,gL⟩:=a1W HR0.out aC p157 q157;have dZ:=cA;have eB:=bZ;have eC:=bY;have eD:=bX;have eE:=dA;have eG:=cZ;have eH:=cY;have eI:=cX;cases e157;replace cX:=a0A HB.out cX;replace cY:=a0A HB.out cY;replace cZ:=a0A HB.out cZ;replace dA:=a0A HB.out dA;replace bX:=a0A HB.out bX;replace bY:=a0A HB.out bY;replace bZ:=a0A HB.out bZ;replace cA:=a0A HB.out cA;have iP:=a0B.mk gE;have jT:=a0B.mk gD;clear gE gD;have iQ:=a0B.mk gH;have jU:=a0B.mk gG;clear gH gG;have gM:=a0B.mk gJ;have iR:=a0B.mk gI;clear gJ gI;have iS:=a0B.mk gL;have jV:=a0B.mk gK;clear gL gK;replace p157:=eq_true p157;replace q157:=eq_true q157;have p159:0≤(aC:Int):=zB0 qA0;have q159:aC < (l0.length:Int):=zB0 qA0;obtain ⟨ad159,kY,kZ,lA,lB,lC,lD,lE,lF,e159,dB,dC,dD,dE,cB,cC,cD,cE,gN,gO,gP,gQ,gR,gS,gT,gU⟩:=a1W HR0.out aC p159 q159;have eJ:=cE;have eK:=cD;have eL:=cC;have eM:=cB;have eN:=dE;have eO:=dD;have eP:=dC;have eQ:=dB;obtain rfl:ad157 = ad159:=(by injection e159);replace dB:=a0A HB.out dB;replace dC:=a0A HB.out dC;replace dD:=a0A HB.out dD;replace dE:=a0A HB.out dE;replace cB:=a0A HB.out cB;replace cC:=a0A HB.out cC;replace cD:=a0A HB.out cD;replace cE:=a0A HB.out cE;have iT:=a0B.mk gO;have jW:=a0B.mk gN;clear gO gN;have iU:=a0B.mk gQ;have jX:=a0B.mk gP;clear gQ gP;have iV:=a0B.mk gS;have jY:=a0B.mk gR;clear gS gR;have gV:=a0B.mk gU;have iW:=a0B.mk gT;clear gU gT;replace p159:=eq_true p159;replace q159:=eq_true q159;have ea_:=zC0 (bX.symm.trans cB);injection ea_ with ea_ en_ ec_
     subst ea_;subst ec_;clear en_;have ea_:=zC0 (bY.symm.trans cC);injection ea_ with ea_ en_ ec_
     subst ea_;subst ec_;clear en_;have ea_:=zC0 (bZ.symm.trans cD);injection ea_ with ea_ en_ ec_
     subst ea_;subst ec_;clear en_;have ea_:=zC0 (cA.symm.trans cE);injection ea_ with ea_ en_ ec_
     subst ea_;subst ec_;clear en_;refine b7O (n:=16) (S:=fun w' =>w'.cell? (ad157.add ((aC).toNat * 8)) = some (.int .i64 ((a0J l0 aC).f0))∧w'.cell? ⟨(ad157.add ((aC).toNat * 8)).block,(ad157.add ((aC).toNat * 8)).off + 1,none⟩ = some (.string ((a0J l0 aC).f1))∧w'.cell? ⟨(ad157.add ((aC).toNat * 8)).block,(ad157.add ((aC).toNat * 8)).off + 2,none⟩ = some (.string ((a0J l0 aC).f2))∧w'.cell? ⟨(ad157.add ((aC).toNat * 8)).block,(ad157.add ((aC).toNat * 8)).off + 3,none⟩ = some (.string ((a0J l0 aC).f3))∧w'.cell? ⟨(ad157.add ((aC).toNat * 8)).block,(ad157.add ((aC).toNat * 8)).off + 4,none⟩ = some (.slice iB ((a0J l0 aC).f4).length iC)∧w'.cell? ⟨(ad157.add ((aC).toNat * 8)).block,(ad157.add ((aC).toNat * 8)).off + 5,none⟩ = some (.slice iD ((a0J l0 aC).f5).length iE)∧w'.cell? ⟨(ad157.add ((aC).toNat * 8)).block,(ad157.add ((aC).toNat * 8)).off + 6,none⟩ = some (.slice eV ((a0J l0 aC).f6).length eW)∧w'.cell? ⟨(ad157.add ((aC).toNat * 8)).block,(ad157.add ((aC).toNat * 8)).off + 7,none⟩ = some (.slice eX ((a0J l0 aC).f7).length eY)∧w'.cell? (ad157.add ((aC).toNat * 8)) = some (.int .i64 ((a0J l0 aC).f0))∧w'.cell? ⟨(ad157.add ((aC).toNat * 8)).block,(ad157.add ((aC).toNat * 8)).off + 1,none⟩ = some (.string ((a0J l0 aC).f1))∧w'.cell? ⟨(ad157.add ((aC).toNat * 8)).block,(ad157.add ((aC).toNat * 8)).off + 2,none⟩ = some (.string ((a0J l0 aC).f2))∧w'.cell? ⟨(ad157.add ((aC).toNat * 8)).block,(ad157.add ((aC).toNat * 8)).off + 3,none⟩ = some (.string ((a0J l0 aC).f3))∧w'.cell? ⟨(ad157.add ((aC).toNat * 8)).block,(ad157.add ((aC).toNat * 8)).off + 4,none⟩ = some (.slice iB ((a0J l0 aC).f4).length iC)∧w'.cell? ⟨(ad157.add ((aC).toNat * 8)).block,(ad157.add ((aC).toNat * 8)).off + 5,none⟩ = some (.slice iD ((a0J l0 aC).f5).length iE)∧w'.cell? ⟨(ad157.add ((aC).toNat * 8)).block,(ad157.add ((aC).toNat * 8)).off + 6,none⟩ = some (.slice eV ((a0J l0 aC).f6).length eW)∧w'.cell? ⟨(ad157.add ((aC).toNat * 8)).block,(ad157.add ((aC).toNat * 8)).off + 7,none⟩ = some (.slice eX ((a0J l0 aC).f7).length eY)) (ds:=[]) #[false,false,false,false,false,false,false,false,false,false,false,false,false,false,false,false] qF0 rfl rfl ⟨(a0A HB.out eI),(a0A HB.out eH),(a0A HB.out eG),(a0A HB.out eE),(a0A HB.out eD),(a0A HB.out eC),(a0A HB.out eB),(a0A HB.out dZ),(a0A HB.out eQ),(a0A HB.out eP),(a0A HB.out eO),(a0A HB.out eN),(a0A HB.out eM),(a0A HB.out eL),(a0A HB.out eK),(a0A HB.out eJ)⟩ (fun hHeld =>?_);refine a8X r03_Count.tab5 r03_Count.bits5 (fun HT_ HW_ =>?_);generalize wr.drew = w6 at HB iP iQ gM iS iT iU iV gV cX cY cZ dA bX bY bZ cA dB dC dD dE cB cC cD cE hHeld ⊢;refine pz_ 0 (some 13) HT_.out rfl rfl (fun _ _ _ h =>h) (h:=?_);refine pz_ 1 (some 14) HT_.out rfl rfl (fun _ _ _ h =>h) (h:=?_);refine pz_ 2 (some 15) HT_.out rfl rfl (fun _ _ _ h =>h) (h:=?_);refine pz_ 3 (some 16) HT_.out rfl rfl (fun _ _ _ h =>h) (h:=?_);refine pz_ 4 (some 17) HT_.out rfl rfl (fun _ _ _ h =>h) (h:=?_);refine pz_ 7 (some 20) HT_.out rfl rfl (fun _ _ _ h =>h) (h:=?_);refine pz_ 8 (some 21) HT_.out rfl rfl (fun _ _ _ h =>h) (h:=?_);refine pz_ 9 (some 22) HT_.out rfl rfl (fun _ _ _ h =>h) (h:=?_);refine pz_ 10 (some 23) HT_.out rfl rfl (fun _ _ _ h =>h) (h:=?_);refine a8Z (i:=5) (N:=some 18) (v:=?_) (a':=?_) #[true,true,true,true,true,true,false,true,true,true,true,false,false,false,false,false] rfl rfl (a4Q HT_.out HW_.out qF0) (fun _ _ _ h =>h) (Or.inl ⟨by rfl,?_⟩) hHeld ?_ ?_;rotate_left
     ·rintro w' ⟨s0,s1,s2,s3,s4,s5,s6,s7,s8,s9,s10,s11,s12,s13,s14,s15⟩;go_simp
      with_reducible rfl
     rotate_left
     ·simp only [Act.put,zL0,zV0,zW0,a4P,a5B]
      rfl
     refine a8Z (i:=11) (N:=some 24) (v:=?_) (a':=?_) #[true,true,true,true,true,true,false,true,true,true,true,true,false,false,false,false] rfl rfl (a4Q HT_.out HW_.out qF0) (fun _ _ _ h =>h) (Or.inl ⟨by rfl,?_⟩) hHeld ?_ ?_;rotate_left
     ·rintro w' ⟨s0,s1,s2,s3,s4,s5,s6,s7,s8,s9,s10,s11,s12,s13,s14,s15⟩;go_simp
      with_reducible rfl
     rotate_left
     ·simp only [Act.put,zL0,zV0,zW0,a4P,a5B]
      rfl
     refine one_ (i:=6) (N:=some 19) #[true,true,true,true,true,true,true,true,true,true,true,true,false,false,false,false] rfl rfl (b3D HT_.out qF0) qB0 (fun K hK =>?_);refine b9S Tryz.func25 qF0 rfl #[.slice eV ((a0J l0 aC).f6).length eW] (by rfl) rfl rfl qD0 ?_
     with_reducible refine (ih k1 qZ0 _ _ ((a0J l0 aC).f6) t158 _ ?side1 ?side2 A4.out).mono ?_
     (case side1 =>repeat (first | exact (Kd.a0H gM.out HB.out) | (with_reducible refine Kd.a1V ?_ _) | (with_reducible refine Kd.a1N ?_ _) | (with_reducible refine Kd.a2B ?_)))
     (case side2 =>exact iR.out)
     rintro e w7 ⟨rfl,hb⟩;refine ⟨_,rfl,?_⟩;have bC:=a0B.mk (a0L qG0 hb);clear HB;have HB:=bC;clear bC
     (try clear hb)
     (try clear hb2)
     (try clear hk)
     (try clear hi)
     refine hK.out _ _ ⟨(a0A HB.out eI),(a0A HB.out eH),(a0A HB.out eG),(a0A HB.out eE),(a0A HB.out eD),(a0A HB.out eC),(a0A HB.out eB),(a0A HB.out dZ),(a0A HB.out eQ),(a0A HB.out eP),(a0A HB.out eO),(a0A HB.out eN),(a0A HB.out eM),(a0A HB.out eL),(a0A HB.out eK),(a0A HB.out eJ)⟩ (fun hHeld =>?_);clear hK K;refine b8X (a':=?_) ?_ ?_;rotate_left
     ·show Act.put _ (some 19) _ = _;simp only [Act.put,zL0,zV0,zW0,a4P,a5B]
      rfl
     refine one_ (i:=12) (N:=some 25) #[true,true,true,true,true,true,true,true,true,true,true,true,true,false,false,false] rfl rfl (b3D HT_.out qF0) qB0 (fun K hK =>?_);refine b9S Tryz.func25 qF0 rfl #[.slice eX ((a0J l0 aC).f7).length eY] (by rfl) rfl rfl qD0 ?_
     with_reducible refine (ih k1 qZ0 _ _ ((a0J l0 aC).f7) t160 _ ?side1 ?side2 A5.out).mono ?_
     (case side1 =>repeat (first | exact (Kd.a0H gV.out HB.out) | (with_reducible refine Kd.a1V ?_ _) | (with_reducible refine Kd.a1N ?_ _) | (with_reducible refine Kd.a2B ?_)))
     (case side2 =>exact iW.out)
     rintro e w8 ⟨rfl,hb⟩;refine ⟨_,rfl,?_⟩;have bC:=a0B.mk (a0L qG0 hb);clear HB;have HB:=bC;clear bC
     (try clear hb)
     (try clear hb2)
     (try clear hk)
     (try clear hi)
     refine hK.out _ _ ⟨(a0A HB.out eI),(a0A HB.out eH),(a0A HB.out eG),(a0A HB.out eE),(a0A HB.out eD),(a0A HB.out eC),(a0A HB.out eB),(a0A HB.out dZ),(a0A HB.out eQ),(a0A HB.out eP),(a0A HB.out eO),(a0A HB.out eN),(a0A HB.out eM),(a0A HB.out eL),(a0A HB.out eK),(a0A HB.out eJ)⟩ (fun hHeld =>?_);clear hK K;refine b8X (a':=?_) ?_ ?_;rotate_left
     ·show Act.put _ (some 25) _ = _;simp only [Act.put,zL0,zV0,zW0,a4P,a5B]
      rfl
     refine pz_ 13 (some 26) HT_.out rfl rfl (fun _ _ _ h =>h) (h:=?_);refine pz_ 14 (some 27) HT_.out rfl rfl (fun _ _ _ h =>h) (h:=?_);refine pz_ 15 (some 3) HT_.out rfl rfl (fun _ _ _ h =>h) (h:=?_);refine done_ (b4T HT_.out qF0) ?_
     try go_wp2
     go_roundg k1
     case measure =>have:=HK1.out;omega
     case rel =>exact ⟨(wrap64 (iO + (wrap64 (t158 + t160)))),(wrap64 (aC + 1)),qH0,qH0,H',⟨by have:=HK1.out;omega⟩,⟨by repeat (first | (with_reducible first | exact HB.out | apply a0D | apply a0C | apply a0E) | exact HB.out)⟩⟩
    ·rw [if_neg c3] at H;exact absurd H qE0
   ·rw [if_neg c2] at H;have c2b0:decide (aC < (l0.length:Int)) = false:=zM0 c2;clear c2;obtain rfl:=zC0 H;go_wp2;go_ret;exact qG3
end Go.Proofs.YthhgfncliffggaaGreat.Pr
