/- A part of the proof that EffectsBehind returns true for every argument. No conditions beyond the given statement's own. -/
import Derived.Test.YthhgfncliffggaaGreatEB5
import Derived.Test.YthhgfncliffggaaGreatEB2
import Derived.Test.YthhgfncliffggaaGreatEB3
import Derived.Test.YthhgfncliffggaaGreatEB4
import Derived.Deep.RegionHeld3
import Derived.WalkMore
import Derived.Says
import Derived.Deep.LoopGhost
import Derived.Deep.QuietTactic
import Derived.RegionTactic
import Derived.ChangeAlike
set_option maxHeartbeats 16000000
set_option maxRecDepth 100000
set_option linter.unusedVariables false
set_option linter.unusedSimpArgs false
namespace Go.Proofs.YthhgfncliffggaaGreat.Man
open Go.RowKit Go.Proofs.YthhgfncliffggaaGreat.Pr Go.Proofs.YthhgfncliffggaaGreatW.PrintWords
def col (g:List (List Int)) (t:Nat) (i:Nat):List Int:=((List.range i).filter (fun k =>decide ((t:Int) ∈ g.getD k []))).map Int.ofNat
def turnF (g:List (List Int)):List (List Int):=if mayB g = true then (List.range g.length).map (fun t =>col g t g.length) else []
theorem col_succ (g:List (List Int)) (t i:Nat):col g t (i + 1) = col g t i ++ (if (t:Int) ∈ g.getD i [] then [(i:Int)] else []):=by
 unfold col;rw [List.range_succ,List.filter_append,List.map_append];by_cases h:(t:Int) ∈ g.getD i []
 ·simp only [zA2,h,decide_true,if_true,List.filter_nil,zI2,zN2];rfl
 ·simp only [zA2,h,decide_false,if_false,List.filter_nil,zN2,Bool.false_eq_true]
theorem col_len (g:List (List Int)) (t i:Nat):(col g t i).length≤i:=by
 unfold col;rw [zU1];exact zF0 (zX3 _ _) qE0
theorem b7Y {g:List (List Int)} (hm:mayB g = true) {i:Nat} (hi:i < g.length):∀ b a:Nat,a < b→b < (g.getD i []).length→rd (g.getD i []) (a:Int) < rd (g.getD i []) (b:Int):=by
 intro b
 induction b with
 | zero =>intro a h;omega
 | succ b ih =>
  intro a h1 h2;have h3:=((a2Y hm).2 i hi (b + 1) h2).2.2 qC0;simp only [Nat.add_sub_cancel] at h3;by_cases e:a = b
  ·subst e;exact h3
  ·have:=ih a qC0 qC0;omega
theorem row_new {g:List (List Int)} (hm:mayB g = true) {i j:Nat} (hi:i < g.length) (hj:j < (g.getD i []).length):¬ (g.getD i [])[j] ∈ (g.getD i []).take j:=by
 intro h;obtain ⟨a,ha,e⟩:=List.getElem_of_mem h;rw [zK1] at ha;rw [List.getElem_take] at e;have h1:=b7Y hm hi j a qC0 hj;rw [b8E qC0,b8E hj] at h1;omega
def part (g:List (List Int)) (i j:Nat):List (List Int):=(List.range g.length).map (fun t =>col g t i ++ (if (t:Int) ∈ (g.getD i []).take j then [(i:Int)] else []))
theorem b5L (g:List (List Int)) (i j t:Nat) (ht:t < g.length):(part g i j).getD t [] = col g t i ++ (if (t:Int) ∈ (g.getD i []).take j then [(i:Int)] else []):=by
 unfold part;rw [zE0,List.getElem?_map,List.getElem?_range ht];rfl
theorem b8M {g:List (List Int)} (hm:mayB g = true) {i j x:Nat} (hi:i < g.length) (hj:j < (g.getD i []).length) (hx:(g.getD i [])[j] = (x:Int)) (hxN:x < g.length):(part g i j).set x ((part g i j).getD x [] ++ [(i:Int)]) = part g i (j + 1):=by
 have hnew:=row_new hm hi hj;rw [hx] at hnew;apply zE2;intro t;rw [List.getElem?_set];have hlen:(part g i j).length = g.length:=by unfold part;simp
 by_cases ht:t < g.length
 ·have hr:(part g i (j + 1))[t]? = some (col g t i ++ (if (t:Int) ∈ (g.getD i []).take (j + 1) then [(i:Int)] else [])):=by
   unfold part;rw [List.getElem?_map,List.getElem?_range ht];rfl
  rw [hr,zB1 hj,hx]
  split
  ·rename_i e;subst e
   rw [if_pos (by rw [hlen];exact ht),b5L g i j x ht,if_neg hnew,if_pos qE0,zR2]
  ·rename_i e
   have hr2:(part g i j)[t]? = some (col g t i ++ (if (t:Int) ∈ (g.getD i []).take j then [(i:Int)] else [])):=by
    unfold part;rw [List.getElem?_map,List.getElem?_range ht];rfl
   rw [hr2];have hne:¬ (t:Int) = (x:Int):=by omega
   by_cases hin:(t:Int) ∈ (g.getD i []).take j
   ·rw [if_pos hin,if_pos (zT0.2 (.inl hin))]
   ·rw [if_neg hin,if_neg (fun h' =>(zT0.1 h').elim hin (fun h'' =>hne (zA1.1 h'')))]
 ·have h1:(part g i (j + 1))[t]? = none:=by rw [List.getElem?_eq_none];unfold part;simp;omega
  have h2:(part g i j)[t]? = none:=by rw [List.getElem?_eq_none];rw [hlen];omega
  rw [h1,if_neg qC0,h2]
theorem b8N (g:List (List Int)) (i:Nat):part g i (g.getD i []).length = part g (i + 1) 0:=by
 unfold part;apply List.map_congr_left;intro t _;rw [zN1,col_succ];simp
theorem b9R (g:List (List Int)) (hs:Sm g) (hm:mayB g = true) (i:Nat) (hi:i < g.length) (res:List (List Int)) (h:Ev (fun k =>graph_Turn.l0 k (part g (i + 1) 0) g (g.length:Int) ((i + 1:Nat):Int)) res) :
  ∀ m j:Nat,j + m = (g.getD i []).length→Ev (fun k =>graph_Turn.l1 k (part g i j) (i:Int) g (g.length:Int) (i:Int) (g.getD i []) ((g.getD i []).length:Int) (j:Int)) res:=by
 have hr:=hs.2 i;have hn:=hs.1;intro m
 induction m with
 | zero =>
  intro j hj;refine Ev.step ?_;have c3:¬ (j:Int) < ((g.getD i []).length:Int):=by omega
  simp only [graph_Turn.l1,if_neg c3,pz i qC0];rw [show j = (g.getD i []).length by omega,b8N];exact h
 | succ m ih =>
  intro j hj;have e:=ih (j + 1) qC0;refine Ev.step ?_;have hjl:j < (g.getD i []).length:=by omega
  have c3:(j:Int) < ((g.getD i []).length:Int):=by omega
  have c4:0≤(j:Int):=zH0 j;obtain ⟨m0,m1⟩:=b9H hm i hi _ (zD1 hjl);obtain ⟨x,hx⟩:∃ x:Nat,(g.getD i [])[j] = (x:Int):=⟨((g.getD i [])[j]).toNat,by omega⟩;rw [hx] at m1;have hxN:x < g.length:=by omega
  have hrd:rd (g.getD i []) (j:Int) = (x:Int):=by rw [b8E hjl];exact hx
  have d1:0≤(x:Int):=zH0 x;have hlen:(part g i j).length = g.length:=by unfold part;simp
  have d2:(x:Int) < ((part g i j).length:Int):=by rw [hlen];exact m1
  have d3:((part g i j).getD x []).length < 17592186044416:=by
   rw [b5L g i j x hxN,zO0];have:=col_len g x i
   split <;> simp <;> omega
  simp only [graph_Turn.l1,if_pos c3,if_pos c4,hrd,if_pos d1,if_pos d2,rdLg,if_pos d3,zK0,pz j qC0,b8M hm hi hjl hx hxN];exact e
theorem gturn_ev (g:List (List Int)) (hs:Sm g):Ev (fun k =>graph_Turn.f k g) (turnF g):=by
 have hn:=hs.1;refine Ev.bind (a9O g hs) ?_;unfold turnF;cases hb:mayB g with
 | false =>simp only [Bool.false_eq_true,if_false];exact Ev.const _
 | true =>
  have main:∀ m i:Nat,i + m = g.length→Ev (fun k =>graph_Turn.l0 k (part g i 0) g (g.length:Int) (i:Int)) ((List.range g.length).map (fun t =>col g t g.length)):=by
   intro m
   induction m with
   | zero =>
    intro i hi;refine Ev.step ?_;have c:¬ (i:Int) < (g.length:Int):=by omega
    simp only [graph_Turn.l0,if_neg c];rw [show i = g.length by omega,show part g g.length 0 = (List.range g.length).map (fun t =>col g t g.length) by unfold part;simp];exact Ev.const _
   | succ m ih =>
    intro i hi;refine Ev.step ?_;have c:(i:Int) < (g.length:Int):=by omega
    have c0:0≤(i:Int):=zH0 i;simp only [graph_Turn.l0,if_pos c,if_pos c0,rdLg];exact b9R g hs hb i qC0 _ (ih (i + 1) qC0) (g.getD i []).length 0 qC0
  have c1:0≤(g.length:Int):=zH0 _;have c2:g.length≤11728124029610:=by omega
  simp only [if_true,if_pos c1,zK0,if_pos c2];have e:=main g.length 0 qC0
  rw [show part g 0 0 = List.replicate g.length [] by
   unfold part;apply zE2;intro t;rw [List.getElem?_map,List.getElem?_replicate];by_cases ht:t < g.length
   ·rw [List.getElem?_range ht,if_pos ht];simp [col]
   ·rw [List.getElem?_eq_none qV0,if_neg ht];rfl] at e
  exact e
open Go.Proofs.YthhgfncliffggaaGreatW.PrintMore Go.Proofs.YthhgfncliffggaaGreat.Tarj Classical
theorem row_ge {g:List (List Int)} (hm:mayB g = true) {v:Nat} (hv:v < g.length):∀ j:Nat,j < (g.getD v []).length→(j:Int)≤rd (g.getD v []) (j:Int):=by
 intro j
 induction j with
 | zero =>intro h;exact ((a2Y hm).2 v hv 0 h).1
 | succ j ih =>
  intro h;have h1:=((a2Y hm).2 v hv (j + 1) h).2.2 qC0;simp only [Nat.add_sub_cancel] at h1;have:=ih qC0;omega
theorem a4F {g:List (List Int)} (hm:mayB g = true):GOk g:=by
 have h0:=(a2Y hm).1;refine ⟨h0,fun v =>?_,fun v hv m hmm =>b9H hm v hv m hmm⟩;by_cases hv:v < g.length
 ·rcases zR1 (g.getD v []).length with e | e
  ·rw [e];exact zG2 _
  ·have h1:=row_ge hm hv ((g.getD v []).length - 1) qC0;have h2:=((a2Y hm).2 v hv ((g.getD v []).length - 1) qC0).2.1;omega
 ·rw [zE0,List.getElem?_eq_none qC0];exact zG2 _
theorem GOk.sm {g:List (List Int)} (h:GOk g):Sm g:=⟨zF0 h.len qB0,fun i =>zF0 (h.row i) qB0⟩
def toL (N:Nat) (num:Nat→Nat):List Int:=(List.range N).map fun x =>((num x:Nat):Int)
theorem a6T (N:Nat) (num:Nat→Nat):(toL N num).length = N:=by unfold toL;simp
theorem toL_rd {N:Nat} {num:Nat→Nat} {x:Nat} (h:x < N):rd (toL N num) (x:Int) = ((num x:Nat):Int):=by
 unfold toL rd;rw [zK0,zE0,List.getElem?_map,List.getElem?_range h];rfl
theorem b7K {N:Nat} {num num':Nat→Nat} (h:∀ x,x < N→num x = num' x):toL N num = toL N num':=by
 unfold toL;exact List.map_congr_left (fun x hx =>by rw [h x (zX0.1 hx)])
theorem b6K {N:Nat} {r:List Int} (hr:r.Pairwise (· < ·)) (he:∀ m,m ∈ r→0≤m∧m < (N:Int)):∀ m j:Nat,j + m = r.length→rowTail N r m j = true:=by
 intro m
 induction m with
 | zero =>intro j _;rfl
 | succ m ih =>
  intro j hj;have hjl:j < r.length:=by omega
  simp only [rowTail,zZ0];refine ⟨?_,ih (j + 1) qC0⟩;have e:=he _ (zD1 hjl);have h1:rd r (j:Int) = r[j]:=b8E hjl;simp only [okAt,zZ0,zA3,Bool.not_eq_true',zB2,decide_eq_false_iff_not,h1];refine ⟨by omega,by omega,?_⟩;by_cases e0:j = 0
  ·exact .inl e0
  ·right
   have h2:rd r ((j - 1:Nat):Int) = r[j - 1]:=b8E qC0;rw [h2];have:=(List.pairwise_iff_getElem.1 hr) (j - 1) j qC0 hjl qC0;omega
theorem b9G {g:List (List Int)} (hl:g.length≤1000) (hr:∀ v,v < g.length→(g.getD v []).Pairwise (· < ·)) (he:∀ v,v < g.length→∀ m,m ∈ g.getD v []→0≤m∧m < (g.length:Int)):mayB g = true:=by
 have main:∀ m i:Nat,i + m = g.length→allTail g m i = true:=by
  intro m
  induction m with
  | zero =>intro i _;simp only [allTail,zB2];omega
  | succ m ih =>
   intro i hi;simp only [allTail,zZ0];exact ⟨b6K (hr i qC0) (he i qC0) _ 0 qC0,ih (i + 1) qC0⟩
 exact main g.length 0 qC0
theorem b8Y {g:List (List Int)} (hm:mayB g = true):∃ M num,Nmb (adjF g) g.length M num:=b6S (a4F hm).adj
noncomputable def manyN (g:List (List Int)):Nat:=if h:mayB g = true then Classical.choose (b8Y h) else 0
noncomputable def numN (g:List (List Int)):Nat→Nat:=if h:mayB g = true then Classical.choose (Classical.choose_spec (b8Y h)) else fun _ =>0
theorem a5X {g:List (List Int)} (hm:mayB g = true):Nmb (adjF g) g.length (manyN g) (numN g):=by
 unfold manyN numN;rw [dif_pos hm,dif_pos hm];exact Classical.choose_spec (Classical.choose_spec (b8Y hm))
noncomputable def ofF (g:List (List Int)):List Int:=if mayB g = true then toL g.length (numN g) else []
noncomputable def manyF (g:List (List Int)):Int:=((manyN g:Nat):Int)
def Ldg (adj:Nat→List Nat) (N:Nat) (num:Nat→Nat) (k m:Nat):Prop:=∃ x,x < N∧num x = k∧∃ y,y ∈ adj x∧num y = m
noncomputable def foldR (adj:Nat→List Nat) (N:Nat) (num:Nat→Nat) (M k:Nat):List Int:=((List.range M).filter (fun m =>decide (m≠k∧Ldg adj N num k m))).map Int.ofNat
noncomputable def foldF (g:List (List Int)):List (List Int):=(List.range (manyN g)).map fun k =>foldR (adjF g) g.length (numN g) (manyN g) k
theorem b9I {g:List (List Int)} (hm:¬ mayB g = true):manyN g = 0:=by unfold manyN;rw [dif_neg hm]
theorem of_eq {g:List (List Int)} (hm:mayB g = true) {M:Nat} {num:Nat→Nat} (h:Nmb (adjF g) g.length M num):M = manyN g∧(∀ x,x < g.length→num x = numN g x)∧ofF g = toL g.length num:=by
 obtain ⟨a,b⟩:=h.uniq (a4F hm).adj (a5X hm);refine ⟨a,b,?_⟩;unfold ofF;rw [if_pos hm];exact (b7K b).symm
def pmx (num:Nat→Nat):Nat→Nat
 | 0 =>0
 | i + 1 =>max (pmx num i) (num i + 1)
theorem pmx_ge {num:Nat→Nat}:∀ {i x:Nat},x < i→num x + 1≤pmx num i
 | 0,x,h =>absurd h (zP2 _)
 | i + 1,x,h =>by
  unfold pmx;by_cases e:x = i
  ·subst e;omega
  ·have:=pmx_ge (num:=num) (i:=i) (x:=x) qC0;omega
theorem pmx_le {num:Nat→Nat} {M:Nat}:∀ {i:Nat},(∀ x,x < i→num x < M)→pmx num i≤M
 | 0,_ =>zG2 _
 | i + 1,h =>by
  unfold pmx;have:=pmx_le (num:=num) (M:=M) (i:=i) (fun x hx =>h x qC0);have:=h i qC0;omega
theorem pmx_all {adj:Nat→List Nat} {N M:Nat} {num:Nat→Nat} (h:Nmb adj N M num):pmx num N = M:=by
 have h1:=pmx_le (num:=num) (M:=M) (i:=N) h.lt;rcases zR1 M with e | e
 ·omega
 ·obtain ⟨n,a,b,_⟩:=h.at_ (M - 1) qC0;have:=pmx_ge (num:=num) a;omega
theorem b4O {g:List (List Int)} (hm:mayB g = true):manyN g≤g.length:=by
 have h:=a5X hm;have hN:=(a4F hm).adj;have key:∀ m,m≤manyN g→m≤((List.range g.length).filter (fun x =>decide (numN g x < m))).length:=by
  intro m
  induction m with
  | zero =>intro _;exact zG2 _
  | succ m ih =>
   intro hm';obtain ⟨n,a,b,_⟩:=h.at_ m qC0;have:=ih qC0;have:=b5Y (l:=List.range g.length) (p:=fun x =>decide (numN g x < m)) (q:=fun x =>decide (numN g x < m + 1)) (n:=n) (fun x _ hx =>zI0 (by have:=zB0 hx;omega)) (zX0.2 a) (zI0 qC0) (zM0 qC0);omega
 have h1:=key (manyN g) (zJ0 _);have h2:=zX3 (fun x =>decide (numN g x < manyN g)) (List.range g.length);rw [zF2] at h2;omega
open Go.Shelf
theorem csr13 (xs:List Int):(Lib.compact (srt xs)).Pairwise (· < ·):=by
 have hp:(srt xs).Pairwise (fun a b =>decide (a≤b) = true):=List.pairwise_mergeSort (fun a b c h1 h2 =>by simp only [zB2] at *;omega) (fun a b =>by simp only [zA3,zB2];omega) xs;refine List.Pairwise.imp (fun {a b} h =>by have:=h.1;have:=h.2;omega) (a7N (srt xs) (fun a b =>a≤b) (fun a b h1 h2 =>by omega) (fun i j hi hj h =>?_));by_cases e:i = j
 ·subst e;omega
 ·have:=(List.pairwise_iff_getElem.1 hp) i j hi hj qC0;simpa using this
theorem csm13 (xs:List Int) (x:Int):x ∈ Lib.compact (srt xs) ↔ x ∈ xs:=(a9U _ _).trans (List.mergeSort_perm xs _).mem_iff
theorem b4M {l : List Nat} {x : Nat} : (x : Int) ∈ toI l ↔ x ∈ l := by
  unfold toI;rw [zW2]
  exact ⟨fun ⟨y, hy, e⟩ => by simp only [Int.ofNat_eq_natCast] at e; have : y = x := by omega
                              exact this ▸ hy, fun h => ⟨x, h, rfl⟩⟩
theorem a8S {l:List Nat} {x:Nat}:x ∈ cmpN l ↔ x ∈ l:=by
 rw [← b4M,a8J,csm13,b4M]
theorem b7L {l:List Nat} (h:(toI l).Pairwise (· < ·)):l.Pairwise (· < ·):=by
 unfold toI at h;rw [zT3] at h;exact h.imp (fun h =>by simp only [Int.ofNat_eq_natCast] at h;omega)
theorem b0W (l:List Nat):(cmpN l).Pairwise (· < ·):=b7L (by rw [a8J];exact csr13 _)
theorem b4L {l:List Nat} (h:l.Pairwise (· < ·)):l.Nodup:=h.imp (fun h =>by omega)
theorem b6L {cls:Nat→Nat} {x m i j:Nat} {r:Nat→List Nat}:j ∈ rowIns cls x r m i ↔ j ∈ r i∨(cls x = i∧cls m = j∧j≠i):=by
 unfold rowIns;by_cases e:cls m = cls x
 ·rw [if_pos e];exact ⟨.inl,fun q =>q.elim id (fun q =>absurd (q.2.1.symm.trans (e.trans q.1)) q.2.2)⟩
 ·rw [if_neg e];by_cases e2:i = cls x
  ·subst e2;rw [Tarj.a2S,zT0,zA1];exact ⟨fun q =>q.imp id (fun q =>⟨rfl,q.symm,fun w =>e (by rw [← q,w])⟩),fun q =>q.imp id (fun q =>q.2.1.symm)⟩
  ·rw [Tarj.a1R _ _ e2];exact ⟨.inl,fun q =>q.elim id (fun q =>absurd q.1.symm e2)⟩
theorem a9H {cls:Nat→Nat} {x i j:Nat}:∀ (a:List Nat) (r:Nat→List Nat),j ∈ a.foldl (rowIns cls x) r i ↔ j ∈ r i∨(cls x = i∧∃ y,y ∈ a∧cls y = j∧j≠i)
 | [],r =>by simp
 | m :: a,r =>by
  rw [List.foldl_cons,a9H a,b6L];constructor
  ·rintro ((q | ⟨q1,q2,q3⟩) | ⟨q,y,hy,q2⟩)
   ·exact .inl q
   ·exact .inr ⟨q1,m,zN0,q2,q3⟩
   ·exact .inr ⟨q,y,zP0 _ hy,q2⟩
  ·rintro (q | ⟨q,y,hy,q2⟩)
   ·exact .inl (.inl q)
   ·rcases zQ0.1 hy with rfl | hy
    ·exact .inl (.inr ⟨q,q2⟩)
    ·exact .inr ⟨q,y,hy,q2⟩
theorem a4X {cls:Nat→Nat} {adj:Nat→List Nat} {i j:Nat}:∀ n:Nat,j ∈ rowsAt cls adj n i ↔ j≠i∧∃ x,x < n∧cls x = i∧∃ y,y ∈ adj x∧cls y = j
 | 0 =>by
  constructor
  ·intro h;cases h
  ·rintro ⟨_,x,h,_⟩;exact absurd h (zP2 _)
 | n + 1 =>by
  have e:rowsAt cls adj (n + 1) = (adj n).foldl (rowIns cls n) (rowsAt cls adj n):=by
   unfold rowsAt;rw [List.range_succ,List.foldl_append];rfl
  rw [e,a9H,a4X n];constructor
  ·rintro (⟨q,x,hx,w⟩ | ⟨q,y,hy,q2,q3⟩)
   ·exact ⟨q,x,by omega,w⟩
   ·exact ⟨q3,n,by omega,q,y,hy,q2⟩
  ·rintro ⟨q,x,hx,q2,y,hy,q3⟩;by_cases e:x = n
   ·subst e;exact .inr ⟨q2,y,hy,q3,q⟩
   ·exact .inl ⟨q,x,by omega,q2,y,hy,q3⟩
theorem b3F (k x:Nat):∀ (l:List Nat) (f:Nat→Nat),ofRow k l f x = if x ∈ l then k else f x
 | [],f =>by simp [ofRow]
 | a :: t,f =>by
  have ih:=b3F k x t (Tarj.upd f a k);have e:ofRow k (a :: t) f x = ofRow k t (Tarj.upd f a k) x:=rfl;rw [e,ih];by_cases h:x ∈ t
  ·rw [if_pos h,if_pos (zP0 _ h)]
  ·rw [if_neg h];by_cases e2:x = a
   ·subst e2;rw [Tarj.a2S,if_pos zN0]
   ·rw [Tarj.a1R _ _ e2,if_neg (fun w =>(zQ0.1 w).elim e2 h)]
theorem b1V {L:List (List Nat)} (hd:L.Pairwise (fun l m =>∀ x,x ∈ l→x ∉ m)) {k x:Nat} (hk:k < L.length) (hx:x ∈ L[k]):∀ n,k < n→n≤L.length→ofAt L n x = k
 | 0,h,_ =>absurd h (zP2 _)
 | n + 1,h,hn =>by
  have hg:L.getD n [] = L[n]'qC0:=by rw [zE0,zD0 qC0];rfl
  rw [b3G,b3F,hg];by_cases e:k = n
  ·subst e;rw [if_pos hx]
  ·have:=(List.pairwise_iff_getElem.1 hd) k n hk qC0 qC0 x hx;rw [if_neg this];exact b1V hd hk hx n qC0 qC0
section
variable {adj:Nat→List Nat} {N:Nat}
def rowK (adj:Nat→List Nat) (N:Nat) (cls:Nat→Nat) (k:Nat):List Nat:=cmpN (rowsAt cls adj N k)
def rowsK (adj:Nat→List Nat) (N:Nat) (cls:Nat→Nat) (K:Nat):List (List Int):=(List.range K).map fun i =>toI (rowK adj N cls i)
def turnK (adj:Nat→List Nat) (N:Nat) (cls:Nat→Nat) (K k:Nat):List Nat:=(List.range K).filter fun i =>decide (k ∈ rowK adj N cls i)
theorem a4D (adj:Nat→List Nat) (N:Nat) (cls:Nat→Nat) (K:Nat):(rowsK adj N cls K).length = K:=by unfold rowsK;simp
theorem a9G {cls:Nat→Nat} {K k:Nat} (h:k < K):(rowsK adj N cls K).getD k [] = toI (rowK adj N cls k):=by
 unfold rowsK;rw [zE0,List.getElem?_map,List.getElem?_range h];rfl
theorem kh_ok (hN:∀ x,x < N→∀ y,y ∈ adj x→y < N) {L:List (List Nat)} (hL:L = knotsF adj N) {K:Nat} (hK:K = L.length):KH adj N K (ofAt L K) (lowAt L K) (rowK adj N (ofAt L K)) (turnK adj N (ofAt L K) K):=by
 obtain ⟨k1,k2,k3⟩:=knots_ok hN;rw [← hL] at k1 k2 k3;have inK:∀ x,x < N→∃ hk:ofAt L K x < L.length,x ∈ L[ofAt L K x]:=fun x hx =>by
  obtain ⟨l,hl,hxl⟩:=(k3 x).2 hx;obtain ⟨k,hk,rfl⟩:=List.getElem_of_mem hl;have:=b1V k2 hk hxl K qC0 qC0;refine ⟨by omega,?_⟩;simp only [this];exact hxl
 have atK:∀ k (hk:k < L.length) x,x ∈ L[k]→x < N∧ofAt L K x = k:=fun k hk x hx =>⟨(k3 x).1 ⟨_,zD1 hk,hx⟩,b1V k2 hk hx K qC0 qC0⟩
 have low:∀ k (hk:k < L.length),∃ hp:0 < L[k].length,lowAt L K k = L[k][0]:=fun k hk =>by
  have hp:=List.length_pos_iff.2 (k1 _ (zD1 hk)).1;refine ⟨hp,?_⟩;unfold lowAt;rw [if_pos qC0,zE0 (l:=L),zD0 hk,zL2,zE0,zD0 hp];rfl
 have cl:∀ x,x < N→ofAt L K x < K:=fun x hx =>by obtain ⟨h,_⟩:=inK x hx;omega
 refine ⟨hN,cl,fun x y hx hy =>?_,fun k hk =>?_,fun x hx =>?_,fun k hk j =>?_,fun k hk =>b4L (b0W _),fun k hk j =>?_,fun k hk =>(List.nodup_range).filter _⟩
 ·obtain ⟨hk,hxk⟩:=inK x hx;have hkn:=(k1 _ (zD1 hk)).2.2 x hxk y;constructor
  ·intro e;obtain ⟨hk2,hyk⟩:=inK y hy;simp only [← e] at hyk;exact hkn.1 hyk
  ·intro s;exact (atK _ hk y (hkn.2 s)).2.symm
 ·obtain ⟨hp,e⟩:=low k qC0;rw [e];exact atK k qC0 _ (zD1 hp)
 ·obtain ⟨hk,hxk⟩:=inK x hx;obtain ⟨hp,e⟩:=low _ hk;rw [e];obtain ⟨i,hi,hxi⟩:=List.getElem_of_mem hxk;have hs:=(k1 _ (zD1 hk)).2.1;rcases zR1 i with q | q
  ·subst q;rw [hxi];exact zJ0 _
  ·have:=(List.pairwise_iff_getElem.1 hs) 0 i hp hi q;rw [hxi] at this;exact this
 ·unfold rowK;rw [a8S,a4X]
 ·unfold turnK;rw [zT1,zX0,zB2]
theorem b7Z {cls:Nat→Nat} {K k:Nat} (hN:∀ x,x < N→∀ y,y ∈ adj x→y < N) (hc:∀ x,x < N→cls x < K) {j:Nat} (h:j ∈ rowK adj N cls k):j < K:=by
 unfold rowK at h;rw [a8S,a4X] at h;obtain ⟨_,x,hx,_,y,hy,e⟩:=h;rw [← e];exact hc y (hN x hx y hy)
theorem b2T {cls:Nat→Nat} {K:Nat} (hN:∀ x,x < N→∀ y,y ∈ adj x→y < N) (hc:∀ x,x < N→cls x < K) (hK:K≤1000):mayB (rowsK adj N cls K) = true:=by
 refine b9G (by rw [a4D];exact hK) (fun v hv =>?_) (fun v hv m hm =>?_)
 ·rw [a4D] at hv;rw [a9G hv];unfold rowK;rw [a8J];exact csr13 _
 ·rw [a4D] at hv ⊢;rw [a9G hv] at hm;obtain ⟨j,hj,rfl⟩:=zW2.1 hm;have:=b7Z hN hc hj;simp only [Int.ofNat_eq_natCast];omega
theorem turnK_eq {cls:Nat→Nat} {K:Nat} (hN:∀ x,x < N→∀ y,y ∈ adj x→y < N) (hc:∀ x,x < N→cls x < K) (hK:K≤1000):turnF (rowsK adj N cls K) = (List.range K).map fun k =>toI (turnK adj N cls K k):=by
 unfold turnF;rw [if_pos (b2T hN hc hK),a4D];apply List.map_congr_left;intro t _;unfold col turnK toI
 congr 1
 apply List.filter_congr;intro i hi;rw [show (rowsK adj N cls K).getD i [] = toI (rowK adj N cls i) from a9G (zX0.1 hi)];exact decide_eq_decide.2 b4M
end
open Go.Lib
def fnAt (fs:List S34) (i:Nat):S34:=a0V fs (i:Int)
def wrA (fs:List S34) (num:Nat→Nat) (i:Nat):Nat→List ByteArray:=(List.range i).foldl (fun r x =>Tarj.upd r (num x) (unionF (r (num x)) (ownF (fnAt fs x)))) (fun _ =>[])
theorem a8I (fs:List S34) (num:Nat→Nat) (i:Nat):wrA fs num (i + 1) = Tarj.upd (wrA fs num i) (num i) (unionF (wrA fs num i (num i)) (ownF (fnAt fs i))):=by
 unfold wrA;rw [List.range_succ,List.foldl_append];rfl
def wrRow (k:Nat) (row:List Nat) (r:Nat→List ByteArray):Nat→List ByteArray:=row.foldl (fun r m =>Tarj.upd r k (unionF (r k) (r m))) r
theorem b6G (k:Nat) (row:List Nat) (j:Nat) (hj:j < row.length) (r:Nat→List ByteArray):wrRow k (row.take (j + 1)) r = Tarj.upd (wrRow k (row.take j) r) k (unionF (wrRow k (row.take j) r k) (wrRow k (row.take j) r row[j])):=by
 unfold wrRow;rw [zB1 hj,List.foldl_append];rfl
def wrB (adj:Nat→List Nat) (k:Nat) (r:Nat→List ByteArray):Nat→List ByteArray:=(List.range k).foldl (fun r i =>wrRow i (adj i) r) r
theorem a8H (adj:Nat→List Nat) (k:Nat) (r:Nat→List ByteArray):wrB adj (k + 1) r = wrRow k (adj k) (wrB adj k r):=by
 unfold wrB;rw [List.range_succ,List.foldl_append];rfl
def allOwn (fs:List S34):List ByteArray:=fs.flatMap fun f =>(flat f.f2).flatMap ownG
structure SmG (fs:List S34):Prop where
 n:fs.length≤1000
 b:∀ f,f ∈ fs→(flat f.f2).length≤1050000
 u:(allOwn fs).length≤1050000
def InU (U:List ByteArray) (r:Nat→List ByteArray):Prop:=∀ k,(r k).Nodup∧∀ x,x ∈ r k→x ∈ U
section
variable {fs:List S34} {U:List ByteArray} {r:Nat→List ByteArray}
theorem InU.len (h:InU U r) (k:Nat):(r k).length≤U.length:=b1I _ _ (h k).1 (h k).2
theorem InU.put (h:InU U r) (k:Nat) {a b:List ByteArray} (ha:∀ x,x ∈ a→x ∈ U) (hb:∀ x,x ∈ b→x ∈ U):InU U (Tarj.upd r k (unionF a b)):=fun i =>by
 simp only [Tarj.upd]
 split
 ·exact ⟨(a4C a b).nodup,fun x hx =>(a5R.1 hx).elim (ha x) (hb x)⟩
 ·exact h i
theorem b5M {f:S34} {x:ByteArray}:x ∈ ownF f ↔ x ∈ (flat f.f2).flatMap ownG:=by
 unfold ownF;rw [a5R];simp
theorem b5X {i:Nat} (h:i < fs.length):fnAt fs i ∈ fs:=by
 unfold fnAt a0V;rw [zK0,zE0,zD0 h];exact zD1 h
theorem b4J {i:Nat} (h:i < fs.length):∀ x,x ∈ ownF (fnAt fs i)→x ∈ allOwn fs:=fun x hx =>List.mem_flatMap.2 ⟨_,b5X h,b5M.1 hx⟩
theorem b0P (f:S34):RisB (ownF f):=a4C _ _
theorem b7H (num:Nat→Nat):∀ i,i≤fs.length→InU (allOwn fs) (wrA fs num i)
 | 0,_ =>fun k =>⟨List.nodup_nil,fun x hx =>by cases hx⟩
 | i + 1,h =>by
  rw [a8I];have ih:=b7H num i qC0;exact ih.put _ (ih _).2 (b4J qC0)
theorem b1B (k:Nat):∀ (row:List Nat) (r:Nat→List ByteArray),InU U r→InU U (wrRow k row r)
 | [],r,h =>h
 | m :: t,r,h =>b1B k t _ (h.put k (h k).2 (h m).2)
theorem b7F (adj:Nat→List Nat) (h:InU U r):∀ k,InU U (wrB adj k r)
 | 0 =>h
 | k + 1 =>by rw [a8H];exact b1B k _ _ (b7F adj h k)
end
noncomputable def wrF (fs:List S34):Nat→List ByteArray:=wrB (rowK (adjF (callsF fs)) (callsF fs).length (numN (callsF fs))) (manyN (callsF fs)) (wrA fs (numN (callsF fs)) fs.length)
noncomputable def sigsF (fs:List S34):List S42:=(List.range fs.length).map fun i =>⟨(fnAt fs i).f0,(((fnAt fs i).f1.length:Nat):Int),wrF fs (numN (callsF fs) i)⟩
structure WR (B bw K:Nat) (v:Nat→Value) (r:Nat→List ByteArray) (W0 Ws W:World):Prop where
 o:W.heap[bw]? = some (.cells (vals K v) 25 (0,0))
 r:∀ i,i < K→∃ A c,v i = .slice A (r i).length c∧Kd.F Kd.string W (fun q =>q≠bw) A (r i).length (r i)
 fz:∀ k,k < bw→W.heap[k]? = Ws.heap[k]?
 be:Below B W0 W
 bb:B≤bw
section
variable {B bw K:Nat} {v:Nat→Value} {r:Nat→List ByteArray} {W0 Ws W W1:World}
theorem WR.below (h:WR B bw K v r W0 Ws W) (hb:Below W.heap.size W W1):WR B bw K v r W0 Ws W1:=by
 have hl:=a0X h.o;have hbb:=h.bb;refine ⟨a0P h.o hb,fun i hi =>?_,fun k hk =>by rw [hb.block k qC0];exact h.fz k hk,h.be.trans (hb.mono qC0),h.bb⟩;obtain ⟨A,c,e,hF⟩:=h.r i hi;exact ⟨A,c,e,Kd.a1F hF hb⟩
theorem WR.put (h:WR B bw K v r W0 Ws W) {base:Nat} (hbase:bw < base) {i:Nat} (hi:i < K) {v1:Value} {xs:List ByteArray} (hr:Kd.R Kd.string 9 W base (fun _ =>True) v1 xs):WR B bw K (Tarj.upd v i v1) (Tarj.upd r i xs) W0 Ws (W.setCell ⟨bw,i,none⟩ v1):=by
 refine ⟨a2A h.o i _ (b5E _ _ _ _),fun j hj =>?_,fun k hk =>by rw [Below.heap_setCell _ _ _ _ (show k≠bw by omega)];exact h.fz k hk,h.be.setCell (p:=⟨bw,i,none⟩) h.bb _,h.bb⟩;by_cases e:j = i
 ·subst e;simp only [Tarj.upd,if_true];obtain ⟨A,c,e1⟩:=Kd.a3D hr;refine ⟨A,c,e1,?_⟩;have hr2:Kd.R Kd.string 9 W base (fun q =>q≠bw) v1 xs:=Kd.a5C rfl hr (fun k hk =>by have:=a1O (Kd.a2C hr) k hk;omega);rw [e1] at hr2;exact Kd.a8G (p:=⟨bw,j,none⟩) (Kd.N_F (Kd.R_N hr2)) (fun _ hq =>hq) _
 ·simp only [Tarj.upd,if_neg e];obtain ⟨A,c,e1,hF⟩:=h.r j hj;exact ⟨A,c,e1,Kd.a8G (p:=⟨bw,i,none⟩) hF (fun _ hq =>hq) _⟩
theorem WR.start (hB:B≤W.heap.size) (hbe:Below B W0 W):WR B W.heap.size K (fun _ =>.slice none 0 0) (fun _ =>[]) W0 (W.alloc (.cells (vals K (fun _ =>.slice none 0 0)) 25)) (W.alloc (.cells (vals K (fun _ =>.slice none 0 0)) 25)) :=
 ⟨World.alloc_heap_new W _,fun i hi =>⟨none,0,rfl,Kd.F_nil _ _ _⟩,fun _ _ =>rfl,hbe.trans ((a0D (zG0 W.heap.size W) _).mono hB),hB⟩
theorem WR.cell (h:WR B bw K v r W0 Ws W) {i:Nat} (hi:i < K):∃ A c,W.cell? ⟨bw,i,none⟩ = some (.slice A (r i).length c)∧W.frozen? ⟨bw,i,none⟩ = false∧Kd.F Kd.string W (fun q =>q≠bw) A (r i).length (r i):=by
 obtain ⟨A,c,e,hF⟩:=h.r i hi;refine ⟨A,c,?_,a0K h.o i,hF⟩;rw [← e];exact (a0I h.o i).trans (a6I _ hi)
end
theorem infoLS:(Tryz.prog.info? 25).map (fun i =>(i.zero,i.size,i.bytes)) = some (some (.slice none 0 0),1,24):=by kernel_rfl
theorem makeLS (K:Nat) (hK:K≤1000) (W:World):(Instr.makeSlice 56 (.int .i64 (K:Int)) (.int .i64 (K:Int))).run Tryz.prog W = .ok (.slice (some ⟨W.heap.size,0,none⟩) K K) (W.alloc (.cells (vals K (fun _ =>.slice none 0 0)) 25)):=by
 have h:=a3M (P:=Tryz.prog) 56 25 (.slice none 0 0) 24 Tryz.underlying56 infoLS rfl qB0 (K:Int) (zH0 K) qW1 W;rw [zK0] at h;rw [h]
 congr 3
 unfold madeCells vals;apply Array.ext_getElem?;intro j;by_cases hj:j < K
 ·simp [hj,Nat.mod_one]
 ·simp [hj]
theorem b3P (nm:ByteArray):∀ (l:List S34) (i:Nat),firstIx nm l i < (i:Int) + l.length:=by
 intro l
 induction l with
 | nil =>intro i;simp only [firstIx,zI1];omega
 | cons f r ih =>
  intro i;have:=ih (i + 1);simp only [firstIx,zR0]
  split
  ·omega
  ·omega
theorem b6X (fs:List S34) (L:List S65) (x:Int) (h:x ∈ coll fs L):0≤x∧x < fs.length:=by
 unfold coll at h;rw [List.mem_flatMap] at h;obtain ⟨s,_,h⟩:=h;unfold calledBy at h
 split at h
 ·rename_i hc
  simp at h;have:=b3P s.f3 fs 0;have h2:x = funIx fs s.f3:=h
  have h3:=hc.2;rw [h2];refine ⟨h3,?_⟩;unfold funIx at *
  omega
 ·cases h
theorem a9W {fs:List S34} (hn:fs.length≤1000):mayB (callsF fs) = true:=by
 have hl:(callsF fs).length = fs.length:=by unfold callsF;simp
 have hg:∀ v,v < fs.length→∃ f,(callsF fs).getD v [] = callsOf fs f:=fun v hv =>by
  unfold callsF;rw [zE0,List.getElem?_map,zD0 hv];exact ⟨_,rfl⟩
 refine b9G (by rw [hl];exact hn) (fun v hv =>?_) (fun v hv m hm =>?_)
 ·obtain ⟨f,e⟩:=hg v qC0;rw [e];unfold callsOf
  split
  ·unfold allIx;rw [zT3];exact (zV3).imp (fun h =>by simp only [Int.ofNat_eq_natCast];omega)
  ·exact csr13 _
 ·obtain ⟨f,e⟩:=hg v qC0;rw [e] at hm;rw [hl];unfold callsOf at hm
  split at hm
  ·unfold allIx at hm;obtain ⟨y,hy,rfl⟩:=zW2.1 hm;have:=zX0.1 hy;simp only [Int.ofNat_eq_natCast];omega
  ·exact b6X fs _ m ((csm13 _ _).1 hm)
section
variable {fs:List S34} {num:Nat→Nat}
theorem b4C {x:ByteArray} {k:Nat}:∀ i:Nat,x ∈ wrA fs num i k ↔ ∃ j,j < i∧num j = k∧x ∈ ownF (fnAt fs j)
 | 0 =>⟨fun h =>(by cases h),fun ⟨j,h,_⟩ =>absurd h (zP2 j)⟩
 | i + 1 =>by
  have ih:=b4C (x:=x) (k:=k) i;rw [a8I];simp only [Tarj.upd];by_cases e:k = num i
  ·rw [if_pos e,a5R,← e,ih];constructor
   ·rintro (⟨j,a,b,c⟩ | h)
    ·exact ⟨j,by omega,b,c⟩
    ·exact ⟨i,by omega,e.symm,h⟩
   ·rintro ⟨j,a,b,c⟩;rcases zQ2 j i with q | q
    ·exact .inl ⟨j,q,b,c⟩
    ·obtain rfl:j = i:=by omega
     exact .inr c
  ·rw [if_neg e,ih];constructor
   ·rintro ⟨j,a,b,c⟩;exact ⟨j,by omega,b,c⟩
   ·rintro ⟨j,a,b,c⟩;refine ⟨j,?_,b,c⟩;rcases zQ2 j i with q | q
    ·exact q
    ·obtain rfl:j = i:=by omega
     exact absurd b.symm e
theorem b7G (k:Nat):∀ i:Nat,RisB (wrA fs num i k)
 | 0 =>RisB.nil
 | i + 1 =>by
  rw [a8I];simp only [Tarj.upd]
  split
  ·exact a4C _ _
  ·exact b7G k i
theorem b2K {k j:Nat}:∀ (row:List Nat) (r:Nat→List ByteArray),(∀ i,RisB (r i))→RisB (wrRow k row r j)
 | [],r,h =>h j
 | m :: t,r,h =>b2K t (Tarj.upd r k (unionF (r k) (r m))) (fun i =>by
   simp only [Tarj.upd]
   split
   ·exact a4C _ _
   ·exact h i)
theorem b7D {adj:Nat→List Nat} {r:Nat→List ByteArray} (h:∀ i,RisB (r i)):∀ k i,RisB (wrB adj k r i)
 | 0,i =>h i
 | k + 1,i =>by rw [a8H];exact b2K _ _ (b7D h k)
theorem a6R {k j:Nat} (e:j≠k):∀ (row:List Nat) (r:Nat→List ByteArray),wrRow k row r j = r j
 | [],r =>rfl
 | m :: t,r =>(a6R e t (Tarj.upd r k (unionF (r k) (r m)))).trans (by simp only [Tarj.upd,if_neg e])
theorem b2L {k:Nat} {x:ByteArray}:∀ (row:List Nat) (r:Nat→List ByteArray),k ∉ row→(x ∈ wrRow k row r k ↔ x ∈ r k∨∃ m,m ∈ row∧x ∈ r m)
 | [],r,_ =>by simp [wrRow]
 | m :: t,r,hk =>by
  have h1:m≠k:=fun e =>hk (e ▸ zN0)
  have h2:k ∉ t:=fun e =>hk (zP0 _ e)
  have ih:=b2L (x:=x) t (Tarj.upd r k (unionF (r k) (r m))) h2;refine Iff.trans ih ?_;simp only [Tarj.upd,if_true,a5R];constructor
  ·rintro ((h | h) | ⟨q,hq,h⟩)
   ·exact .inl h
   ·exact .inr ⟨m,zN0,h⟩
   ·rw [if_neg (fun e:q = k =>h2 (e ▸ hq))] at h;exact .inr ⟨q,zP0 _ hq,h⟩
  ·rintro (h | ⟨q,hq,h⟩)
   ·exact .inl (.inl h)
   ·rcases zQ0.1 hq with rfl | hq
    ·exact .inl (.inr h)
    ·refine .inr ⟨q,hq,?_⟩;rw [if_neg (fun e:q = k =>h2 (e ▸ hq))];exact h
end
theorem rch_out {adj:Nat→List Nat} {num:Nat→Nat} {k:Nat} {y z:Nat} (r:Rch adj y z):num y = k→num z≠k→∃ a b,Rch adj y a∧num a = k∧b ∈ adj a∧num b≠k∧Rch adj b z:=by
 induction r with
 | refl x =>intro h1 h2;exact absurd h1 h2
 | @step x y z h r ih =>
  intro h1 h2;by_cases e:num y = k
  ·obtain ⟨a,b,q1,q2,q3,q4,q5⟩:=ih e h2;exact ⟨a,b,.step h q1,q2,q3,q4,q5⟩
  ·exact ⟨x,y,.refl _,h1,h,e,r⟩
section
variable {adj:Nat→List Nat} {N M:Nat} {num:Nat→Nat} {r0:Nat→List ByteArray}
theorem b1N {k j:Nat}:j ∈ rowK adj N num k ↔ j≠k∧∃ x,x < N∧num x = k∧∃ y,y ∈ adj x∧num y = j:=by
 unfold rowK;rw [a8S,a4X]
theorem b7E (hN:∀ x,x < N→∀ y,y ∈ adj x→y < N) (h:Nmb adj N M num) {x:ByteArray}:∀ K:Nat,K≤M →
  (∀ i,K≤i→wrB (rowK adj N num) K r0 i = r0 i)∧∀ y,y < N→num y < K→(x ∈ wrB (rowK adj N num) K r0 (num y) ↔ ∃ z,Rch adj y z∧x ∈ r0 (num z))
 | 0,_ =>⟨fun _ _ =>rfl,fun _ _ h =>absurd h (zP2 _)⟩
 | K + 1,hK =>by
  obtain ⟨i1,i2⟩:=b7E hN h (x:=x) K qC0;rw [a8H];refine ⟨fun i hi =>by rw [a6R qC0];exact i1 i qC0,fun y hy hyK =>?_⟩;by_cases e:num y = K
  ·rw [e,b2L _ _ (fun hm =>(b1N.1 hm).1 rfl),i1 K (zJ0 _)];constructor
   ·rintro (h1 | ⟨m,hm,h1⟩)
    ·exact ⟨y,.refl _,by rw [e];exact h1⟩
    ·obtain ⟨m1,a,a1,a2,b,b1,b2⟩:=b1N.1 hm;have hb:=hN a a1 b b1;have hd:=h.down hN a1 (.one b1);rw [← b2] at h1;obtain ⟨z,z1,z2⟩:=(i2 b hb qC0).1 h1;have s:=(h.cls y a hy a1).1 qC0;exact ⟨z,s.1.trans (.step b1 z1),z2⟩
   ·rintro ⟨z,z1,z2⟩;by_cases ez:num z = K
    ·rw [ez] at z2;exact .inl z2
    ·obtain ⟨a,b,q1,q2,q3,q4,q5⟩:=rch_out z1 e ez;have ha:=q1.lt hN hy;have hb:=hN a ha b q3;have hd:=h.down hN ha (.one q3);exact .inr ⟨num b,b1N.2 ⟨q4,a,ha,q2,b,q3,rfl⟩,(i2 b hb qC0).2 ⟨z,q5,z2⟩⟩
  ·rw [a6R e];exact i2 y hy qC0
end
section
variable {fs:List S34}
theorem a8B (fs:List S34):(callsF fs).length = fs.length:=by unfold callsF;simp
theorem b1D (hn:fs.length≤1000) {i:Nat} (hi:i < fs.length) {x:ByteArray}:x ∈ wrF fs (numN (callsF fs) i) ↔ ∃ z,z < fs.length∧Rch (adjF (callsF fs)) i z∧x ∈ ownF (fnAt fs z):=by
 have hm:=a9W hn;have h:=a5X hm;have hN:=(a4F hm).adj;have hl:=a8B fs;have hi':i < (callsF fs).length:=by omega
 unfold wrF;rw [(b7E hN h (x:=x) (manyN (callsF fs)) (zJ0 _)).2 i hi' (h.lt i hi')];constructor
 ·rintro ⟨z,z1,z2⟩;have hz:=z1.lt hN hi';obtain ⟨j,j1,j2,j3⟩:=(b4C _).1 z2;have s:=(h.cls j z qC0 hz).1 j2;exact ⟨j,j1,z1.trans s.2,j3⟩
 ·rintro ⟨z,z0,z1,z2⟩;exact ⟨z,z1,(b4C _).2 ⟨z,z0,rfl,z2⟩⟩
theorem b1C (k:Nat):RisB (wrF fs k):=by
 unfold wrF;exact b7D (fun i =>b7G i _) _ k
theorem a4W (fs:List S34):(sigsF fs).length = fs.length:=by unfold sigsF;simp
theorem a9D {i:Nat} (hi:i < fs.length):(sigsF fs)[i]? = some ⟨(fnAt fs i).f0,(((fnAt fs i).f1.length:Nat):Int),wrF fs (numN (callsF fs) i)⟩:=by
 unfold sigsF;rw [List.getElem?_map,List.getElem?_range hi];rfl
end
def off (s:List Bool):Nat:=(s.filter (fun b =>!b)).length
theorem b8G {s:List Bool} {v:Nat}:rdOf false s (v:Int) = true ↔ On s v:=by
 unfold rdOf On;rw [zK0,zE0];cases s[v]? with
 | none =>simp
 | some b =>simp
structure RSt (g:List (List Int)) (n:Nat) (s0 s:List Bool) (more:Bool):Prop where
 len:s.length = g.length
 self:On s n
 rch:∀ v,On s v→GRch g n v
 le:off s≤off s0
 same:more = false→s = s0
 less:more = true→off s < off s0
theorem RSt.step {g:List (List Int)} {n:Nat} {s0 s:List Bool} {more:Bool} (h:RSt g n s0 s more) {i m:Nat} (hi:On s i) (hm:(m:Int) ∈ g.getD i []) (hN:m < g.length):RSt g n s0 (s.set m true) (more || !(rdOf false s (m:Int))):=by
 by_cases hon:On s m
 ·have e:s.set m true = s:=by
   apply zE2;intro k;rw [List.getElem?_set]
   split
   ·rename_i ek;subst ek
    unfold On at hon;rw [hon];simp [(List.getElem?_eq_some_iff.1 hon).1]
   ·rfl
  rw [e,b8G.2 hon];simpa using h
 ·have hf:s[m]? = some false:=by
   have hl:m < s.length:=by rw [h.len];exact hN
   rw [zD0 hl];cases hb:s[m] with
   | false =>rfl
   | true =>exact absurd (by unfold On;rw [zD0 hl,hb]) hon
  have ho:=off_set s m hf;have hle:=h.le;have hr:rdOf false s (m:Int) = false:=by
   cases hb:rdOf false s (m:Int) with
   | false =>rfl
   | true =>exact absurd (b8G.1 hb) hon
  have h1:off (s.set m true) < off s0:=by unfold off at *;omega
  rw [hr];refine ⟨by rw [zV1];exact h.len,on_set h.self,fun v hv =>?_,zD2 h1,fun e =>by simp at e,fun _ =>h1⟩;rcases b8T hv with rfl | hv
  ·have:=GRch.step (h.rch i hi) hm;rwa [zK0] at this
  ·exact h.rch v hv
def Shut (g:List (List Int)) (s:List Bool) (i:Nat):Prop:=∀ v,v < i→On s v→∀ m ∈ g.getD v [],On s m.toNat
section
variable {g:List (List Int)} {n:Nat} {res:List Int} {x7:Int}
end
theorem b3Z (fs:List S34):(allOwn fs).length≤total fs:=by
 unfold allOwn total
 induction fs with
 | nil =>exact zJ0 _
 | cons f r ih =>
  have:=b8Q (flat f.f2);simp only [List.flatMap_cons,zO0];omega
theorem smG_of {fs:List S34} (hl:LowP fs) (hn:fs.length≤1000) (ht:total fs≤1048576):SmG fs:=by
 refine ⟨hn,fun f hf =>?_,zF0 (b3Z fs) qC0⟩;refine zF0 ?_ (zF0 ht qC0);obtain ⟨a,b,rfl⟩:=List.append_of_mem hf;unfold total;simp only [List.flatMap_append,List.flatMap_cons,zO0];omega
section
variable {fs:List S34}
theorem wrF_len (hs:SmG fs) {i:Nat} (hi:i < fs.length):(wrF fs (numN (callsF fs) i)).length≤(allOwn fs).length :=
 b1I _ _ (b1C _).nodup (fun x hx =>by
  obtain ⟨z,hz,_,hx⟩:=(b1D hs.n hi).1 hx
  exact b4J hz x hx)
end
attribute [local go_sem] Oper.semAt_some
theorem same_any (l:List S42) (A A':Option Addr) (c c':Nat) (w:World) (hC:Kd.C k42 w A l.length l) (hC':Kd.C k42 w A' l.length l) (hl:l.length≤1000000) (hb:∀ i:Nat,i < l.length→(a2X l (i:Int)).f2.length≤8000000000000) :
  Calls Tryz.prog 13 #[.slice A l.length c,.slice A' l.length c'] w fun e w' =>e = .returned (.bool true)∧Below w.heap.size w w':=by
 have K0:=zA0 hC;have K1:=zA0 hC';have HT:=zA0 (fun (i:Nat) (hi:i < l.length) =>texts14 _ (hb i hi));have HB:=zA0 (zG0 w.heap.size w);clear hC hC' hb;go_enter Tryz.func13,Tryz.ntmps13
 go_wp2;go_loopg [5] l.length (fun kq v5 w' =>∃ j:Nat,j + kq = l.length∧v5 = .int .i64 j∧Hid (Below w.heap.size w w'))
 case atStart =>exact ⟨0,zZ1 _,rfl,HB⟩
 case round =>
  obtain ⟨j,hj,rfl,HB⟩:=hrel;by_cases hlt:j < l.length
  ·obtain ⟨ad,V,d,e0,x0,x1,x2,m,n⟩:=b1A (Kd.a0H K0.out HB.out) (j:Int) (zH0 j) (zW1.2 hlt);obtain ⟨ad',V',d',e0',x0',x1',x2',m',n'⟩:=b1A (Kd.a0H K1.out HB.out) (j:Int) (zH0 j) (zW1.2 hlt);subst e0;subst e0';rw [zK0] at x0 x1 x2 x0' x1' x2';obtain ⟨kt,hkt⟩:=HT.out j hlt;have hw:=pz14 j qC0;have c_j:(0:Int)≤(j:Int):=zH0 j;have c_n:(j:Int) < (l.length:Int):=zW1.2 hlt;have N0:=zA0 n;have M0:=zA0 m;have N1:=zA0 n';have M1:=zA0 m';have HK:=zA0 (hkt kt (zJ0 _));obtain ⟨k1,rfl⟩:∃ k1,gk = k1 + 1:=Nat.exists_eq_add_one_of_ne_zero (by rintro rfl;exact absurd hj (Nat.ne_of_lt hlt));clear m n m' n' hkt;generalize a2X l (j:Int) = s at x0 x1 x2 x0' x1' x2' N0 M0 N1 M1 HK;go_wp2
   go_quiet (first | (go_at_call 10;(with_reducible refine (r14_Texts.calls kt _ _ s.f2 _ _ s.f2 true _ ?side1 ?side2 ?side3 ?side4 HK.out).mono ?_);(case side1 =>repeat (first | exact N0.out | (with_reducible refine Kd.a1N ?_ _) | (with_reducible refine Kd.a2B ?_)));(case side2 =>exact M0.out);(case side3 =>repeat (first | exact N1.out | (with_reducible refine Kd.a1N ?_ _) | (with_reducible refine Kd.a2B ?_)));(case side4 =>exact M1.out);rintro e w' ⟨rfl,⟨nd,rfl⟩⟩;(try first | exact ⟨rfl,_,World.drewN_drewN _ _ _⟩ | exact ⟨rfl,_,Eq.trans (World.drewN_drewN _ _ _) (congrArg (World.drewN _) (zY0 _ _ _))⟩)))
   go_wp2;go_roundg k1
   case measure =>exact zS0 _
   case rel =>exact ⟨j + 1,by rw [zY0,zJ1 1];exact hj,by first | rw [hw] | simp [hw],zA0 (a0L HB.out qQ0)⟩
  ·have hje:j = l.length:=Nat.le_antisymm (by rw [← hj];exact Nat.le_add_right _ _) (Nat.le_of_not_lt hlt);go_wp2;go_ret;exact qD3
theorem RS.far {B R bl K:Nat} {lw:Nat→Nat} {v:Value} {l:List Nat} {W:World} (h:RS B R bl K lw v l W) {q:Nat} (h1:R≠q) (h2:bl≠q) (h3:some q≠v.ownBlock) (i:Nat) (u:Value):RS B R bl K lw v l (W.setCell ⟨q,i,none⟩ u):=by
 refine ⟨a1M h.r h1 _,a1M h.lo h2 _,?_,h.mem,h.b,h.bl,h.len⟩;exact Kd.a3C (Kd.b2F (p:=⟨q,i,none⟩) (Kd.a5C (ok:=fun k =>some k = v.ownBlock) rfl h.st (fun k hk =>hk.symm)) (fun k hk e =>h3 (by rw [← hk];exact congrArg some (show q = k from e.symm))) _) (fun _ _ =>trivial)
structure PS (B R bl blf K:Nat) (lw:Nat→Nat) (v:Value) (l:List Nat) (left:Nat→Nat) (W1 Wr W:World):Prop where
 rs:RS R R bl K lw v l W
 hp:Hp (kys lw l) l.length
 lf:W.heap[blf]? = some (.cells (ints K left) 3 (0,0))
 fz:∀ k,k < R→k≠blf→W.heap[k]? = Wr.heap[k]?
 be:Below B W1 W
 sz:Wr.heap.size≤W.heap.size
 bb:B≤blf∧blf < R∧bl≠blf∧R < Wr.heap.size
structure NM (R bn K:Nat) (num:Nat→Nat) (v:Value) (W:World):Prop where
 nm:W.heap[bn]? = some (.cells (ints K num) 3 (0,0))
 nb:R < bn∧some bn≠v.ownBlock
def lfA (r:Nat→List Nat) (i:Nat):Nat→Nat:=fun x =>if x < i then (r x).length else 0
theorem lfA_zero (r:Nat→List Nat):lfA r 0 = fun _ =>0:=by funext x;simp [lfA]
theorem lfA_succ (r:Nat→List Nat) (i:Nat):Tarj.upd (lfA r i) i (r i).length = lfA r (i + 1):=by
 funext x
 simp only [lfA,Tarj.upd];by_cases e:x = i
 ·subst e;simp
 ·rw [if_neg e];by_cases h:x < i
  ·rw [if_pos h,if_pos qC0]
  ·rw [if_neg h,if_neg qC0]
def mixF (num cls:Nat→Nat) (i:Nat):Nat→Nat:=fun x =>if x < i then num (cls x) else cls x
theorem b9E (num cls:Nat→Nat):mixF num cls 0 = cls:=by funext x;simp [mixF]
theorem mixF_at (num cls:Nat→Nat) (i:Nat):mixF num cls i i = cls i:=by simp [mixF]
theorem b9F (num cls:Nat→Nat) (i:Nat):Tarj.upd (mixF num cls i) i (num (cls i)) = mixF num cls (i + 1):=by
 funext x
 simp only [mixF,Tarj.upd];by_cases e:x = i
 ·subst e;simp
 ·rw [if_neg e];by_cases h:x < i
  ·rw [if_pos h,if_pos qC0]
  ·rw [if_neg h,if_neg qC0]
theorem tAss (x:Nat) (w:World):(Instr.typeAssert (.iface 3 (.int .i64 (x:Int))) 20 3 false).run Tryz.prog w = .ok (.int .i64 (x:Int)) w:=by kernel_rfl
section
variable {B R bl blf bn K:Nat} {lw:Nat→Nat} {v v':Value} {l l':List Nat} {left num:Nat→Nat} {W1 Wr W W':World}
theorem PS.own (h:PS B R bl blf K lw v l left W1 Wr W):∀ k,v.ownBlock = some k→R≤k:=fun k hk =>a1O (Kd.a2C h.rs.st) k hk
theorem PS.hz (h:PS B R bl blf K lw v l left W1 Wr W):R≤W.heap.size:=zF0 (zD2 h.bb.2.2.2) h.sz
theorem PS.ht (h:PS B R bl blf K lw v l left W1 Wr W) (hr:RS R R bl K lw v' l' W') (hh:Hp (kys lw l') l'.length) (ht:Ht R R W v W' v'):PS B R bl blf K lw v' l' left W1 Wr W':=by
 have hb:=h.bb;refine ⟨hr,hh,?_,fun k hk hne =>?_,h.be.trans (ht.be.mono qC0),zF0 h.sz ht.be.size,h.bb⟩
 ·rw [ht.be.block _ hb.2.1];exact h.lf
 ·rw [ht.be.block _ hk];exact h.fz k hk hne
theorem PS.setLeft (h:PS B R bl blf K lw v l left W1 Wr W) (m x:Nat):PS B R bl blf K lw v l (Tarj.upd left m x) W1 Wr (W.setCell ⟨blf,m,none⟩ (.int .i64 (x:Nat))):=by
 obtain ⟨b1,b2,b3,b4⟩:=h.bb;refine ⟨h.rs.far (show R≠blf by omega) b3 (fun e =>by have:=h.own blf e.symm;omega) _ _,h.hp,a2A h.lf m _ (a5K _ _ _ _),fun k hk hne =>?_,h.be.setCell (p:=⟨blf,m,none⟩) b1 _,by rw [World.size_setCell];exact h.sz,h.bb⟩;rw [Below.heap_setCell _ _ _ _ hne];exact h.fz k hk hne
theorem NM.ht (h:NM R bn K num v W) (hlt:bn < W.heap.size) (ht:Ht R R W v W' v'):NM R bn K num v' W':=by
 refine ⟨by rw [ht.bk bn hlt (by have:=h.nb.1;omega) h.nb.2];exact h.nm,h.nb.1,fun e =>?_⟩;rcases ht.at_ with q | ⟨b,q,hb⟩
 ·rw [q] at e;exact h.nb.2 e
 ·rw [q] at e;injection e with e;omega
theorem NM.setLeft (h:NM R bn K num v W) (hlt:blf < R) (m:Nat) (u:Value):NM R bn K num v (W.setCell ⟨blf,m,none⟩ u) :=
 ⟨a1M h.nm (show bn≠blf by have:=h.nb.1;omega) _,h.nb⟩
theorem NM.set (h:NM R bn K num v W) (m x:Nat):NM R bn K (Tarj.upd num m x) v (W.setCell ⟨bn,m,none⟩ (.int .i64 (x:Nat))) :=
 ⟨a2A h.nm m _ (a5K _ _ _ _),h.nb⟩
theorem PS.setNum (h:PS B R bl blf K lw v l left W1 Wr W) (n:NM R bn K num v W) (m:Nat) (u:Value):PS B R bl blf K lw v l left W1 Wr (W.setCell ⟨bn,m,none⟩ u):=by
 obtain ⟨b1,b2,b3,b4⟩:=h.bb;have hn:=n.nb;have hl:=h.rs.bl;refine ⟨h.rs.far (show R≠bn by omega) (show bl≠bn by omega) hn.2 _ _,h.hp,a1M h.lf (show blf≠bn by omega) _,fun k hk hne =>?_,h.be.setCell (p:=⟨bn,m,none⟩) (by show B≤bn;omega) _,by rw [World.size_setCell];exact h.sz,h.bb⟩;rw [Below.heap_setCell _ _ _ _ (show k≠bn by omega)];exact h.fz k hk hne
theorem PS.drew (h:PS B R bl blf K lw v l left W1 Wr W) (n:Nat):PS B R bl blf K lw v l left W1 Wr (W.drewN n) :=
 ⟨h.rs.drew n,h.hp,h.lf,h.fz,h.be.trans (a0C (zG0 _ _) n),h.sz,h.bb⟩
theorem PS.below (h:PS B R bl blf K lw v l left W1 Wr W) (hb:Below W.heap.size W W'):PS B R bl blf K lw v l left W1 Wr W':=by
 have hz:=h.hz;have hbb:=h.bb;refine ⟨h.rs.below hb,h.hp,a0P h.lf hb,fun k hk hne =>by rw [hb.block k qC0];exact h.fz k hk hne,h.be.trans (hb.mono qC0),zF0 h.sz hb.size,h.bb⟩
theorem PS.lt (h:PS B R bl blf K lw v l left W1 Wr W):∀ k,v.ownBlock = some k→k < W.heap.size:=fun k hk =>by
 obtain ⟨cells,hc⟩:=a1S (Kd.a2C h.rs.st) k hk;exact a0X hc
theorem NM.start (h:PS B R bl blf K lw v l left W1 Wr W):NM R W.heap.size K (fun _ =>0) v (W.alloc (.cells (ints K (fun _ =>0)) 3)) :=
 ⟨World.alloc_heap_new _ _,zP1 h.bb.2.2.2 h.sz,fun e =>zX1 _ (h.lt _ e.symm)⟩
theorem PS.old (h:PS B R bl blf K lw v l left W1 Wr W) {A:Option Addr} {n:Nat} {L:List (List Int)} (hF:Kd.F kL Wr (fun q =>q < blf) A n L):Kd.F kL W (fun q =>q < blf) A n L :=
 Kd.a4L hF (fun k hk _ =>h.fz k (by have:=h.bb;omega) qC0)
theorem PS.start {w:World} (hlo:w.heap[bl]? = some (.cells (ints K lw) 3 (0,0))) (hlf:w.heap[blf]? = some (.cells (ints K left) 3 (0,0))) (hbe:Below B W1 w) (hB:B≤blf) (hne:bl≠blf) :
  PS B w.heap.size bl blf K lw (.slice none 0 0) [] left W1 (w.alloc (.cells #[.slice none 0 0,.slice (some ⟨bl,0,none⟩) K K] 88)) (w.alloc (.cells #[.slice none 0 0,.slice (some ⟨bl,0,none⟩) K K] 88)):=by
 have h1:=a0X hlo;have h2:=a0X hlf;refine ⟨⟨World.alloc_heap_new _ _,a0Q hlo _,Kd.b0E _ _ _ _ _,by simp,zJ0 _,h1,by simp⟩,fun i h0 hi =>absurd hi (zP2 _),a0Q hlf _,fun _ _ _ =>rfl,hbe.trans ((a0D (zG0 w.heap.size w) _).mono qC0),zJ0 _,hB,h2,hne,a0X (World.alloc_heap_new w _)⟩
end
theorem of_try (g:List (List Int)) (hgo:GOk g) (A:Option Addr) (c kM:Nat) (W:World) (hg:kL.C W A g.length g) (hlc:g.length≤c) (hmay:graph_May.f kM g = some true) :
  Calls Tryz.prog 29 #[.slice A g.length c] W fun e W' =>∃ bo M num,e = .returned (.slice (some ⟨bo,0,none⟩) g.length g.length)∧Nmb (adjF g) g.length M num∧W.heap.size≤bo∧W'.heap[bo]? = some (.cells (ints g.length num) 3 (0,0))∧Below W.heap.size W W':=by
 have hmayc:=fun w (h:kL.C w A g.length g) =>graph_May.calls kM A c g true w h hlc hmay
 have HMAY:=zA0 hmayc;have HG:=zA0 hg;have GO:=zA0 hgo;have hgl:=hgo.len;clear hmayc hg hgo hmay;go_enter Tryz.func29,Tryz.ntmps29
 go_upto_region 3 with (first
  | (go_at_call 28;(with_reducible refine (HMAY.out _ HG.out).mono ?_;rintro z w1 ⟨rfl,hdr⟩;have HDR:=zA0 hdr;clear hdr)))
 obtain ⟨nd,rfl⟩:=HDR.out.out;have hgF:Kd.F kL (W.drewN nd) (fun k =>k < (W.drewN nd).heap.size) A g.length g:=Kd.C_F (Kd.a3F 3 (Kd.a7L .i64)) (Kd.a0H HG.out (a0C (zG0 _ _) nd));have hb1:Below W.heap.size W (W.drewN nd):=a0C (zG0 _ _) nd;clear HDR;generalize W.drewN nd = W1 at hgF hb1 ⊢;have HGF:=zA0 hgF;have HB1:=zA0 hb1;have HMI:=zA0 (makeI g.length hgl);have HMB:=zA0 (makeB g.length hgl);clear hgF hb1;refine (wpIn_wide (n:=5)).1 ?_;refine wpIn_region_any mixedO ?_;refine a1X _ (fun _ =>undef) (fun done val Z =>S3 A g.length c W1 done val Z) rfl qF0 _ ?hz3 ?st3 ?en3
 case hz3 =>exact S3.start A g.length c W1
 case st3 =>
  intro i o done val a Z ho hdn hdep hag hS K2 hK2;have hm:i < 13:=by
   by_cases h:i < 13
   ·exact h
   ·rw [Array.getElem?_eq_none qV0] at ho;cases ho
  obtain rfl | rfl | rfl | rfl | rfl | rfl | rfl | rfl | rfl | rfl | rfl | rfl | rfl:i = 0∨i = 1∨i = 2∨i = 3∨i = 4∨i = 5∨i = 6∨i = 7∨i = 8∨i = 9∨i = 10∨i = 11∨i = 12:=by omega
  ·cases ho;have e0:a.eval (.tmp 0) = .slice A g.length c:=hag.keep 0 rfl;refine a0F (i:=0) (r:=.slice A g.length c) (w':=Z) rfl rfl (fun c h =>by cases h) rfl ?_ (hK2 _ _ (hS.do_ 0 rfl rfl));have ec:∀ v,a.eval (.const v) = v:=fun _ =>rfl
   generalize a.eval = ev at *;simp [execOp,go_sem,ec,e0]
  ·cases ho;have e0:a.eval (.tmp 0) = .slice A g.length c:=hag.keep 0 rfl;refine a0F (i:=1) (r:=.slice A g.length c) (w':=Z) rfl rfl (fun c h =>by cases h) rfl ?_ (hK2 _ _ (hS.do_ 1 rfl rfl));have ec:∀ v,a.eval (.const v) = v:=fun _ =>rfl
   generalize a.eval = ev at *;simp [execOp,go_sem,ec,e0]
  ·cases ho;have e28:=(hag.val_ (j:=1) (t:=28) rfl (hdep ⟨1,.data⟩ qE0 rfl)).trans (hS.v1 (hdep ⟨1,.data⟩ qE0 rfl));refine a0F (i:=2) (r:=.int .i64 (g.length:Nat)) (w':=Z) rfl rfl (fun c h =>by cases h) rfl ?_ (hK2 _ _ (hS.do_ 2 rfl rfl));have ec:∀ v,a.eval (.const v) = v:=fun _ =>rfl
   generalize a.eval = ev at *;simp [execOp,go_sem,ec,e28]
  ·cases ho;have e29:=(hag.val_ (j:=2) (t:=29) rfl (hdep ⟨2,.data⟩ qE0 rfl)).trans (hS.v2 (hdep ⟨2,.data⟩ qE0 rfl));have hmk:=HMI.out Z;refine a0F (i:=3) (r:=.slice (some ⟨Z.heap.size,0,none⟩) g.length g.length) (w':=Z.alloc (.cells (ints g.length (fun _ =>0)) 3)) rfl rfl (fun c h =>by cases h) rfl ?_ (hK2 _ _ (hS.do3 hdn));generalize a.eval = ev at *;simp [execOp,go_sem,e29,hmk]
  ·cases ho;have e0:a.eval (.tmp 0) = .slice A g.length c:=hag.keep 0 rfl;refine a0F (i:=4) (r:=.slice A g.length c) (w':=Z) rfl rfl (fun c h =>by cases h) rfl ?_ (hK2 _ _ (hS.do_ 4 rfl rfl));have ec:∀ v,a.eval (.const v) = v:=fun _ =>rfl
   generalize a.eval = ev at *;simp [execOp,go_sem,ec,e0]
  ·cases ho;have e31:=(hag.val_ (j:=4) (t:=31) rfl (hdep ⟨4,.data⟩ qE0 rfl)).trans (hS.v4 (hdep ⟨4,.data⟩ qE0 rfl));refine a0F (i:=5) (r:=.int .i64 (g.length:Nat)) (w':=Z) rfl rfl (fun c h =>by cases h) rfl ?_ (hK2 _ _ (hS.do_ 5 rfl rfl));have ec:∀ v,a.eval (.const v) = v:=fun _ =>rfl
   generalize a.eval = ev at *;simp [execOp,go_sem,ec,e31]
  ·cases ho;have e32:=(hag.val_ (j:=5) (t:=32) rfl (hdep ⟨5,.data⟩ qE0 rfl)).trans (hS.v5 (hdep ⟨5,.data⟩ qE0 rfl));have hmk:=HMI.out Z;refine a0F (i:=6) (r:=.slice (some ⟨Z.heap.size,0,none⟩) g.length g.length) (w':=Z.alloc (.cells (ints g.length (fun _ =>0)) 3)) rfl rfl (fun c h =>by cases h) rfl ?_ (hK2 _ _ (hS.do6 hdn));generalize a.eval = ev at *;simp [execOp,go_sem,e32,hmk]
  ·cases ho;have e0:a.eval (.tmp 0) = .slice A g.length c:=hag.keep 0 rfl;refine a0F (i:=7) (r:=.slice A g.length c) (w':=Z) rfl rfl (fun c h =>by cases h) rfl ?_ (hK2 _ _ (hS.do_ 7 rfl rfl));have ec:∀ v,a.eval (.const v) = v:=fun _ =>rfl
   generalize a.eval = ev at *;simp [execOp,go_sem,ec,e0]
  ·cases ho;have e34:=(hag.val_ (j:=7) (t:=34) rfl (hdep ⟨7,.data⟩ qE0 rfl)).trans (hS.v7 (hdep ⟨7,.data⟩ qE0 rfl));refine a0F (i:=8) (r:=.int .i64 (g.length:Nat)) (w':=Z) rfl rfl (fun c h =>by cases h) rfl ?_ (hK2 _ _ (hS.do_ 8 rfl rfl));have ec:∀ v,a.eval (.const v) = v:=fun _ =>rfl
   generalize a.eval = ev at *;simp [execOp,go_sem,ec,e34]
  ·cases ho;have e35:=(hag.val_ (j:=8) (t:=35) rfl (hdep ⟨8,.data⟩ qE0 rfl)).trans (hS.v8 (hdep ⟨8,.data⟩ qE0 rfl));have hmk:=HMB.out Z;refine a0F (i:=9) (r:=.slice (some ⟨Z.heap.size,0,none⟩) g.length g.length) (w':=Z.alloc (.cells (bls g.length (fun _ =>false)) 4)) rfl rfl (fun c h =>by cases h) rfl ?_ (hK2 _ _ (hS.do9 hdn));generalize a.eval = ev at *;simp [execOp,go_sem,e35,hmk]
  ·cases ho;have e27:=(hag.val_ (j:=0) (t:=27) rfl (hdep ⟨0,.data⟩ qE0 rfl)).trans (hS.v0 (hdep ⟨0,.data⟩ qE0 rfl));have e30:=hag.val_ (j:=3) (t:=30) rfl (hdep ⟨3,.data⟩ qE0 rfl);have e33:=hag.val_ (j:=6) (t:=33) rfl (hdep ⟨6,.data⟩ qE0 rfl);have e36:=hag.val_ (j:=9) (t:=36) rfl (hdep ⟨9,.data⟩ qE0 rfl);obtain ⟨⟨p3,hs3,_⟩,⟨p6,hs6,_⟩,⟨p9,hs9,_⟩⟩:=zG3 (hS.s3 (hdep ⟨3,.data⟩ qE0 rfl)) (zG3 (hS.s6 (hdep ⟨6,.data⟩ qE0 rfl)) (hS.s9 (hdep ⟨9,.data⟩ qE0 rfl)));rw [hs3] at e30;rw [hs6] at e33;rw [hs9] at e36;refine a0F (i:=10) (r:=.agg #[.slice A g.length c,.slice (some ⟨p3,0,none⟩) g.length g.length,.slice (some ⟨p6,0,none⟩) g.length g.length,.slice none 0 0,.slice (some ⟨p9,0,none⟩) g.length g.length,.int .i64 0,.slice none 0 0]) (w':=Z) rfl rfl (fun c h =>by cases h) rfl ?_ (hK2 _ _ (hS.do10 hdn hs3 hs6 hs9 (hdep ⟨3,.data⟩ qE0 rfl) (hdep ⟨6,.data⟩ qE0 rfl) (hdep ⟨9,.data⟩ qE0 rfl)));generalize a.eval = ev at *;simp [execOp,go_sem,e27,e30,e33,e36]
  ·cases ho;have e37:=hag.val_ (j:=10) (t:=37) rfl (hdep ⟨10,.data⟩ qE0 rfl);obtain ⟨p3,p6,p9,hs10⟩:=hS.s10 (hdep ⟨10,.data⟩ qE0 rfl);rw [hs10.1] at e37;unfold fin0 at e37;refine a0F (i:=11) (r:=.pointer (some ⟨Z.heap.size,0,none⟩)) (w':=Z.alloc (.cells #[.slice A g.length c,.slice (some ⟨p3,0,none⟩) g.length g.length,.slice (some ⟨p6,0,none⟩) g.length g.length,.slice none 0 0,.slice (some ⟨p9,0,none⟩) g.length g.length,.int .i64 0,.slice none 0 0] 83)) rfl rfl (fun c h =>by cases h) rfl ?_ (hK2 _ _ (hS.do11 hdn (hdep ⟨10,.data⟩ qE0 rfl) hs10.2.1 hs10.2.2.1 hs10.2.2.2));generalize a.eval = ev at *;simp [execOp,go_sem,e37]
  ·cases ho;have e38:=hag.val_ (j:=11) (t:=38) rfl (hdep ⟨11,.data⟩ qE0 rfl);obtain ⟨F,p3,p6,p9,hs11⟩:=hS.s11 (hdep ⟨11,.data⟩ qE0 rfl);rw [hs11.1] at e38;refine a0F (i:=12) (r:=.pointer (some ⟨F,0,none⟩)) (w':=Z) rfl rfl (fun c h =>by cases h) rfl ?_ (hK2 _ _ (hS.do12 hdn (hdep ⟨11,.data⟩ qE0 rfl) hs11.1));generalize a.eval = ev at *;simp [execOp,go_sem,e38]
 case en3 =>
  intro Z done val hdn hS;simp only [putTmps,dstOf,zQ1,zR0,zI1,Nat.reduceAdd,zS1,zF1,zL1,zU0,zL0,zV0,zW0];obtain ⟨F,b1,b2,b4,e12,fs0⟩:=hS.fs (hdn 12 qB0) HGF.out;rw [e12];have HOL:=zA0 (OL.start fs0 hS.be hS.be.size);obtain ⟨B,hB⟩:∃ B,W1.heap.size = B:=⟨_,rfl⟩;rw [hB] at HOL;have HBS:=zA0 hB;clear hS hdn fs0 e12 hB HMI HMB;go_wp2;go_loopg [41] g.length (fun kq v41 w' =>∃ (n:Nat) (s:St) (vs vk:Value),n + kq = g.length∧v41 = .int .i64 (n:Nat)∧Hid (OL B F b1 b2 b4 A c g W1 n s vs vk w'))
  case atStart =>exact ⟨0,_,_,_,by omega,rfl,HOL⟩
  case round =>
   obtain ⟨n,s,vs,vk,hn',rfl,HL⟩:=hrel;clear HOL;have ck:=HL.out.fs.cf;by_cases hn:n < g.length
   ·have hn0:(0:Int)≤(n:Int):=zH0 n;have cn:=HL.out.fs.cn hn;have hw:=pzS n qC0;obtain ⟨k1,rfl⟩:∃ k1,gk = k1 + 1:=⟨gk - 1,by omega⟩;by_cases hi0:s.index n = 0
    ·have hib:((s.index n:Int) == 0) = true:=by rw [hi0];rfl
     have hcall:=b7I g GO.out A c B F b1 b2 b4 g.length s [] n vs vk wr HL.out.fs HL.out.inv HL.out.ct HL.out.tt hi0 hn (fun _ h =>by cases h) (a6H _ _) HL.out.bz;have HCALL:=zA0 hcall;have HI0:=zA0 hi0;clear hcall hi0
     go_wp2_with (first
      | (go_at_call 49;(with_reducible refine HCALL.out.mono ?_;rintro z w2 ⟨rfl,⟨vs3,vk3,hfs3⟩,hbe3⟩;have HFS3:=zA0 hfs3;have HBE3:=zA0 hbe3;clear hfs3 hbe3 ck cn)))
     go_roundg k1
     case measure =>exact zS0 _
     case rel =>
      refine ⟨n + 1,_,vs3,vk3,by rw [zY0,zJ1 1];exact hn',by first | rw [hw] | simp [hw],zA0 ⟨?_,?_,?_,?_,HFS3.out,HL.out.be.trans HBE3.out,zF0 HL.out.bz HBE3.out.size⟩⟩
      ·rw [b0M,← HL.out.is,if_pos HI0.out]
      ·obtain ⟨e,p⟩:=b1H GO.out.adj g.length s [] n HL.out.inv HI0.out hn (fun _ h =>by cases h) (a6H _ _);exact p.inv
      ·rw [(a8Y GO.out.adj g.length n s hn HI0.out).1];exact HL.out.ct
      ·exact (a8Y GO.out.adj g.length n s hn HI0.out).2 HL.out.tt
    ·have hib:((s.index n:Int) == 0) = false:=by simpa using hi0
     have HI0:=zA0 hi0;clear hi0;go_wp2;clear ck cn;go_roundg k1
     case measure =>exact zS0 _
     case rel =>exact ⟨n + 1,s,vs,vk,by rw [zY0,zJ1 1];exact hn',by first | rw [hw] | simp [hw],zA0 ⟨by rw [b0M,← HL.out.is,if_neg HI0.out],HL.out.inv,HL.out.ct,HL.out.tt,HL.out.fs,HL.out.be,HL.out.bz⟩⟩
   ·have hne:n = g.length:=by omega
    subst hne;have hkl:=b5S HL.out.inv HL.out.tt HL.out.ct;obtain ⟨Ak,cK,ek⟩:=Kd.a3U HL.out.fs.kn;obtain ⟨K,hK⟩:∃ K,K = s.knots.length:=⟨_,rfl⟩;have hKm:(s.knots.map toI).length = K:=by rw [zU1,hK]
    rw [hKm] at ek;subst ek;obtain ⟨bof,hbof⟩:∃ b,wr.heap.size = b:=⟨_,rfl⟩;obtain ⟨W4,hW4⟩:∃ W4,wr.alloc (.cells (ints g.length (fun _ =>0)) 3) = W4:=⟨_,rfl⟩;obtain ⟨bl,hbl⟩:∃ b,W4.heap.size = b:=⟨_,rfl⟩;obtain ⟨W5,hW5⟩:∃ W5,W4.alloc (.cells (ints K (fun _ =>0)) 3) = W5:=⟨_,rfl⟩;have hmi1:=makeI g.length hgl wr;have hmi2:=makeI K qC0 W4;rw [hbof,hW4] at hmi1;rw [hbl,hW5] at hmi2;have hkc:K≤cK:=by
     obtain ⟨_,h2,_⟩:=Kd.a3Q HL.out.fs.kn;exact h2
    have hkF:Kd.F kL wr (fun k =>k < wr.heap.size) Ak s.knots.length (s.knots.map toI):=by
     have h1:=Kd.N_F (Kd.a4K HL.out.fs.kn);rw [hK] at h1;exact Kd.a1Y h1 (fun k hk =>hk.2)
    have hba:Below bof wr W5:=by
     rw [← hW5,← hW4,← hbof];exact a0D (a0D (zG0 _ _) _) _
    have hkm:KM B bof bof bl g.length K s.knots (.slice Ak K cK) (ofAt s.knots 0) (lowAt s.knots 0) W1 W5:=by
     have hlt:wr.heap.size < W4.heap.size:=by rw [← hW4];exact a0X (World.alloc_heap_new wr _)
     rw [hbof,hbl] at hlt;have hz:=HL.out.bz;rw [hbof] at hkF hz;refine ⟨Kd.a1F hkF (by rw [hbof];exact hba),?_,?_,HL.out.be.trans (hba.mono hz),⟨zJ0 _,zD2 hlt,hz⟩,Nat.ne_of_lt hlt⟩
     ·rw [← hW5,← hW4,← hbof];exact a0Q (World.alloc_heap_new wr _) _
     ·have:lowAt s.knots 0 = fun _ =>0:=by funext x;simp [lowAt]
      rw [this,← hW5,← hbl];exact World.alloc_heap_new _ _
    have HKM:=zA0 hkm;have HBA:=zA0 hba;have HKL:=zA0 hkl;have HKK:=zA0 hK;have hFb:F < bof:=by rw [← hbof];exact a0X HL.out.fs.f
    have HFB:=zA0 hFb;clear hkm hkF hkl hK hKm hba hFb;go_upto_region 11 with (fail)
    have fs4:=HL.out.fs.below (show Below wr.heap.size wr W4 from by rw [← hW4];exact a0D (zG0 wr.heap.size wr) _);clear ck;have ck:=fs4.cf;go_upto_region 12 with (fail)
    have fs5:=HL.out.fs.below (show Below wr.heap.size wr W5 from by rw [hbof];exact HBA.out);clear ck hmi1 hmi2 fs4;have ck:=fs5.cf;obtain ⟨Wa,hWa⟩:∃ W,W = wr:=⟨_,rfl⟩;have HWA:=zA0 hWa;rw [← hWa] at HBA;have HFS:=zA0 (show FS B F b1 b2 b4 A c g s vs (.slice Ak K cK) Wa from by rw [hWa];exact HL.out.fs);have HIS:=zA0 HL.out.is;have HIV:=zA0 HL.out.inv;have HBZ:=zA0 (show bof = Wa.heap.size from by rw [hWa];exact hbof.symm);clear fs5 hWa hbof hbl hW4 hW5 HL;go_wp2;clear ck;go_loopg [70] K (fun kq v70 w' =>∃ (k:Nat),k + kq = K∧v70 = .int .i64 (k:Nat)∧Hid (Below bof Wa w')∧Hid (KM B bof bof bl g.length K s.knots (.slice Ak K cK) (ofAt s.knots k) (lowAt s.knots k) W1 w'))
    case atStart =>exact ⟨0,by omega,rfl,HBA,HKM⟩
    case round =>
     obtain ⟨k,hk',rfl,HBW,HQ⟩:=hrel;clear HKM HBA;by_cases hk:k < K
     ·obtain ⟨ad,A0,c0,eA,hrow,hle,hF0⟩:=rowA HQ.out.kn k (by rw [← HKK.out];exact hk);have eA':Ak = some ad:=eA;subst eA';obtain ⟨l,hl⟩:∃ l,l = s.knots.getD k []:=⟨_,rfl⟩;have hml:(s.knots.map toI).getD k [] = toI l:=by
       rw [hl,zE0,zE0,List.getElem?_map,zD0 (by rw [← HKK.out];exact hk)];rfl
      rw [hml,a1E] at hrow hle hF0;have hlm:l ∈ s.knots:=by
       rw [hl,zE0,zD0 (by rw [← HKK.out];exact hk)];exact zD1 _
      have hlp:0 < l.length:=List.length_pos_iff.2 (HIV.out.kcl l hlm).1;have hln:∀ x,x ∈ l→x < g.length:=fun x hx =>HIV.out.vlt x ((HIV.out.kmem x).1 ⟨l,hlm,hx⟩).1
      have HLN:=zA0 hln;have HLL:=zA0 hl;have HF0:=zA0 hF0;obtain ⟨ad0,eA0,hz0⟩:=Kd.a3B (Kd.a4M HF0.out) 0 (Int.le_refl 0) qC0;subst eA0;obtain ⟨x0,hx0⟩:∃ x,x = l.getD 0 0:=⟨_,rfl⟩;have hz1:wr.cell? (ad0.add 0) = some (.int .i64 (x0:Nat)):=by
       rw [show (0:Nat) = (0:Int).toNat from rfl,hz0];unfold rd;rw [show (0:Int).toNat = 0 from rfl,a5S _ _ hlp,hx0,zE0,zD0 hlp];rfl
      have hz2:wr.cell? ad0 = some (.int .i64 (x0:Nat)):=by
       have e:ad0.add 0 = ad0:=by unfold Addr.add;simp
       rwa [e] at hz1
      have zl:=a0I HQ.out.lo k;have zlf:=a0K HQ.out.lo k;rw [a2D _ hk] at zl;have hw:=pzS k (by have:=HKL.out;have:=HKK.out;omega);have hk0:(0:Int)≤(k:Int):=zH0 k;obtain ⟨k1,rfl⟩:∃ k1,gk = k1 + 1:=⟨gk - 1,by omega⟩;have HX0:=zA0 hx0;clear hl hml hlm hln hF0 hz0 hx0;go_upto_region 16 with (fail)
      have hq1:=HQ.out.setLo k x0;have hlow:Tarj.upd (lowAt s.knots k) k x0 = lowAt s.knots (k + 1):=by rw [b6T,HX0.out,HLL.out]
      rw [hlow] at hq1;have hge:=HQ.out.ge;have hF6:Kd.F kI (wr.setCell ⟨bl,k,none⟩ (.int .i64 (x0:Nat))) (fun q =>q < bof) (some ad0) l.length (toI l):=Kd.a8G (p:=⟨bl,k,none⟩) HF0.out (fun q hq e =>by (have e':q = bl:=e);omega) _;have HF6:=zA0 hF6;have HBW6:=zA0 (HBW.out.setCell (p:=⟨bl,k,none⟩) hge.2.1 (.int .i64 (x0:Nat)));have HQ1:=zA0 (show KM B bof bof bl g.length K s.knots (.slice (some ad) K cK) (ofRow k (l.take 0) (ofAt s.knots k)) (lowAt s.knots (k + 1)) W1 _ from by rw [zO2];exact hq1);clear hq1 hlow hz1 hz2 zl zlf hrow hF6 hge HQ HF0 HBW;generalize wr.setCell ⟨bl,k,none⟩ (.int .i64 (x0:Nat)) = W6 at HQ1 HF6 HBW6 ⊢;go_wp2;go_loopg [83] l.length (fun kq v83 w' =>∃ (j:Nat),j + kq = l.length∧v83 = .int .i64 (j:Nat)∧Hid (Below bof Wa w')∧Hid (Kd.F kI w' (fun q =>q < bof) (some ad0) l.length (toI l))∧Hid (KM B bof bof bl g.length K s.knots (.slice (some ad) K cK) (ofRow k (l.take j) (ofAt s.knots k)) (lowAt s.knots (k + 1)) W1 w'))
      case atStart =>exact ⟨0,by omega,rfl,HBW6,HF6,HQ1⟩
      case round =>
       obtain ⟨j,hj,rfl,HBW7,HF7,HQ7⟩:=hrel;by_cases hlt:j < l.length
       ·obtain ⟨x,hx,hxn⟩:∃ x,x = l[j]∧x < g.length:=⟨_,rfl,HLN.out _ (zD1 hlt)⟩;obtain ⟨ad1,eA1,hz0⟩:=Kd.a3B (Kd.a4M HF7.out) (j:Int) (zH0 j) (zW1.2 hlt);cases eA1;rw [zK0] at hz0;have hz1:wr.cell? (ad0.add j) = some (.int .i64 (x:Nat)):=by
         rw [hz0];unfold rd;rw [zK0,a5S _ _ hlt,hx]
        have zo:=a0I HQ7.out.of x;have zof:=a0K HQ7.out.of x;rw [a2D _ hxn] at zo;have hx0:(0:Int)≤(x:Int):=zH0 x;have hlen:=(Kd.a4M HF7.out).2.1;have hwj:wrap64 ((j:Int) + 1) = ((j + 1:Nat):Int):=by simp only [wrap64];omega
        have hge:=HQ7.out.ge;have HF9:=zA0 (Kd.a8G (p:=⟨bof,x,none⟩) HF7.out (fun q hq e =>by (have e':q = bof:=e);omega) (.int .i64 (k:Nat)));have HBW9:=zA0 (HBW7.out.setCell (p:=⟨bof,x,none⟩) (zJ0 _) (.int .i64 (k:Nat)));have hq9:=HQ7.out.setOf x k;rw [hx,← b6R k l j hlt,← hx] at hq9;have HQ9:=zA0 hq9;obtain ⟨k2,rfl⟩:∃ k2,gk = k2 + 1:=⟨gk - 1,by omega⟩;have HJ:=zA0 hj;clear hz0 hq9 hge hx hlen HF7 HQ7 HBW7 HX0 HF6 HQ1 HBW6 hk' hj;go_wp2;go_roundg k2
        case measure =>exact zS0 _
        case rel =>exact ⟨j + 1,by rw [zY0,zJ1 1];exact HJ.out,by first | rw [hwj] | simp [hwj],HBW9,HF9,HQ9⟩
       ·have hje:j = l.length:=by omega
        have hq9:=HQ7.out;rw [hje,zN1,HLL.out,← b3G] at hq9;have HQ9:=zA0 hq9;clear hq9 hje;go_wp2;go_roundg k1
        case measure =>exact zS0 _
        case rel =>exact ⟨k + 1,by rw [zY0,zJ1 1];exact hk',by first | rw [hw] | simp [hw],HBW7,HQ9⟩
     ·have hke:K = k:=by omega
      subst hke;have hKN:K≤1000:=by have:=HKL.out;have:=HKK.out;omega
      have hfs8:=HFS.out.below (show Below Wa.heap.size Wa wr from by rw [← HBZ.out];exact HBW.out);have ck:=hfs8.cf;obtain ⟨cls,hcls⟩:∃ f,f = ofAt s.knots K:=⟨_,rfl⟩;obtain ⟨lw,hlw⟩:∃ f,f = lowAt s.knots K:=⟨_,rfl⟩;have hks:s.knots = knotsF (adjF g) g.length:=by rw [HIS.out];rfl
      have hKH:=kh_ok GO.out.adj hks HKK.out;have hq8:=HQ.out;rw [← hcls,← hlw] at hKH hq8;have hge8:=hq8.ge;have hg8:Kd.F kL wr (fun q =>q < wr.heap.size) A g.length g:=Kd.a1Y hfs8.gF (fun q hq =>by have:=a0X hq8.of;omega);have hfold:=b5W g GO.out A c bof K cls wr hg8 hq8.of hKN hKH.cl hlc;rw [show (fun i =>cmpN (rowsAt cls (adjF g) g.length i)) = rowK (adjF g) g.length cls from rfl] at hfold;have HFOLD:=zA0 hfold;have HKH:=zA0 hKH;have HQ8:=zA0 hq8;have hlwof:=zA0 (zG3 hq8.of hq8.lo);clear hfold hg8 hq8 hKH hks hfs8 hcls hlw HQ HIS HIV HFS hge8
      go_upto_region 23 with (first
       | (go_at_call 50;(with_reducible refine HFOLD.out.mono ?_;rintro z w8 ⟨bo,rfl,⟨v8,hfd8⟩,hbe8⟩;have HFD8:=zA0 hfd8;have HBE8:=zA0 hbe8;clear hfd8 hbe8)))
      clear ck;have hmay8:=b2T (K:=K) HKH.out.hN HKH.out.cl hKN;obtain ⟨kT,hkT⟩:=gturn_ev _ (a4F hmay8).sm;have hturn:=graph_Turn.calls kT (some ⟨bo,0,none⟩) K (rowsK (adjF g) g.length cls K) _ w8 (by rw [a4D];exact HFD8.out.reads hKN) (by rw [a4D];exact zJ0 _) (hkT kT (zJ0 _));rw [a4D,turnK_eq HKH.out.hN HKH.out.cl hKN] at hturn;have HTURN:=zA0 hturn;clear hturn hkT hmay8
      go_upto_region 24 with (first
       | (go_at_call 51;(with_reducible refine HTURN.out.mono ?_;rintro z w9 ⟨v9,rfl,hs9,hbe9⟩;have HS9:=zA0 hs9;have HBE9:=zA0 hbe9;clear hs9 hbe9)))
      have hs9l:((List.range K).map fun k =>toI (turnK (adjF g) g.length cls K k)).length = K:=by simp
      obtain ⟨At,cT,et⟩:=Kd.a3U (Kd.S_N HS9.out);rw [hs9l] at et;subst et;have hcT:K≤cT:=by
       obtain ⟨_,h2,_⟩:=Kd.a3Q (Kd.S_N HS9.out);exact h2
      have htF:Kd.F kL w9 (fun q =>q < w9.heap.size) At K ((List.range K).map fun k =>toI (turnK (adjF g) g.length cls K k)):=by
       have h1:=Kd.N_F (Kd.a4K (Kd.S_N HS9.out));exact Kd.a1Y h1 (fun q hq =>hq.2)
      obtain ⟨blf,hblf⟩:∃ b,w9.heap.size = b:=⟨_,rfl⟩;obtain ⟨w10,hw10⟩:∃ w,w9.alloc (.cells (ints K (fun _ =>0)) 3) = w:=⟨_,rfl⟩;have hmi3:=makeI K hKN w9;rw [hblf,hw10] at hmi3;have hlf10:w10.heap[blf]? = some (.cells (ints K (fun _ =>0)) 3 (0,0)):=by rw [← hw10,← hblf];exact World.alloc_heap_new _ _
      have hbe10:Below w9.heap.size w9 w10:=by rw [← hw10];exact a0D (zG0 _ _) _
      have HTF:=zA0 htF;have HBE10:=zA0 hbe10;have HLF10:=zA0 hlf10;have HBLF:=zA0 hblf;clear htF hbe10 hlf10 hblf hw10 hs9l;go_upto_region 25 with (fail)
      clear hmi3;go_upto_region 26 with (fail)
      obtain ⟨r,hr⟩:∃ r,r = rowK (adjF g) g.length cls:=⟨_,rfl⟩;obtain ⟨tn,htn⟩:∃ t,t = turnK (adjF g) g.length cls K:=⟨_,rfl⟩;have hkh:=HKH.out;have hfd:=HFD8.out;have htf:=HTF.out;rw [← hr,← htn] at hkh;rw [← hr] at hfd;rw [← htn] at htf;have hz1:=HBE8.out.size;have hz2:=HBE9.out.size;have hbfl:=a0X HQ8.out.of;have hbll:=a0X HQ8.out.lo;have hge:=HQ8.out.ge;have hbl:=HBLF.out;have hb810:Below w8.heap.size w8 w10:=HBE9.out.trans (HBE10.out.mono hz2);have hbr10:Below wr.heap.size wr w10:=HBE8.out.trans (hb810.mono hz1);have hps:=PS.start (a0P HQ8.out.lo hbr10) HLF10.out (HQ8.out.be.trans (hbr10.mono qC0)) (show B≤blf by omega) (show bl≠blf by omega);obtain ⟨R,hR⟩:∃ R,w10.heap.size = R:=⟨_,rfl⟩;obtain ⟨Wr,hWr⟩:∃ w,w10.alloc (.cells #[.slice none 0 0,.slice (some ⟨bl,0,none⟩) K K] 88) = w:=⟨_,rfl⟩;have hbrr:Below w10.heap.size w10 Wr:=by rw [← hWr];exact a0D (zG0 _ _) _
      rw [hR,hWr,← lfA_zero r] at hps;rw [hR,hWr];have hbo:Wr.heap[bo]? = some (.cells (vals K v8) 43 (0,0)):=a0P (a0P hfd.o hb810) hbrr;have hbol:bo < blf:=zP1 (a0X hfd.o) qC0;have hbofr:Wr.heap[bof]? = some (.cells (ints g.length cls) 3 (0,0)):=a0P (a0P HQ8.out.of hbr10) hbrr;have hv8:∀ i,i < K→∃ A c,v8 i = .slice A (r i).length c:=fun i hi =>by
       obtain ⟨A,c,e⟩:=Kd.a3D (hfd.r i hi);rw [a1E] at e;exact ⟨A,c,e⟩
      have htr:Kd.F kL Wr (fun q =>q < blf) At K ((List.range K).map fun k =>toI (tn k)):=by
       rw [hbl] at htf;exact Kd.a4L htf (fun k hk hlt =>(hbrr.block k (by have:=HBE10.out.size;omega)).trans (HBE10.out.block k hlt))
      have HKH2:=zA0 hkh;have HPS0:=zA0 hps;have HBO:=zA0 (zG3 hbo hbol);have HBOF:=zA0 (zG3 hbofr (show bof < blf by omega));have HV8:=zA0 hv8;have HTR:=zA0 htr;have HBB:=zA0 (show W.heap.size≤bof by have:=HBS.out;have:=HB1.out.size;omega);have HBG:=zA0 (show B≤bof by omega);have HBG2:=zA0 (show W.heap.size≤B by have:=HBS.out;have:=HB1.out.size;omega);clear hkh hfd htf hz1 hz2 hbfl hbll hge hbl hb810 hbr10 hps hbrr hbo hbol hbofr hv8 htr hr htn hR hWr HKH HFD8 HTF HBE8 HBE9 HBE10 HLF10 HBLF HS9 HTURN HFOLD HQ8 hlwof HBW;clear HKK HKL HWA HBZ HFB;go_wp2;go_loopg [111] K (fun kq v111 w' =>∃ (i:Nat) (v:Value) (l:List Nat),i + kq = K∧v111 = .int .i64 (i:Nat)∧Hid (PS B R bl blf K lw v l (lfA r i) W1 Wr w')∧Hid ((∀ k,k ∈ l ↔ k < i∧(r k).length = 0)∧l.Nodup))
      case atStart =>exact ⟨0,_,[],by omega,rfl,HPS0,zA0 ⟨fun k =>⟨fun h =>(by cases h),fun h =>absurd h.1 (zP2 _)⟩,List.nodup_nil⟩⟩
      case round =>
       obtain ⟨i,v,l,hi',rfl,HPS,HLM⟩:=hrel;clear HPS0;by_cases hi:i < K
       ·obtain ⟨A0,c0,e0⟩:=HV8.out i hi;have hzo:wr.heap[bo]? = some (.cells (vals K v8) 43 (0,0)):=(HPS.out.fz bo (by have:=HPS.out.bb;have:=HBO.out.2;omega) (by have:=HBO.out.2;omega)).trans HBO.out.1;have zr:wr.cell? ⟨bo,i,none⟩ = some (.slice A0 (r i).length c0):=by rw [← e0];exact (a0I hzo i).trans (a6I _ hi)
        have zl:wr.cell? ⟨blf,i,none⟩ = some (.int .i64 (lfA r i i:Nat)):=(a0I HPS.out.lf i).trans (a2D _ hi);have zlf:=a0K HPS.out.lf i;have hw:=pzS i qC0;have hi0:(0:Int)≤(i:Int):=zH0 i;obtain ⟨k1,rfl⟩:∃ k1,gk = k1 + 1:=⟨gk - 1,by omega⟩;clear hzo e0;go_upto_region 30 with (fail)
        have hps6:=HPS.out.setLeft i (r i).length;rw [lfA_succ] at hps6;have HPS6:=zA0 hps6;clear hps6 zr zl zlf;generalize wr.setCell ⟨blf,i,none⟩ (.int .i64 ((r i).length:Nat)) = W6 at HPS6 ⊢;have zl:W6.cell? ⟨blf,i,none⟩ = some (.int .i64 (lfA r (i + 1) i:Nat)):=(a0I HPS6.out.lf i).trans (a2D _ hi);rw [show lfA r (i + 1) i = (r i).length from by unfold lfA;rw [if_pos (zS0 i)]] at zl;by_cases h0:(r i).length = 0
        ·have hib:(((r i).length:Int) == 0) = true:=by rw [h0];rfl
         have hll:l.length≤i:=a8M HLM.out.2 (fun x hx =>((HLM.out.1 x).1 hx).1);have hpush:=b3M HPS6.out.rs HPS6.out.hp i hi qC0 HPS6.out.hz;have HPUSH:=zA0 hpush;have H0:=zA0 h0;clear hpush hll h0
         go_wp2_with (first
          | (go_at_call 52;(with_reducible refine HPUSH.out.mono ?_;rintro z w7 ⟨rfl,v7,l7,hrs7,hpm7,hhp7,hht7⟩;have HRS7:=zA0 hrs7;have HPM7:=zA0 hpm7;have HHP7:=zA0 hhp7;have HHT7:=zA0 hht7;clear hrs7 hpm7 hhp7 hht7 zl)))
         go_roundg k1
         case measure =>exact zS0 _
         case rel =>
          refine ⟨i + 1,v7,l7,by rw [zY0,zJ1 1];exact hi',by first | rw [hw] | simp [hw],zA0 (HPS6.out.ht HRS7.out HHP7.out HHT7.out),zA0 ⟨fun k =>?_,?_⟩⟩
          ·rw [HPM7.out.mem_iff,zT0,zA1,HLM.out.1 k];constructor
           ·rintro (q | rfl)
            ·exact ⟨by omega,q.2⟩
            ·exact ⟨zS0 _,H0.out⟩
           ·rintro ⟨q1,q2⟩;by_cases e:k = i
            ·exact .inr e
            ·exact .inl ⟨by omega,q2⟩
          ·refine HPM7.out.nodup_iff.2 (List.nodup_append.2 ⟨HLM.out.2,by simp,fun a ha b hb e =>?_⟩);rw [zA1.1 hb] at e;have:=((HLM.out.1 a).1 ha).1;omega
        ·have hib:(((r i).length:Int) == 0) = false:=by simpa using h0
         have H0:=zA0 h0;clear h0;go_wp2;go_roundg k1
         case measure =>exact zS0 _
         case rel =>
          refine ⟨i + 1,v,l,by rw [zY0,zJ1 1];exact hi',by first | rw [hw] | simp [hw],HPS6,zA0 ⟨fun k =>?_,HLM.out.2⟩⟩;rw [HLM.out.1 k];exact ⟨fun q =>⟨by omega,q.2⟩,fun q =>⟨by (by_cases e:k = i;· exact absurd (e ▸ q.2) H0.out);omega,q.2⟩⟩
       ·have hie:K = i:=by omega
        subst hie;have hki:=KI.start (l:=l) HKH2.out (left:=lfA r K) (fun k hk =>by unfold lfA;rw [if_pos hk]) HLM.out.1 HLM.out.2;have hnm:=NM.start HPS.out;have hps2:=HPS.out.below (a0D (zG0 wr.heap.size wr) (.cells (ints K (fun _ =>0)) 3));have hmi4:=makeI K hKN wr;obtain ⟨bn,hbn⟩:∃ b,wr.heap.size = b:=⟨_,rfl⟩;obtain ⟨w12,hw12⟩:∃ w,wr.alloc (.cells (ints K (fun _ =>0)) 3) = w:=⟨_,rfl⟩;rw [hbn,hw12] at hmi4 hnm;rw [hw12] at hps2;have HKI:=zA0 hki;have HNM:=zA0 hnm;have HPS2:=zA0 hps2;clear hki hnm hps2 hbn hw12 HPS HLM;go_upto_region 34 with (fail)
        clear hmi4;go_wp2;go_loopg [18] K (fun kq v18 w' =>∃ (n:Nat) (dn:Nat→Bool) (num left:Nat→Nat) (v:Value) (l:List Nat),n + kq = K∧v18 = .int .i64 (n:Nat)∧Hid (PS B R bl blf K lw v l left W1 Wr w')∧Hid (NM R bn K num v w')∧Hid (KI (adjF g) g.length K cls r n dn num left l))
        case atStart =>exact ⟨0,_,_,_,_,_,by omega,rfl,HPS2,HNM,HKI⟩
        case round =>
         obtain ⟨n,dn,num,left,v,l,hn2,rfl,HPS,HNM,HKI⟩:=hrel;clear HPS2;have hlen:=b4Q HPS.out.rs;have HLEN:=zA0 hlen;have hll:=a8M HKI.out.ln (fun x hx =>HKI.out.num_lt x hx);have hn0:(0:Int)≤(n:Int):=zH0 n;have hnK:=HKI.out.len;have hw:=pzS n qC0;clear hlen;by_cases hl0:0 < l.length
         ·have hgt:(l.length:Int) > 0:=by omega
          have hpop:=hpop_any HPS.out.rs HPS.out.hp hl0 HPS.out.hz;have HPOP:=zA0 hpop;have hta:=tAss;obtain ⟨k1,rfl⟩:∃ k1,gk = k1 + 1:=by
           cases l with
           | nil =>exact absurd hl0 (zX1 0)
           | cons y l' =>
            obtain ⟨q1,q2,_⟩:=(HKI.out.lm y).1 zN0;have h1:=HKI.out.ct;have h2:=nd_in (dn:=dn) q2 (List.nodup_range (n:=K)) (zX0.2 q1);exact ⟨gk - 1,by omega⟩
          clear hpop hl0 hll
          go_upto_region 38 with (first
           | (go_at_call 53;(with_reducible refine HLEN.out.mono ?_;rintro z w2 ⟨rfl,hw2⟩;obtain rfl:wr = w2:=hw2.symm))
           | (go_at_call 54;(with_reducible refine HPOP.out.mono ?_;rintro z w2 ⟨x,v2,l2,rfl,hrs2,hpm2,hhp2,hht2,hmin2⟩;have HRS2:=zA0 hrs2;have HPM2:=zA0 hpm2;have HHP2:=zA0 hhp2;have HHT2:=zA0 hht2;have HMIN2:=zA0 hmin2;clear hrs2 hpm2 hhp2 hht2 hmin2)))
          clear hta hgt;have hxl:x ∈ l:=HPM2.out.mem_iff.1 zN0;have hxK:=HKI.out.num_lt x hxl;have hps2:=HPS.out.ht HRS2.out HHP2.out HHT2.out;have hnm2:=HNM.out.ht (a0X HNM.out.nm) HHT2.out;have hx0:(0:Int)≤(x:Int):=zH0 x;have zn:w2.cell? ⟨bn,x,none⟩ = some (.int .i64 (num x:Nat)):=(a0I hnm2.nm x).trans (a2D _ hxK);have znf:=a0K hnm2.nm x;have HPS3:=zA0 (hps2.setNum hnm2 x (.int .i64 (n:Nat)));have HNM3:=zA0 (hnm2.set x n);have HXL:=zA0 hxl;clear hps2 hnm2 HRS2 HHP2 HHT2 HPS HNM hxl;go_upto_region 39 with (fail)
          clear zn znf;generalize w2.setCell ⟨bn,x,none⟩ (.int .i64 (n:Nat)) = W3 at HPS3 HNM3 ⊢;obtain ⟨ad,A0,c0,eA,hrow,hle,hF0⟩:=rowA (HPS3.out.old HTR.out) x hxK;subst eA;obtain ⟨t,ht⟩:∃ t,t = tn x:=⟨_,rfl⟩;have hgt3:((List.range K).map fun k =>toI (tn k)).getD x [] = toI t:=by
           rw [ht,zE0,List.getElem?_map,List.getElem?_range hxK];rfl
          rw [hgt3,a1E] at hrow hle hF0;have HF0:=zA0 hF0;have HT:=zA0 ht;have htnd:t.Nodup:=by rw [ht];exact HKH2.out.tnn x hxK
          have HTND:=zA0 htnd;have htK:∀ m,m ∈ t→m < K∧dn m = false∧1≤left m∧m≠x∧m ∉ l:=fun m hm =>HKI.out.told HKH2.out HXL.out (by rw [← ht];exact hm)
          have HTK:=zA0 htK;have hl2n:l2.Nodup:=(List.nodup_cons.1 (HPM2.out.nodup_iff.2 HKI.out.ln)).2;have hl2l:∀ m,m ∈ t→m ∉ l2:=fun m hm q =>(htK m hm).2.2.2.2 (HPM2.out.mem_iff.1 (zP0 _ q))
          have HL2L:=zA0 hl2l;have hlb:∀ m,m < K→left m≤1000:=fun m hm =>by
           rw [HKI.out.lf m hm];refine zF0 (zX3 _ _) (zF0 (a8M (K:=K) (HKH2.out.rn m hm) (fun y hy =>?_)) hKN);obtain ⟨_,q,_,_,u,hu,e⟩:=(HKH2.out.rm m hm y).1 hy;exact e ▸ HKH2.out.cl u (HKH2.out.hN q (by assumption) u hu)
          have HLB:=zA0 hlb;have HKJ0:=zA0 (KJ.start t left hl2n);clear hgt3 hF0 ht htnd htK hl2n hl2l hlb;go_wp2;go_loopg [153] t.length (fun kq v153 w' =>∃ (j:Nat) (left1:Nat→Nat) (v1:Value) (l1:List Nat),j + kq = t.length∧v153 = .int .i64 (j:Nat)∧Hid (Kd.F kI w' (fun q =>q < blf) A0 t.length (toI t))∧Hid (PS B R bl blf K lw v1 l1 left1 W1 Wr w')∧Hid (NM R bn K (Tarj.upd num x n) v1 w')∧Hid (KJ t left l2 j left1 l1))
          case atStart =>exact ⟨0,_,_,_,by omega,rfl,HF0,HPS3,HNM3,HKJ0⟩
          case round =>
           obtain ⟨j,left1,v1,l1,hj,rfl,HF,HPS,HNM,HKJ⟩:=hrel;clear HPS3 HNM3 HKJ0 HF0;by_cases hlt:j < t.length
           ·obtain ⟨m,hm⟩:∃ m,m = t[j]:=⟨_,rfl⟩;have hmt:m ∈ t:=by rw [hm];exact zD1 hlt
            obtain ⟨hmK,hmd,hml,hmx,_⟩:=HTK.out m hmt;obtain ⟨ad1,eA1,hz0⟩:=Kd.a3B (Kd.a4M HF.out) (j:Int) (zH0 j) (zW1.2 hlt);subst eA1;rw [zK0] at hz0;have hz1:wr.cell? (ad1.add j) = some (.int .i64 (m:Nat)):=by
             rw [hz0];unfold rd;rw [zK0,a5S _ _ hlt,hm]
            have hval:left1 m = left m:=by rw [hm];exact HKJ.out.val HTND.out hlt
            have hl1:1≤left1 m:=by rw [hval];exact hml
            have hlm:left1 m≤1000:=by rw [hval];exact HLB.out m hmK
            have zl:wr.cell? ⟨blf,m,none⟩ = some (.int .i64 (left1 m:Nat)):=(a0I HPS.out.lf m).trans (a2D _ hmK);have zlf:=a0K HPS.out.lf m;have hm0:(0:Int)≤(m:Int):=zH0 m;have hlen:=(Kd.a4M HF.out).2.1;have hwj:wrap64 ((j:Int) + 1) = ((j + 1:Nat):Int):=by simp only [wrap64];omega
            have hws:wrap64 ((left1 m:Int) - 1) = ((left1 m - 1:Nat):Int):=by simp only [wrap64];omega
            have hml2:m ∉ l2:=HL2L.out m hmt;have HM:=zA0 hm;have HML2:=zA0 hml2;have HJ:=zA0 hj;obtain ⟨k2,rfl⟩:∃ k2,gk = k2 + 1:=⟨gk - 1,by omega⟩;clear hz0 hval hl1 hlm hlen hml hmd hmx hml2 hmt hm hj;go_upto_region 43 with (fail)
            have HPS5:=zA0 (HPS.out.setLeft m (left1 m - 1));have HNM5:=zA0 (HNM.out.setLeft HPS.out.bb.2.1 m (.int .i64 ((left1 m - 1:Nat))));have HF5:=zA0 (Kd.a8G (p:=⟨blf,m,none⟩) HF.out (fun q hq e =>by (have e':q = blf:=e);omega) (.int .i64 ((left1 m - 1:Nat))));clear zl zlf hws hz1;generalize wr.setCell ⟨blf,m,none⟩ (.int .i64 ((left1 m - 1:Nat))) = W5 at HPS5 HNM5 HF5 ⊢;have zl:W5.cell? ⟨blf,m,none⟩ = some (.int .i64 ((left1 m - 1:Nat):Int)):=by
             have:=(a0I HPS5.out.lf m).trans (a2D _ hmK);rw [Tarj.a2S] at this;exact this
            by_cases h0:left1 m - 1 = 0
            ·have hib:(((left1 m - 1:Nat):Int) == 0) = true:=by rw [h0];rfl
             have hml1:m ∉ l1:=by rw [HM.out];exact HKJ.out.new HTND.out hlt (by rw [← HM.out];exact HML2.out)
             have hcn:(m :: l1).length≤K:=a8M (List.nodup_cons.2 ⟨hml1,HKJ.out.ln⟩) (fun y hy =>(zQ0.1 hy).elim (fun e =>e ▸ hmK) (fun q =>HPS.out.rs.mem y q));rw [zR0] at hcn;have hpush:=b3M HPS5.out.rs HPS5.out.hp m hmK qC0 HPS5.out.hz;have HPUSH:=zA0 hpush;have H0:=zA0 h0;clear hpush hcn hml1 h0
             go_wp2_with (first
              | (go_at_call 52;(with_reducible refine HPUSH.out.mono ?_;rintro z w7 ⟨rfl,v7,l7,hrs7,hpm7,hhp7,hht7⟩;have HRS7:=zA0 hrs7;have HPM7:=zA0 hpm7;have HHP7:=zA0 hhp7;have HHT7:=zA0 hht7;clear hrs7 hpm7 hhp7 hht7 zl)))
             go_roundg k2
             case measure =>exact zS0 _
             case rel =>
              refine ⟨j + 1,Tarj.upd left1 m (left1 m - 1),v7,l7,by rw [zY0,zJ1 1];exact HJ.out,by first | rw [hwj] | simp [hwj],zA0 (Kd.a4L HF5.out (fun q hq hlt2 =>HHT7.out.be.block q (by have:=HPS5.out.bb;omega))),zA0 (HPS5.out.ht HRS7.out HHP7.out HHT7.out),zA0 (HNM5.out.ht (a0X HNM5.out.nm) HHT7.out),zA0 ?_⟩;have hm:=HM.out;have:=HKJ.out.step HTND.out hlt (by rw [← hm];exact HML2.out) (l1:=l7) (by rw [← hm,if_pos H0.out];exact HPM7.out);rw [← hm] at this;exact this
            ·have hib:(((left1 m - 1:Nat):Int) == 0) = false:=by simpa using h0
             have H0:=zA0 h0;clear h0;go_wp2;go_roundg k2
             case measure =>exact zS0 _
             case rel =>
              refine ⟨j + 1,Tarj.upd left1 m (left1 m - 1),v1,l1,by rw [zY0,zJ1 1];exact HJ.out,by first | rw [hwj] | simp [hwj],HF5,HPS5,HNM5,zA0 ?_⟩;have hm:=HM.out;have:=HKJ.out.step HTND.out hlt (by rw [← hm];exact HML2.out) (l1:=l1) (by rw [← hm,if_neg H0.out]);rw [← hm] at this;exact this
           ·have hje:t.length = j:=by omega
            have hKI2:=HKI.out.next HKH2.out HPM2.out HMIN2.out (left1:=left1) (l1:=l1) (by rw [← HT.out,hje];exact HKJ.out);have HKI2:=zA0 hKI2;clear hKI2 hje;go_wp2;go_roundg k1
            case measure =>exact zS0 _
            case rel =>exact ⟨n + 1,_,_,left1,v1,l1,by rw [zY0,zJ1 1];exact hn2,by first | rw [hw] | simp [hw],HPS,HNM,HKI2⟩
         ·have hln:l = []:=List.eq_nil_of_length_eq_zero qC0;subst hln;have hNmb:=HKI.out.done HKH2.out;have HNMB:=zA0 hNmb;have hgt:¬ (((([]:List Nat).length:Nat):Int) > 0):=by simp
          have hbb:=HPS.out.bb;have hofr:=(HPS.out.fz bof (by have:=HBOF.out.2;omega) (by have:=HBOF.out.2;omega)).trans HBOF.out.1;rw [← b9E num cls] at hofr;have HFIN:=zA0 (show wr.heap[bof]? = some (.cells (ints g.length (mixF num cls 0)) 3 (0,0))∧wr.heap[bn]? = some (.cells (ints K num) 3 (0,0))∧Below B W1 wr from ⟨hofr,HNM.out.nm,HPS.out.be⟩);have HNE:=zA0 (show bof≠bn∧B≤bof from ⟨by have:=HBOF.out.2;have:=HNM.out.nb.1;omega,HBG.out⟩);clear hNmb hl0 hll hbb hofr HPS HNM HKI
          go_upto_region 46 with (first
           | (go_at_call 53;(with_reducible refine HLEN.out.mono ?_;rintro z w2 ⟨rfl,hw2⟩;obtain rfl:wr = w2:=hw2.symm)))
          go_wp2;go_loopg [176] g.length (fun kq v176 w' =>∃ (i:Nat),i + kq = g.length∧v176 = .int .i64 (i:Nat)∧Hid (w'.heap[bof]? = some (.cells (ints g.length (mixF num cls i)) 3 (0,0))∧w'.heap[bn]? = some (.cells (ints K num) 3 (0,0))∧Below B W1 w'))
          case atStart =>exact ⟨0,by omega,rfl,HFIN⟩
          case round =>
           obtain ⟨i,hi',rfl,HI⟩:=hrel;clear HFIN;by_cases hi:i < g.length
           ·have hcK:=HKH2.out.cl i hi;have zo:wr.cell? ⟨bof,i,none⟩ = some (.int .i64 (cls i:Nat)):=by
             have:=(a0I HI.out.1 i).trans (a2D _ hi);rw [mixF_at] at this;exact this
            have zof:=a0K HI.out.1 i;have zn:wr.cell? ⟨bn,cls i,none⟩ = some (.int .i64 (num (cls i):Nat)):=(a0I HI.out.2.1 (cls i)).trans (a2D _ hcK);have hi0:(0:Int)≤(i:Int):=zH0 i;have hc0:(0:Int)≤(cls i:Int):=zH0 (cls i);have hwi:=pzS i qC0;obtain ⟨k1,rfl⟩:∃ k1,gk = k1 + 1:=⟨gk - 1,by omega⟩
            have HI2:=zA0 (show (wr.setCell ⟨bof,i,none⟩ (.int .i64 (num (cls i):Nat))).heap[bof]? = some (.cells (ints g.length (mixF num cls (i + 1))) 3 (0,0))∧(wr.setCell ⟨bof,i,none⟩ (.int .i64 (num (cls i):Nat))).heap[bn]? = some (.cells (ints K num) 3 (0,0))∧Below B W1 (wr.setCell ⟨bof,i,none⟩ (.int .i64 (num (cls i):Nat))) from
             ⟨by rw [← b9F];exact a2A HI.out.1 i _ (a5K _ _ _ _),a1M HI.out.2.1 (Ne.symm HNE.out.1) _,HI.out.2.2.setCell (p:=⟨bof,i,none⟩) HNE.out.2 _⟩)
            clear HI;go_wp2;go_roundg k1
            case measure =>exact zS0 _
            case rel =>exact ⟨i + 1,by rw [zY0,zJ1 1];exact hi',by first | rw [hwi] | simp [hwi],HI2⟩
           ·have hie:g.length = i:=by omega
            go_wp2;go_ret;refine ⟨bof,n,_,rfl,HNMB.out,HBB.out,?_,HB1.out.trans (HI.out.2.2.mono HBG2.out)⟩;rw [HI.out.1]
            congr 2
            rw [← hie];unfold ints
            congr 1
            apply List.map_congr_left;intro q hq;rw [zX0] at hq;unfold mixF;rw [if_pos hq]
attribute [local go_sem] Oper.semAt_some a5J a5I a6Y a6X
theorem toL_ints (N:Nat) (num:Nat→Nat):(ints N num).toList = (toL N num).map (Value.int .i64):=by
 unfold ints toL;rw [List.map_map];rfl
theorem R_ints {W:World} {b base N:Nat} {num:Nat→Nat} (h:W.heap[b]? = some (.cells (ints N num) 3 (0,0))) (hb:base≤b) (hN:N≤1000):kI.R 3 W base (fun _ =>True) (.slice (some ⟨b,0,none⟩) N N) (toL N num):=by
 refine Kd.a2W ?_ (fun _ _ =>trivial);have hs:(ints N num).size = N:=by unfold ints;simp
 refine ⟨by show ((toL N num).map (Value.int .i64)).length = (toL N num).length * 1;simp,.inr ⟨b,N,ints N num,by rw [a6T],hb,h,by rw [a6T];exact zJ0 _,zF0 hN qB0,by rw [hs];omega,?_⟩⟩;rw [a6T,toL_ints,zU3 (by simp [a6T])]
 rfl
theorem FD.own {B bo M:Nat} {v:Nat→Value} {r:Nat→List Nat} {W:World} (h:FD B bo M v r W) (hM:M≤1000):Kd.S kL 43 W B (fun _ =>True) (.slice (some ⟨bo,0,none⟩) M M) ((List.range M).map fun i =>toI (r i)):=by
 classical
 let f:Nat→Nat:=fun k =>if q:∃ i,i < M∧(v i).ownBlock = some k then Classical.choose q else 0
 have hf:∀ i,i < M→∀ k,(v i).ownBlock = some k→f k = i:=fun i hi k hk =>by
  have q:∃ i,i < M∧(v i).ownBlock = some k:=⟨i,hi,hk⟩;have e:f k = Classical.choose q:=dif_pos q;obtain ⟨h1,h2⟩:=Classical.choose_spec q;rw [e];apply Classical.byContradiction;intro hne;exact h.d _ i h1 hi hne k h2 hk
 have hs:(vals M v).size = M:=by unfold vals;simp
 refine ⟨f,fun _ _ =>trivial,(List.range M).map v,⟨by show ((List.range M).map v).length = (((List.range M).map fun i =>toI (r i)).zipIdx).length * 1;simp,.inr ⟨bo,M,vals M v,by simp,h.b,h.o,by simp,zF0 hM qB0,by rw [hs];show M = M * 1;omega,?_⟩⟩,⟨by show ((List.range M).map v).length = (((List.range M).map fun i =>toI (r i)).zipIdx).length * 1;simp,fun j p hp =>?_⟩⟩
 ·unfold vals;show ((List.range M).map v).take _ = _;rw [zU3 (by simp;show M≤M * 1;omega)]
 ·rw [List.getElem?_zipIdx] at hp;obtain ⟨x,hx,rfl⟩:=zC1.1 hp;obtain ⟨hj,rfl⟩:=List.getElem?_eq_some_iff.1 hx;have hj':j < M:=by simpa using hj
  simp only [List.getElem_map,List.getElem_range];refine ⟨v j,?_,?_⟩
  ·show (((List.range M).map v).drop (j * 1)).take 1 = [v j];rw [zX2,zS2 (by simpa using hj'),zV2,zO2];simp
  ·refine Kd.a5C rfl (h.r j hj') (fun k hk =>⟨⟨trivial,fun e =>?_⟩,by rw [hf j hj' k hk];simp⟩);have:k = bo:=by simpa [Value.ownBlock] using e
   exact (h.r j hj').1 k hk this
theorem of_no (k:Nat) (g:List (List Int)) (A:Option Addr) (c:Nat) (w:World) (hc:g.length≤c) (hC:kL.C w A g.length g) (hm:graph_May.f k g = some false) :
  Calls Tryz.prog 29 #[.slice A g.length c] w fun e w' =>e = .returned (.slice none 0 0)∧Below w.heap.size w w':=by
 have HM:=zA0 (graph_May.calls k A c g false w hC hc hm);clear hC;go_enter Tryz.func29,Tryz.ntmps29
 go_wp2_with (first
  | (go_at_call 28;(with_reducible refine HM.out.mono ?_;rintro z w1 ⟨rfl,hdr⟩;have HB:=zA0 hdr.below;clear hdr)))
 go_ret;exact qD3
theorem b1U (g:List (List Int)) (hm:mayB g = true) (A:Option Addr) (c:Nat) (W:World) (hC:kL.C W A g.length g) (hc:g.length≤c) :
  Calls Tryz.prog 29 #[.slice A g.length c] W fun e W' =>∃ bo,e = .returned (.slice (some ⟨bo,0,none⟩) g.length g.length)∧W.heap.size≤bo∧W'.heap[bo]? = some (.cells (ints g.length (numN g)) 3 (0,0))∧Below W.heap.size W W':=by
 obtain ⟨kM,hk⟩:=a9O g (a4F hm).sm;rw [hm] at hk;refine (of_try g (a4F hm) A c kM W hC hc (hk kM (zJ0 _))).mono ?_;rintro e W' ⟨bo,M,num,rfl,h1,h2,h3,h4⟩;refine ⟨bo,rfl,h2,?_,h4⟩;rw [h3];have:=(of_eq hm h1).2.1
 congr 2
 unfold ints
 congr 1
 apply List.map_congr_left;intro x hx;rw [this x (zX0.1 hx)]
theorem of_any (g:List (List Int)) (hs:Sm g) (A:Option Addr) (c:Nat) (W:World) (hC:kL.C W A g.length g) (hc:g.length≤c) :
  Calls Tryz.prog 29 #[.slice A g.length c] W fun e W' =>∃ v,e = .returned v∧kI.R 3 W' W.heap.size (fun _ =>True) v (ofF g)∧Below W.heap.size W W':=by
 by_cases hm:mayB g = true
 ·refine (b1U g hm A c W hC hc).mono ?_;rintro e W' ⟨bo,rfl,h2,h3,h4⟩;refine ⟨_,rfl,?_,h4⟩;unfold ofF;rw [if_pos hm];exact R_ints h3 h2 (a2Y hm).1
 ·obtain ⟨kM,hk⟩:=a9O g hs;rw [Bool.eq_false_iff.2 hm] at hk;refine (of_no kM g A c W hc hC (hk kM (zJ0 _))).mono ?_;rintro e W' ⟨rfl,h⟩;refine ⟨_,rfl,?_,h⟩;unfold ofF;rw [if_neg hm];exact Kd.b0E _ _ _ _ _
theorem b5Q (g:List (List Int)) (hs:Sm g) (A:Option Addr) (c:Nat) (W:World) (hC:kL.C W A g.length g) (hc:g.length≤c) :
  Calls Tryz.prog 30 #[.slice A g.length c] W fun e W' =>e = .returned (.int .i64 (manyF g))∧Below W.heap.size W W':=by
 have HOF:=zA0 (of_any g hs A c W hC hc);obtain ⟨N,num,hN,hb,hL,hM⟩:∃ N num,N≤1000∧(∀ x,x < N→num x≤1000)∧ofF g = toL N num∧manyF g = ((pmx num N:Nat):Int):=by
  by_cases hm:mayB g = true
  ·have h:=a5X hm;have hml:=b4O hm;have hN:=(a2Y hm).1;refine ⟨g.length,numN g,hN,fun x hx =>by have:=h.lt x hx;omega,by unfold ofF;rw [if_pos hm],?_⟩;rw [pmx_all h];rfl
  ·refine ⟨0,fun _ =>0,by omega,fun x hx =>absurd hx (zP2 _),by unfold ofF;rw [if_neg hm];rfl,?_⟩;unfold manyF;rw [b9I hm];rfl
 rw [hL] at HOF;rw [hM];have HBD:=zA0 hb;clear hL hM hC hb;go_enter Tryz.func30,Tryz.ntmps30
 go_upto_region 2 with (fail)
 go_wp2_with (first
  | (go_at_call 29;(with_reducible refine HOF.out.mono ?_;rintro z w1 ⟨v1,rfl,hr1,hb1⟩;obtain ⟨A1,c1,e1⟩:=Kd.a3D hr1;rw [a6T] at e1;subst e1;have HR1:=zA0 hr1;have HB1:=zA0 hb1;clear hr1 hb1)))
 go_loopg [3,9] N (fun kq v3 v9 w' =>∃ (i:Nat),i + kq = N∧v9 = .int .i64 (i:Nat)∧v3 = .int .i64 (pmx num i:Nat)∧w' = w1)
 case atStart =>exact ⟨0,by omega,rfl,rfl,rfl⟩
 case round =>
  obtain ⟨i,hi',rfl,rfl,rfl⟩:=hrel;by_cases hi:i < N
  ·obtain ⟨A2,c2,e2,_,hC2⟩:=Kd.a2R HR1.out;rw [a6T] at e2;cases e2;obtain ⟨ad,eA,hz⟩:=Kd.a3B hC2 (i:Int) (zH0 i) (by rw [a6T];exact zW1.2 hi);subst eA;rw [zK0,toL_rd hi] at hz;have hi0:(0:Int)≤(i:Int):=zH0 i;have hn:=HBD.out i hi;have hw:=pzS i qC0;have hwn:=pzS (num i) hn;obtain ⟨k1,rfl⟩:∃ k1,gk = k1 + 1:=⟨gk - 1,by omega⟩;clear hC2 hn;by_cases hq:pmx num i < num i + 1
   ·have hq':((pmx num i:Nat):Int) < ((num i:Nat):Int) + 1:=by omega
    have hp:pmx num (i + 1) = num i + 1:=by rw [show pmx num (i + 1) = max (pmx num i) (num i + 1) from rfl];omega
    clear hq;go_wp2;go_roundg k1
    case measure =>exact zS0 _
    case rel =>exact ⟨i + 1,by rw [zY0,zJ1 1];exact hi',by first | rw [hw] | simp [hw],congrArg (Value.int .i64) (by rw [hp];omega),rfl⟩
   ·have hq':¬ ((pmx num i:Nat):Int) < ((num i:Nat):Int) + 1:=by omega
    have hp:pmx num (i + 1) = pmx num i:=by rw [show pmx num (i + 1) = max (pmx num i) (num i + 1) from rfl];omega
    clear hq;go_wp2;go_roundg k1
    case measure =>exact zS0 _
    case rel =>exact ⟨i + 1,by rw [zY0,zJ1 1];exact hi',by first | rw [hw] | simp [hw],congrArg (Value.int .i64) (by rw [hp]),rfl⟩
  ·have hie:i = N:=by omega
   subst hie;go_wp2;go_ret;exact ⟨rfl,HB1.out⟩
theorem b0N:∀ (a b:List Nat),a.Pairwise (· < ·)→b.Pairwise (· < ·)→(∀ x,x ∈ a ↔ x ∈ b)→a = b
 | [],[],_,_,_ =>rfl
 | [],y :: b,_,_,h =>by cases (h y).2 zN0
 | x :: a,[],_,_,h =>by cases (h x).1 zN0
 | x :: a,y :: b,ha,hb,h =>by
  obtain ⟨a1,a2⟩:=zM3.1 ha;obtain ⟨b1,b2⟩:=zM3.1 hb;have e:x = y:=by
   rcases zQ0.1 ((h x).1 zN0) with q | q
   ·exact q
   ·rcases zQ0.1 ((h y).2 zN0) with w | w
    ·exact w.symm
    ·have:=b1 x q;have:=a1 y w;omega
  subst e
  congr 1
  refine b0N a b a2 b2 (fun z =>?_);constructor
  ·intro hz;rcases zQ0.1 ((h z).1 (zP0 _ hz)) with q | q
   ·have:=a1 z hz;omega
   ·exact q
  ·intro hz;rcases zQ0.1 ((h z).2 (zP0 _ hz)) with q | q
   ·have:=b1 z hz;omega
   ·exact q
open Classical in
theorem b0U {g:List (List Int)} (hm:mayB g = true):foldF g = (List.range (manyN g)).map fun i =>toI (rowK (adjF g) g.length (numN g) i):=by
 unfold foldF;apply List.map_congr_left;intro k _;unfold foldR toI
 congr 1
 refine b0N _ _ ((zV3).filter _) (b0W _) (fun x =>?_);rw [zT1,zX0,decide_eq_true_iff];unfold rowK;rw [a8S,a4X];constructor
 ·exact fun h =>h.2
 ·rintro ⟨h1,x',hx,e,y,hy,e2⟩;exact ⟨by rw [← e2];exact (a5X hm).lt y ((a4F hm).adj x' hx y hy),h1,x',hx,e,y,hy,e2⟩
theorem fold_no (k:Nat) (g:List (List Int)) (A:Option Addr) (c:Nat) (w:World) (hc:g.length≤c) (hC:kL.C w A g.length g) (hm:graph_May.f k g = some false) :
  Calls Tryz.prog 31 #[.slice A g.length c] w fun e w' =>e = .returned (.slice none 0 0)∧Below w.heap.size w w':=by
 have HM:=zA0 (graph_May.calls k A c g false w hC hc hm);clear hC;go_enter Tryz.func31,Tryz.ntmps31
 go_wp2_with (first
  | (go_at_call 28;(with_reducible refine HM.out.mono ?_;rintro z w1 ⟨rfl,hdr⟩;have HB:=zA0 hdr.below;clear hdr)))
 go_ret;exact qD3
theorem fold_yes (k:Nat) (g:List (List Int)) (hm:mayB g = true) (A:Option Addr) (c:Nat) (w:World) (hc:g.length≤c) (hC:kL.C w A g.length g) (hk:graph_May.f k g = some true) :
  Calls Tryz.prog 31 #[.slice A g.length c] w fun e w' =>∃ v,e = .returned v∧Kd.S kL 43 w' w.heap.size (fun _ =>True) v (foldF g)∧Below w.heap.size w w':=by
 have HC:=zA0 hC;have HM:=zA0 (graph_May.calls k A c g true w hC hc hk);have hgo:=a4F hm;have hMN:manyN g≤1000:=zF0 (b4O hm) (a2Y hm).1;have HOF:=zA0 (fun (w1:World) (h:kL.C w1 A g.length g) =>b1U g hm A c w1 h hc);have HMN:=zA0 (fun (w1:World) (h:kL.C w1 A g.length g) =>b5Q g hgo.sm A c w1 h hc);rw [b0U hm];have emn:manyF g = ((manyN g:Nat):Int):=rfl;have HFD:=zA0 (fun (w3:World) (bof:Nat) (h:Kd.F kL w3 (fun q =>q < w3.heap.size) A g.length g) (ho:w3.heap[bof]? = some (.cells (ints g.length (numN g)) 3 (0,0))) =>b5W g hgo A c bof (manyN g) (numN g) w3 h ho hMN (a5X hm).lt hc);rw [show (fun i =>cmpN (rowsAt (numN g) (adjF g) g.length i)) = rowK (adjF g) g.length (numN g) from rfl] at HFD;rw [emn] at HMN;clear hC hgo emn;have HB:=zA0 (zG0 w.heap.size w);go_enter Tryz.func31,Tryz.ntmps31
 go_wp2_with (first
  | (go_at_call 28;(with_reducible refine HM.out.mono ?_;rintro z w1 ⟨rfl,hdr⟩;have HB:=zA0 hdr.below;clear hdr))
  | (go_at_call 29;(with_reducible refine (HOF.out _ (Kd.a0H HC.out HB.out)).mono ?_;rintro z w2 ⟨bof,rfl,hlo,hbf,hb2⟩;have HB:=zA0 (a0L HB.out hb2);have HBF:=zA0 hbf;clear hlo hbf hb2))
  | (go_at_call 30;(with_reducible refine (HMN.out _ (Kd.a0H HC.out HB.out)).mono ?_;rintro z w3 ⟨rfl,hb3⟩;have HB:=zA0 (a0L HB.out hb3);have HBF:=zA0 (a0P HBF.out hb3);clear hb3))
  | (go_at_call 50;(with_reducible refine (HFD.out _ _ (Kd.C_F (Kd.a3F 3 (Kd.a7L .i64)) (Kd.a0H HC.out HB.out)) HBF.out).mono ?_;rintro z w4 ⟨bo,rfl,⟨v4,hfd⟩,hb4⟩;have HFR:=zA0 (hfd.own hMN);have HSZ:=zA0 HB.out.size;have HB:=zA0 (a0L HB.out hb4);clear hfd hb4)))
 go_ret;exact ⟨_,rfl,Kd.c0O HFR.out HSZ.out,HB.out⟩
theorem b9U (g:List (List Int)) (hs:Sm g) (A:Option Addr) (c:Nat) (w:World) (hC:kL.C w A g.length g) (hc:g.length≤c) :
  Calls Tryz.prog 31 #[.slice A g.length c] w fun e w' =>∃ v,e = .returned v∧Kd.S kL 43 w' w.heap.size (fun _ =>True) v (foldF g)∧Below w.heap.size w w':=by
 obtain ⟨kM,hk⟩:=a9O g hs;by_cases hm:mayB g = true
 ·rw [hm] at hk;exact fold_yes kM g hm A c w hc hC (hk kM (zJ0 _))
 ·rw [Bool.eq_false_iff.2 hm] at hk;refine (fold_no kM g A c w hc hC (hk kM (zJ0 _))).mono ?_;rintro e W' ⟨rfl,h⟩;refine ⟨_,rfl,?_,h⟩;have:foldF g = []:=by unfold foldF;rw [b9I hm];rfl
  rw [this];exact Kd.S_nil _ _ _ _ _
theorem C_slice {α:Type} {d:Kd α} {w:World} {A:Option Addr} {c:Nat} {xs:List α} {e base:Nat} {ok:Nat→Prop} (h:Kd.R d e w base ok (.slice A xs.length c) xs):d.C w A xs.length xs:=(Kd.a2V h).2.2
def ST9 (W:World) (bw k:Nat) (xs ys:List ByteArray) (s:Nat) (v:Nat→Value) (Z:World):Prop:=match s with
 | 0 =>Below W.heap.size W Z
 | 1 =>Below W.heap.size W Z∧Kd.R Kd.string 9 Z W.heap.size (fun _ =>True) (v 0) xs
 | 2 =>Below W.heap.size W Z∧Kd.R Kd.string 9 Z W.heap.size (fun _ =>True) (v 1) ys
 | _ =>∃ A c Z0,Z = Z0.setCell ⟨bw,k,none⟩ (.slice A ys.length c)∧Below W.heap.size W Z0∧Kd.R Kd.string 9 Z0 W.heap.size (fun _ =>True) (.slice A ys.length c) ys
theorem ST9.below {W Z:World} {bw k s:Nat} {xs ys:List ByteArray} {v:Nat→Value} (hs:s < 3) (h:ST9 W bw k xs ys s v Z):Below W.heap.size W Z:=by
 match s,hs with
 | 0,_ =>exact h
 | 1,_ =>exact h.1
 | 2,_ =>exact h.1
def ST17 (W:World) (bw k:Nat) (ys:List ByteArray) (s:Nat) (v:Nat→Value) (Z:World):Prop:=match s with
 | 0 =>Below W.heap.size W Z
 | 1 =>Below W.heap.size W Z∧Kd.R Kd.string 9 Z W.heap.size (fun _ =>True) (v 0) ys
 | _ =>∃ A c Z0,Z = Z0.setCell ⟨bw,k,none⟩ (.slice A ys.length c)∧Below W.heap.size W Z0∧Kd.R Kd.string 9 Z0 W.heap.size (fun _ =>True) (.slice A ys.length c) ys
theorem ST17.below {W Z:World} {bw k s:Nat} {ys:List ByteArray} {v:Nat→Value} (hs:s < 2) (h:ST17 W bw k ys s v Z):Below W.heap.size W Z:=by
 match s,hs with
 | 0,_ =>exact h
 | 1,_ =>exact h.1
def ST24 (W3 W:World) (bx:Nat) (xs:List ByteArray) (nm:ByteArray) (m:Nat) (out:List S42) (s:Nat) (v:Nat→Value) (Z:World):Prop:=match s with
 | 0 =>Below W.heap.size W Z
 | 1 =>Below W.heap.size W Z∧Kd.R Kd.string 9 Z W.heap.size (fun _ =>True) (v 0) xs
 | 2 =>Below W.heap.size W Z∧Kd.R Kd.string 9 Z W.heap.size (fun _ =>True) (v 0) xs∧v 1 = .agg #[.string nm,.int .i64 (m:Nat),v 0]
 | 3 =>∃ A c Z0,Z = Z0.alloc (.cells #[.string nm,.int .i64 (m:Nat),.slice A xs.length c] 42)∧v 2 = .slice (some ⟨Z0.heap.size,0,none⟩) 1 1∧Below W.heap.size W Z0∧Kd.R Kd.string 9 Z0 W.heap.size (fun _ =>True) (.slice A xs.length c) xs
 | 4 =>Below W3.heap.size W3 Z∧Z.heap[bx]? = W.heap[bx]?∧Kd.N k42 42 Z W3.heap.size (fun q =>W3.heap.size≤q) (v 3) (out ++ [⟨nm,((m:Nat):Int),xs⟩])
 | _ =>Below W3.heap.size W3 Z∧Z.heap[bx]? = W.heap[bx]?∧Kd.N k42 42 Z W3.heap.size (fun q =>W3.heap.size≤q) (v 4) (out ++ [⟨nm,((m:Nat):Int),xs⟩])
theorem ST24.cell {W3 W Z:World} {bx m s:Nat} {xs:List ByteArray} {nm:ByteArray} {out:List S42} {v:Nat→Value} (hbx:bx < W.heap.size) (h3:Below W3.heap.size W3 W) (h:ST24 W3 W bx xs nm m out s v Z):Below W3.heap.size W3 Z∧Z.heap[bx]? = W.heap[bx]?:=by
 have hB:∀ Y,Below W.heap.size W Y→Below W3.heap.size W3 Y∧Y.heap[bx]? = W.heap[bx]?:=fun Y hb =>⟨h3.trans (hb.mono h3.size),hb.block bx hbx⟩
 match s with
 | 0 =>exact hB Z h
 | 1 =>exact hB Z h.1
 | 2 =>exact hB Z h.1
 | 3 =>
  obtain ⟨A,c,Z0,rfl,_,hb,_⟩:=h;exact hB _ (hb.trans ((a0D (zG0 _ _) _).mono hb.size))
 | 4 =>exact ⟨h.1,h.2.1⟩
 | _ + 5 =>exact ⟨h.1,h.2.1⟩
theorem b1M (w:World) (fs:List S34) (A:Option Addr) (c:Nat) (hlc:fs.length≤c) (hC:Kd.C k34 w A fs.length fs) (hsm:SmG fs) :
  Calls Tryz.prog 9 #[.agg #[.slice A fs.length c]] w fun e w' =>∃ v,e = .returned v∧Kd.N k42 42 w' w.heap.size (fun k =>w.heap.size≤k) v (sigsF fs)∧Below w.heap.size w w':=by
 have hn:=hsm.n;have HC:=zA0 hC;have HSM:=zA0 hsm;have hb0:Below w.heap.size w (w.alloc (.cells #[.slice A fs.length c] 24)):=a0D (zG0 _ _) _;have HCALLS:=zA0 (c0J _ fs A c hlc (Kd.a0H hC hb0) qC0 (fun f hf =>zF0 (hsm.b f hf) qB0));have HB0:=zA0 hb0;have HP0:=zA0 (World.alloc_heap_new w (.cells #[.slice A fs.length c] 24));have hm:=a9W hn;have hgl:(callsF fs).length = fs.length:=by unfold callsF;simp
 have hfin:sigsF fs = (List.range fs.length).map fun i =>⟨(fnAt fs i).f0,(((fnAt fs i).f1.length:Nat):Int),wrB (rowK (adjF (callsF fs)) (callsF fs).length (numN (callsF fs))) (manyN (callsF fs)) (wrA fs (numN (callsF fs)) fs.length) (numN (callsF fs) i)⟩:=rfl
 clear hC hsm hb0;go_enter Tryz.func9,Tryz.ntmps9
 go_upto_region 2 with (first
  | (go_at_call 27;(with_reducible refine HCALLS.out.mono ?_;rintro z w2 ⟨v1,rfl,hs1,hb1⟩;have HS1:=zA0 hs1;have HB1:=zA0 hb1;clear hs1 hb1)))
 have hs1:=HS1.out;generalize callsF fs = g at hm hgl hfin hs1;have HGL:=zA0 hgl;clear HS1 HCALLS hgl;obtain ⟨Ag,cg,eg⟩:=Kd.a3U (Kd.S_N hs1);subst eg;obtain ⟨_,hcg,hCg⟩:=Kd.a3Q (Kd.S_N hs1);have hgF:Kd.F kL w2 (fun q =>q < w2.heap.size) Ag g.length g:=Kd.a1Y (Kd.N_F (Kd.a4K (Kd.S_N hs1))) (fun q hq =>hq.2);have hgo:=a4F hm;obtain ⟨kM,hkM⟩:=a9O g hgo.sm;rw [hm] at hkM;have HMAY:=zA0 (graph_May.calls kM Ag cg g true w2 hCg hcg (hkM kM (zJ0 _)));have hb2:Below w.heap.size w w2:=HB0.out.trans (HB1.out.mono HB0.out.size);have hp2:=a0P HP0.out HB1.out;have HGF:=zA0 hgF;have HB2:=zA0 hb2;have HP2:=zA0 hp2;clear hs1 hCg hgF hkM hb2 hp2 HB0 HB1 HP0
 go_upto_region 4 with (first
  | (go_at_call 28;(with_reducible refine HMAY.out.mono ?_;rintro z w3 ⟨rfl,hdr⟩;have HB3:=zA0 hdr.below;clear hdr)))
 have hgF3:=Kd.a1F HGF.out HB3.out;have HOF:=zA0 (b1U g hm Ag cg w3 (Kd.a4M hgF3) hcg);have HGF3:=zA0 hgF3;have HP3:=zA0 (a0P HP2.out HB3.out);have HBB3:=zA0 (HB2.out.trans (HB3.out.mono HB2.out.size));have HSZ3:=zA0 HB3.out.size;clear hgF3 HMAY HGF HP2 HB2 HB3
 go_upto_region 5 with (first
  | (go_at_call 29;(with_reducible refine HOF.out.mono ?_;rintro z w4 ⟨bo,rfl,hbo1,hbo2,hb4⟩;have HBO:=zA0 hbo2;have HB4:=zA0 hb4;clear hbo1 hbo2 hb4)))
 have hgF4:=Kd.a1F HGF3.out HB4.out;have HMANY:=zA0 (b5Q g hgo.sm Ag cg w4 (Kd.a4M hgF4) hcg);have emn:manyF g = ((manyN g:Nat):Int):=rfl;rw [emn] at HMANY;have hK:manyN g≤1000:=zF0 (b4O hm) (a2Y hm).1;have hnum:∀ x,x < fs.length→numN g x < manyN g:=fun x hx =>(a5X hm).lt x (by have:=HGL.out;omega)
 have HFOLD:=zA0 (fun (W:World) (h:kL.C W Ag g.length g) =>b9U g hgo.sm Ag cg W h hcg);rw [b0U hm] at HFOLD;have htlt:∀ k m,m ∈ rowK (adjF g) g.length (numN g) k→m < manyN g:=fun k m hmm =>b7Z hgo.adj (fun x hx =>(a5X hm).lt x hx) hmm
 have HGF4:=zA0 hgF4;have HP4:=zA0 (a0P HP3.out HB4.out);have HBB4:=zA0 (HBB3.out.trans (HB4.out.mono HBB3.out.size));have HLT:=zA0 (show w3.heap.size≤w4.heap.size∧w2.heap.size≤w3.heap.size from ⟨HB4.out.size,HSZ3.out⟩);clear hgF4 emn HOF HGF3 HP3 HBB3 HB4 HSZ3 hm hgo;obtain ⟨K,hKe⟩:∃ K,K = manyN g:=⟨_,rfl⟩;obtain ⟨num,hnumE⟩:∃ n,n = numN g:=⟨_,rfl⟩;obtain ⟨tr,htrE⟩:∃ t,t = rowK (adjF g) g.length (numN g):=⟨_,rfl⟩;rw [← htrE] at HFOLD hfin htlt;rw [← hnumE] at hfin hnum HBO;rw [← hKe] at hfin hnum HMANY hK HFOLD htlt;have HTLT:=zA0 htlt;have HNUM:=zA0 hnum;have HFIN:=zA0 hfin;clear hKe hnumE htrE hfin hnum htlt;have hmk:=makeLS K hK
 go_upto_region 6 with (first
  | (go_at_call 30;(with_reducible refine HMANY.out.mono ?_;rintro z w5 ⟨rfl,hb5⟩;have HB5:=zA0 hb5;clear hb5)))
 clear hmk HMANY;have hw0:=WR.start (K:=K) (B:=w.heap.size) (W0:=w) (W:=w5) (zF0 HBB4.out.size HB5.out.size) (HBB4.out.trans (HB5.out.mono HBB4.out.size));obtain ⟨bw,hbw⟩:∃ b,w5.heap.size = b:=⟨_,rfl⟩;obtain ⟨Ws,hWs⟩:∃ W,w5.alloc (.cells (vals K (fun _ =>.slice none 0 0)) 25) = W:=⟨_,rfl⟩;have hbs:Below w5.heap.size w5 Ws:=by rw [← hWs];exact a0D (zG0 _ _) _
 rw [hbw,hWs] at hw0;rw [hbw,hWs];have hbo5:Ws.heap[bo]? = some (.cells (ints g.length num) 3 (0,0)):=a0P (a0P HBO.out HB5.out) hbs;have hbol:bo < bw:=by rw [← hbw];exact a0X (a0P HBO.out HB5.out)
 have hp5:Ws.heap[w.heap.size]? = some (.cells #[.slice A fs.length c] 24 (0,0)):=a0P (a0P HP4.out HB5.out) hbs;have hpl:w.heap.size < bw:=by rw [← hbw];exact a0X (a0P HP4.out HB5.out)
 have hgF5:Kd.F kL Ws (fun q =>q < bw) Ag g.length g:=Kd.a1Y (Kd.a1F (Kd.a1F HGF4.out HB5.out) hbs) (fun q hq =>by have h1:=HLT.out;have h2:=HB5.out.size;omega);have HW0:=zA0 hw0;have HBO5:=zA0 (zG3 hbo5 hbol);have HP5:=zA0 (zG3 hp5 hpl);have HGF5:=zA0 hgF5;have zp:Ws.cell? ⟨w.heap.size,0,none⟩ = some (.slice A fs.length c):=(a0I hp5 0).trans rfl;clear hw0 hbs hbo5 hbol hp5 hpl hgF5 hbw hWs HBO HB5 HGF4 HP4 HBB4 HLT;go_upto_region 7 with (fail)
 clear zp;go_loopg [28] fs.length (fun kq v28 w' =>∃ (i:Nat) (v:Nat→Value),i + kq = fs.length∧v28 = .int .i64 (i:Nat)∧Hid (WR w.heap.size bw K v (wrA fs num i) w Ws w'))
 case atStart =>exact ⟨0,_,by omega,rfl,HW0⟩
 case round =>
  obtain ⟨i,v,hi',rfl,HW⟩:=hrel;clear HW0;by_cases hi:i < fs.length
  ·obtain ⟨ad,A1,c1,A2,c2,eA,x0,x1,x2,l1,g1,l2,g2⟩:=a6Q (Kd.a0H HC.out HW.out.be) (i:Int) (zH0 i) (zW1.2 hi);subst eA;rw [zK0] at x0 x1 x2;obtain ⟨f,hf⟩:∃ f,f = a0V fs (i:Int):=⟨_,rfl⟩;rw [← hf] at x0 x1 x2 l1 g1 l2 g2;have hfm:f ∈ fs:=by rw [hf];exact b5X hi
   have hi0:(0:Int)≤(i:Int):=zH0 i;have hw:=pz i qC0;have hnK:=HNUM.out i hi;obtain ⟨k1,rfl⟩:∃ k1,gk = k1 + 1:=⟨gk - 1,by omega⟩;have hba:Below wr.heap.size wr (wr.alloc (.cells #[.string f.f0,.slice A1 f.f1.length c1,.slice A2 f.f2.length c2] 34)):=a0D (zG0 _ _) _;have HFM:=zA0 hfm;have HFE:=zA0 hf;have G2:=zA0 (Kd.a0H g2 hba);have HWA:=zA0 (HW.out.below hba);have hnew:=World.alloc_heap_new wr (.cells #[.string f.f0,.slice A1 f.f1.length c1,.slice A2 f.f2.length c2] 34);have HNB:=zA0 hnew;clear hba g1 g2 hfm hf hnew;go_upto_region 9 with (fail)
   clear x0 x1 x2;generalize hbx:wr.heap.size = bx at HNB ⊢;clear hbx;generalize wr.alloc (.cells #[.string f.f0,.slice A1 f.f1.length c1,.slice A2 f.f2.length c2] 34) = Wa at G2 HWA HNB ⊢;have zb0:Wa.cell? ⟨bx,0,none⟩ = some (.string f.f0):=(a0I HNB.out 0).trans rfl;have zb1:Wa.cell? ⟨bx,1,none⟩ = some (.slice A1 f.f1.length c1):=(a0I HNB.out 1).trans rfl;have zb2:Wa.cell? ⟨bx,2,none⟩ = some (.slice A2 f.f2.length c2):=(a0I HNB.out 2).trans rfl;have hboW:Wa.heap[bo]? = some (.cells (ints g.length num) 3 (0,0)):=(HWA.out.fz bo HBO5.out.2).trans HBO5.out.1;have hig:i < g.length:=Nat.lt_of_lt_of_eq hi HGL.out.symm;have zo:Wa.cell? ⟨bo,i,none⟩ = some (.int .i64 (num i:Nat)):=(a0I hboW i).trans (a2D _ hig);obtain ⟨Ar,cr,zw,zwf,hFr⟩:=HWA.out.cell hnK;have hn0:(0:Int)≤(num i:Int):=zH0 _;have HFR:=zA0 hFr;have HBWL:=zA0 (show bw < Wa.heap.size from a0X HWA.out.o);have hin:=(b7H (fs:=fs) num i (zD2 hi));have HLN:=zA0 (zF0 (hin.len (num i)) HSM.out.u);have HLO:=zA0 (show (ownF f).length≤1050000 from zF0 (b1I _ _ (b0P f).nodup (fun x hx =>by have:=b4J hi x;rw [show fnAt fs i = f from HFE.out.symm] at this;exact this hx)) HSM.out.u);clear hFr hin hboW;refine (wpIn_wide (n:=5)).1 ?_;refine wpIn_region_any mixedO ?_;refine a1X _ (fun _ =>undef) (fun done val Z =>TF 17 [13,14,16] (fun ix_ =>match ix_ with | 0 =>.slice (some ⟨bw,0,none⟩) K K | 1 =>.slice (some ⟨bo,0,none⟩) g.length g.length | 2 =>.int .i64 (i:Nat) | 3 =>.pointer (some ⟨bo,i,none⟩) | 4 =>.int .i64 (num i:Nat) | 5 =>.slice (some ⟨bw,0,none⟩) K K | 6 =>.slice (some ⟨bo,0,none⟩) g.length g.length | 7 =>.int .i64 (i:Nat) | 8 =>.pointer (some ⟨bo,i,none⟩) | 9 =>.int .i64 (num i:Nat) | 10 =>.pointer (some ⟨bw,num i,none⟩) | 11 =>.slice Ar (wrA fs num i (num i)).length cr | 12 =>.agg #[.string f.f0,.slice A1 f.f1.length c1,.slice A2 f.f2.length c2] | 15 =>.pointer (some ⟨bw,num i,none⟩) | _ =>undef) (ST9 Wa bw (num i) (ownF f) (unionF (wrA fs num i (num i)) (ownF f))) done val Z) rfl qF0 _ ?hz9 ?st9 ?en9
   case hz9 =>exact TF.start qB0 qB0 (a1I (zG0 _ _))
   case st9 =>
    intro i_ o done val a Z ho hdn hdep hag hS K2 hK2;have hm:i_ < 17:=by
     by_cases h:i_ < 17
     ·exact h
     ·rw [Array.getElem?_eq_none qV0] at ho;cases ho
    obtain rfl | rfl | rfl | rfl | rfl | rfl | rfl | rfl | rfl | rfl | rfl | rfl | rfl | rfl | rfl | rfl | rfl:i_ = 0∨i_ = 1∨i_ = 2∨i_ = 3∨i_ = 4∨i_ = 5∨i_ = 6∨i_ = 7∨i_ = 8∨i_ = 9∨i_ = 10∨i_ = 11∨i_ = 12∨i_ = 13∨i_ = 14∨i_ = 15∨i_ = 16:=by omega
    ·cases ho;have e5:a.eval (.tmp 5) = .slice (some ⟨bw,0,none⟩) K K:=hag.keep 5 rfl;refine a0F (i:=0) (r:=.slice (some ⟨bw,0,none⟩) K K) (w':=Z) rfl rfl (fun c h =>by cases h) rfl ?_ (hK2 _ _ (hS.const qB0 hdn qB0 rfl));have ec:∀ v,a.eval (.const v) = v:=fun _ =>rfl
     generalize a.eval = ev at *;simp [execOp,go_sem,ec,e5]
    ·cases ho;have e4:a.eval (.tmp 4) = .slice (some ⟨bo,0,none⟩) g.length g.length:=hag.keep 4 rfl;refine a0F (i:=1) (r:=.slice (some ⟨bo,0,none⟩) g.length g.length) (w':=Z) rfl rfl (fun c h =>by cases h) rfl ?_ (hK2 _ _ (hS.const qB0 hdn qB0 rfl));have ec:∀ v,a.eval (.const v) = v:=fun _ =>rfl
     generalize a.eval = ev at *;simp [execOp,go_sem,ec,e4]
    ·cases ho;have e6:a.eval (.tmp 6) = .int .i64 (i:Nat):=hag.keep 6 rfl;refine a0F (i:=2) (r:=.int .i64 (i:Nat)) (w':=Z) rfl rfl (fun c h =>by cases h) rfl ?_ (hK2 _ _ (hS.const qB0 hdn qB0 rfl));have ec:∀ v,a.eval (.const v) = v:=fun _ =>rfl
     generalize a.eval = ev at *;simp [execOp,go_sem,ec,e6]
    ·cases ho;have e34:=(hag.val_ (j:=1) (t:=34) rfl (hdep ⟨1,.data⟩ qE0 rfl)).trans (hS.vv 1 (hdep ⟨1,.data⟩ qE0 rfl) qB0)
     try dsimp only at e34
     have e35:=(hag.val_ (j:=2) (t:=35) rfl (hdep ⟨2,.data⟩ qE0 rfl)).trans (hS.vv 2 (hdep ⟨2,.data⟩ qE0 rfl) qB0)
     try dsimp only at e35
     refine a0F (i:=3) (r:=.pointer (some ⟨bo,i,none⟩)) (w':=Z) rfl rfl (fun c h =>by cases h) ?_ ?_ (hK2 _ _ (hS.const qB0 hdn qB0 rfl))
     ·generalize a.eval = ev at *;simp [Oper.about,resolve,Target.leads,Sem.run_pure,go_sem,e34,e35,zG1.2 hig]
     ·have ec:∀ v,a.eval (.const v) = v:=fun _ =>rfl
      generalize a.eval = ev at *;simp [execOp,go_sem,ec,e34,e35,zG1.2 hig]
    ·cases ho;have e36:=(hag.val_ (j:=3) (t:=36) rfl (hdep ⟨3,.data⟩ qE0 rfl)).trans (hS.vv 3 (hdep ⟨3,.data⟩ qE0 rfl) qB0)
     try dsimp only at e36
     obtain ⟨s_,hs_,hst_⟩:=hS.some (i:=4) qB0 hdn qB0;have hb:=ST9.below qD2 hst_;have zz0:=a1Q zo hb;refine a0F (i:=4) (r:=.int .i64 (num i:Nat)) (w':=Z) rfl rfl (fun c h =>by cases h) rfl ?_ (hK2 _ _ (hS.const qB0 hdn qB0 rfl));have ec:∀ v,a.eval (.const v) = v:=fun _ =>rfl
     generalize a.eval = ev at *;simp [execOp,go_sem,ec,e36,zz0]
    ·cases ho;have e5:a.eval (.tmp 5) = .slice (some ⟨bw,0,none⟩) K K:=hag.keep 5 rfl;refine a0F (i:=5) (r:=.slice (some ⟨bw,0,none⟩) K K) (w':=Z) rfl rfl (fun c h =>by cases h) rfl ?_ (hK2 _ _ (hS.const qB0 hdn qB0 rfl));have ec:∀ v,a.eval (.const v) = v:=fun _ =>rfl
     generalize a.eval = ev at *;simp [execOp,go_sem,ec,e5]
    ·cases ho;have e4:a.eval (.tmp 4) = .slice (some ⟨bo,0,none⟩) g.length g.length:=hag.keep 4 rfl;refine a0F (i:=6) (r:=.slice (some ⟨bo,0,none⟩) g.length g.length) (w':=Z) rfl rfl (fun c h =>by cases h) rfl ?_ (hK2 _ _ (hS.const qB0 hdn qB0 rfl));have ec:∀ v,a.eval (.const v) = v:=fun _ =>rfl
     generalize a.eval = ev at *;simp [execOp,go_sem,ec,e4]
    ·cases ho;have e6:a.eval (.tmp 6) = .int .i64 (i:Nat):=hag.keep 6 rfl;refine a0F (i:=7) (r:=.int .i64 (i:Nat)) (w':=Z) rfl rfl (fun c h =>by cases h) rfl ?_ (hK2 _ _ (hS.const qB0 hdn qB0 rfl));have ec:∀ v,a.eval (.const v) = v:=fun _ =>rfl
     generalize a.eval = ev at *;simp [execOp,go_sem,ec,e6]
    ·cases ho;have e39:=(hag.val_ (j:=6) (t:=39) rfl (hdep ⟨6,.data⟩ qE0 rfl)).trans (hS.vv 6 (hdep ⟨6,.data⟩ qE0 rfl) qB0)
     try dsimp only at e39
     have e40:=(hag.val_ (j:=7) (t:=40) rfl (hdep ⟨7,.data⟩ qE0 rfl)).trans (hS.vv 7 (hdep ⟨7,.data⟩ qE0 rfl) qB0)
     try dsimp only at e40
     refine a0F (i:=8) (r:=.pointer (some ⟨bo,i,none⟩)) (w':=Z) rfl rfl (fun c h =>by cases h) ?_ ?_ (hK2 _ _ (hS.const qB0 hdn qB0 rfl))
     ·generalize a.eval = ev at *;simp [Oper.about,resolve,Target.leads,Sem.run_pure,go_sem,e39,e40,zG1.2 hig]
     ·have ec:∀ v,a.eval (.const v) = v:=fun _ =>rfl
      generalize a.eval = ev at *;simp [execOp,go_sem,ec,e39,e40,zG1.2 hig]
    ·cases ho;have e41:=(hag.val_ (j:=8) (t:=41) rfl (hdep ⟨8,.data⟩ qE0 rfl)).trans (hS.vv 8 (hdep ⟨8,.data⟩ qE0 rfl) qB0)
     try dsimp only at e41
     obtain ⟨s_,hs_,hst_⟩:=hS.some (i:=9) qB0 hdn qB0;have hb:=ST9.below qD2 hst_;have zz0:=a1Q zo hb;refine a0F (i:=9) (r:=.int .i64 (num i:Nat)) (w':=Z) rfl rfl (fun c h =>by cases h) rfl ?_ (hK2 _ _ (hS.const qB0 hdn qB0 rfl));have ec:∀ v,a.eval (.const v) = v:=fun _ =>rfl
     generalize a.eval = ev at *;simp [execOp,go_sem,ec,e41,zz0]
    ·cases ho;have e38:=(hag.val_ (j:=5) (t:=38) rfl (hdep ⟨5,.data⟩ qE0 rfl)).trans (hS.vv 5 (hdep ⟨5,.data⟩ qE0 rfl) qB0)
     try dsimp only at e38
     have e42:=(hag.val_ (j:=9) (t:=42) rfl (hdep ⟨9,.data⟩ qE0 rfl)).trans (hS.vv 9 (hdep ⟨9,.data⟩ qE0 rfl) qB0)
     try dsimp only at e42
     refine a0F (i:=10) (r:=.pointer (some ⟨bw,num i,none⟩)) (w':=Z) rfl rfl (fun c h =>by cases h) ?_ ?_ (hK2 _ _ (hS.const qB0 hdn qB0 rfl))
     ·generalize a.eval = ev at *;simp [Oper.about,resolve,Target.leads,Sem.run_pure,go_sem,e38,e42,zG1.2 hnK]
     ·have ec:∀ v,a.eval (.const v) = v:=fun _ =>rfl
      generalize a.eval = ev at *;simp [execOp,go_sem,ec,e38,e42,zG1.2 hnK]
    ·cases ho;have e43:=(hag.val_ (j:=10) (t:=43) rfl (hdep ⟨10,.data⟩ qE0 rfl)).trans (hS.vv 10 (hdep ⟨10,.data⟩ qE0 rfl) qB0)
     try dsimp only at e43
     obtain ⟨s_,hs_,hst_⟩:=hS.some (i:=11) qB0 hdn qB0;have hb:=ST9.below qD2 hst_;have zz0:=a1Q zw hb;refine a0F (i:=11) (r:=.slice Ar (wrA fs num i (num i)).length cr) (w':=Z) rfl rfl (fun c h =>by cases h) rfl ?_ (hK2 _ _ (hS.const qB0 hdn qB0 rfl));have ec:∀ v,a.eval (.const v) = v:=fun _ =>rfl
     generalize a.eval = ev at *;simp [execOp,go_sem,ec,e43,zz0]
    ·cases ho;have e7:a.eval (.tmp 7) = .pointer (some ⟨bx,0,none⟩):=hag.keep 7 rfl;obtain ⟨s_,hs_,hst_⟩:=hS.some (i:=12) qB0 hdn qB0;have hb:=ST9.below qD2 hst_;have zz0:=a1Q zb0 hb;have zz1:=a1Q zb1 hb;have zz2:=a1Q zb2 hb;refine a0F (i:=12) (r:=.agg #[.string f.f0,.slice A1 f.f1.length c1,.slice A2 f.f2.length c2]) (w':=Z) rfl rfl (fun c h =>by cases h) rfl ?_ (hK2 _ _ (hS.const qB0 hdn qB0 rfl));have ec:∀ v,a.eval (.const v) = v:=fun _ =>rfl
     generalize a.eval = ev at *;simp [execOp,go_sem,ec,e7,zz0,zz1,zz2]
    ·cases ho;have e45:=(hag.val_ (j:=12) (t:=45) rfl (hdep ⟨12,.data⟩ qE0 rfl)).trans (hS.vv 12 (hdep ⟨12,.data⟩ qE0 rfl) qB0)
     try dsimp only at e45
     have hst:Below Wa.heap.size Wa Z:=hS.get 0 qB0 hdn (.inl rfl);have hown:=b8S Z f A1 A2 c1 c2 l2 (Kd.a0H G2.out hst) (HSM.out.b f HFM.out);refine a3L (i:=13) (f:=11) rfl rfl rfl (fun _ _ =>rfl) (R:=fun e w' =>∃ v,e = .returned v∧Kd.R Kd.string 9 w' Z.heap.size (fun _ =>True) v (ownF f)∧Below Z.heap.size Z w') ?_ ?_
     ·simp only [zK2,zI2,zN2,e45];exact hown
     ·rintro e' w2 ⟨v2,rfl,hr,hb2⟩;refine ⟨v2,rfl,hK2 _ _ (hS.next 0 qB0 hdn (.inl rfl) (fun h =>absurd h qB0) (fun v' hv _ =>?_))⟩;exact ⟨hst.trans (hb2.mono hst.size),by rw [hv];exact Kd.a4J hr hst.size⟩
    ·cases ho;have e44:=(hag.val_ (j:=11) (t:=44) rfl (hdep ⟨11,.data⟩ qE0 rfl)).trans (hS.vv 11 (hdep ⟨11,.data⟩ qE0 rfl) qB0)
     try dsimp only at e44
     have e46:=hag.val_ (j:=13) (t:=46) rfl (hdep ⟨13,.data⟩ qE0 rfl);have hst:=hS.get 1 qB0 hdn (.inr (hdep ⟨13,.data⟩ qE0 rfl));obtain ⟨hb,hr1⟩:=hst;obtain ⟨Ao,co,ev0⟩:=Kd.a3D hr1;have ev1:val 13 = .slice Ao (ownF f).length co:=ev0;rw [ev1] at e46;rw [ev0] at hr1;have hun:=a7D (wrA fs num i (num i)) (ownF f) HLN.out HLO.out Ar Ao cr co Z (Kd.a0H (Kd.a4M HFR.out) hb) (C_slice hr1);refine a3L (i:=14) (f:=15) rfl rfl rfl (fun _ _ =>rfl) (R:=fun e w' =>∃ v,e = .returned v∧Kd.R Kd.string 9 w' Z.heap.size (fun _ =>True) v (unionF (wrA fs num i (num i)) (ownF f))∧Below Z.heap.size Z w') ?_ ?_
     ·simp only [zK2,zI2,zN2,e44,e46];exact hun
     ·rintro e' w2 ⟨v2,rfl,hr,hb2⟩;refine ⟨v2,rfl,hK2 _ _ (hS.next 1 qB0 hdn (.inr (hdep ⟨13,.data⟩ qE0 rfl)) (fun h =>absurd h qB0) (fun v' hv _ =>?_))⟩;exact ⟨hb.trans (hb2.mono hb.size),by rw [hv];exact Kd.a4J hr hb.size⟩
    ·cases ho;have e33:=(hag.val_ (j:=0) (t:=33) rfl (hdep ⟨0,.data⟩ qE0 rfl)).trans (hS.vv 0 (hdep ⟨0,.data⟩ qE0 rfl) qB0)
     try dsimp only at e33
     have e37:=(hag.val_ (j:=4) (t:=37) rfl (hdep ⟨4,.data⟩ qE0 rfl)).trans (hS.vv 4 (hdep ⟨4,.data⟩ qE0 rfl) qB0)
     try dsimp only at e37
     refine a0F (i:=15) (r:=.pointer (some ⟨bw,num i,none⟩)) (w':=Z) rfl rfl (fun c h =>by cases h) ?_ ?_ (hK2 _ _ (hS.const qB0 hdn qB0 rfl))
     ·generalize a.eval = ev at *;simp [Oper.about,resolve,Target.leads,Sem.run_pure,go_sem,e33,e37,zG1.2 hnK]
     ·have ec:∀ v,a.eval (.const v) = v:=fun _ =>rfl
      generalize a.eval = ev at *;simp [execOp,go_sem,ec,e33,e37,zG1.2 hnK]
    ·cases ho;have e48:=(hag.val_ (j:=15) (t:=48) rfl (hdep ⟨15,.data⟩ qE0 rfl)).trans (hS.vv 15 (hdep ⟨15,.data⟩ qE0 rfl) qB0)
     try dsimp only at e48
     have e47:=hag.val_ (j:=14) (t:=47) rfl (hdep ⟨14,.data⟩ qE0 rfl);have hst:=hS.get 2 qB0 hdn (.inr (hdep ⟨14,.data⟩ qE0 rfl));obtain ⟨hb,hr1⟩:=hst;obtain ⟨Ao,co,ev0⟩:=Kd.a3D hr1;have ev1:val 14 = .slice Ao (unionF (wrA fs num i (num i)) (ownF f)).length co:=ev0;rw [ev1] at e47;rw [ev0] at hr1;have zz0:=a1Q zw hb;have zzf:=a0K (a0P HWA.out.o hb) (num i)
     refine a1Z (i:=16) rfl rfl (fun c h =>by cases h) rfl (w':=Z.setCell ⟨bw,num i,none⟩ (.slice Ao (unionF (wrA fs num i (num i)) (ownF f)).length co)) ?_ (hK2 _ _ (hS.next 2 qB0 hdn (.inr (hdep ⟨14,.data⟩ qE0 rfl)) (fun _ i_ hi hni =>by
      match i_,hi with
      | 0,_ =>exact hdep ⟨0,.phase⟩ qE0 rfl
      | 1,_ =>exact hdep ⟨1,.phase⟩ qE0 rfl
      | 2,_ =>exact hdep ⟨2,.phase⟩ qE0 rfl
      | 3,_ =>exact hdep ⟨3,.phase⟩ qE0 rfl
      | 4,_ =>exact hdep ⟨4,.phase⟩ qE0 rfl
      | 5,_ =>exact hdep ⟨5,.phase⟩ qE0 rfl
      | 6,_ =>exact hdep ⟨6,.phase⟩ qE0 rfl
      | 7,_ =>exact hdep ⟨7,.phase⟩ qE0 rfl
      | 8,_ =>exact hdep ⟨8,.phase⟩ qE0 rfl
      | 9,_ =>exact hdep ⟨9,.phase⟩ qE0 rfl
      | 10,_ =>exact hdep ⟨10,.phase⟩ qE0 rfl
      | 11,_ =>exact hdep ⟨11,.phase⟩ qE0 rfl
      | 12,_ =>exact hdep ⟨12,.phase⟩ qE0 rfl
      | 13,_ =>exact absurd qB0 hni
      | 14,_ =>exact absurd qB0 hni
      | 15,_ =>exact hdep ⟨15,.data⟩ qE0 rfl
      | 16,_ =>exact absurd qB0 hni
      | q_ + 17,h =>omega) (fun v' _ _ =>⟨_,_,Z,rfl,hb,hr1⟩)))
     have ec:∀ v,a.eval (.const v) = v:=fun _ =>rfl
     generalize a.eval = ev at *;simp [execOp,go_sem,ec,e48,e47,zz0,zzf]
   case en9 =>
    intro Z done val hdn hS;simp only [putTmps,dstOf,zQ1,zR0,zI1,Nat.reduceAdd,zS1,zF1,zL1,zU0,zL0,zV0,zW0];obtain ⟨A3,c3,Z0,rfl,hb9,hr9⟩:=hS.last (hdn 16 qB0);have hw10:=(HWA.out.below hb9).put HBWL.out hnK hr9;clear hS hdn zb0 zb1 zb2 zo zw zwf;have ews:Tarj.upd (wrA fs num i) (num i) (unionF (wrA fs num i (num i)) (ownF f)) = wrA fs num (i + 1):=by rw [a8I,show fnAt fs i = f from HFE.out.symm]
    rw [ews] at hw10;have HW10:=zA0 hw10;clear hw10 ews hb9 hr9;go_wp2;go_roundg k1
    case measure =>exact zS0 _
    case rel =>exact ⟨i + 1,_,by rw [zY0,zJ1 1];exact hi',by first | rw [hw] | simp [hw],HW10⟩
  ·have hie:i = fs.length:=by omega
   have hwA:=HW.out;rw [hie] at hwA;obtain ⟨r1,hr1⟩:∃ r,r = wrA fs num fs.length:=⟨_,rfl⟩;have hin1:InU (allOwn fs) r1:=by rw [hr1];exact b7H num fs.length (zJ0 _)
   have hfin:=HFIN.out;rw [← hr1] at hwA hfin;have hgFr:Kd.F kL wr (fun q =>q < bw) Ag g.length g:=Kd.a4L HGF5.out (fun k hk _ =>hwA.fz k hk);have HFO:=zA0 (HFOLD.out wr (Kd.a4M hgFr));obtain ⟨L,hL⟩:∃ L,L = (List.range K).map fun k =>toI (tr k):=⟨_,rfl⟩
   have hLl:L.length = K:=by rw [hL];simp
   have hLg:∀ k,k < K→L.getD k [] = toI (tr k):=fun k hk =>by rw [hL,zE0,List.getElem?_map,List.getElem?_range hk];rfl
   rw [← hL] at HFO;have HWA:=zA0 hwA;have HBWR:=zA0 (a0X hwA.o);have HIN1:=zA0 hin1;have HFIN2:=zA0 hfin;have HLG:=zA0 hLg;clear hwA hgFr hin1 hfin hLg HW HFIN HFOLD hL hi
   go_upto_region 12 with (first
    | (go_at_call 31;(refine HFO.out.mono ?_;rintro z wF ⟨vF,rfl,hsF,hbF⟩;obtain ⟨AF,cF,eF⟩:=Kd.a3U (Kd.S_N hsF);rw [hLl] at eF;subst eF;have hFF:Kd.F kL wF (fun q =>q≠bw) AF K L:=Kd.N_F (Kd.a3T (Kd.S_N (Kd.b0C hsF)) (fun k hk =>by have h1:=hk.2.1;have h2:=HBWR.out;omega));have HFF:=zA0 hFF;have HWF:=zA0 (HWA.out.below hbF);clear hsF hbF hFF)))
   go_loopg [53] K (fun kq v53 w' =>∃ (k:Nat) (v:Nat→Value),k + kq = K∧v53 = .int .i64 (k:Nat)∧Hid (WR w.heap.size bw K v (wrB tr k r1) w Ws w')∧Hid (Kd.F kL w' (fun q =>q≠bw) AF K L))
   case atStart =>exact ⟨0,_,by omega,rfl,HWF,HFF⟩
   case round =>
    obtain ⟨k,v,hk',rfl,HW,HFL⟩:=hrel;clear HWF HFF HWA;by_cases hk:k < K
    ·obtain ⟨ad,A0,c0,eA,hrow,hle,hF0⟩:=rowA HFL.out k hk;subst eA;obtain ⟨t,ht⟩:∃ t,t = tr k:=⟨_,rfl⟩;rw [HLG.out k hk,← ht,a1E] at hrow hle hF0;have hk0:(0:Int)≤(k:Int):=zH0 k;have hw:=pzS k qC0;obtain ⟨k1,rfl⟩:∃ k1,gk = k1 + 1:=⟨gk - 1,by omega⟩;obtain ⟨rk,hrk⟩:∃ r,r = wrB tr k r1:=⟨_,rfl⟩;have hW0:=HW.out;rw [← hrk] at hW0;have HT:=zA0 ht;have HRK:=zA0 hrk;have HF0:=zA0 hF0;have HWI:=zA0 (show WR w.heap.size bw K v (wrRow k (t.take 0) rk) w Ws wr from by rw [zO2];exact hW0);have HINK:=zA0 (show InU (allOwn fs) rk from by rw [hrk];exact b7F tr HIN1.out k);clear ht hrk hF0 hW0 HW;go_wp2;clear hrow;go_loopg [60] t.length (fun kq v60 w' =>∃ (j:Nat) (v:Nat→Value),j + kq = t.length∧v60 = .int .i64 (j:Nat)∧Hid (WR w.heap.size bw K v (wrRow k (t.take j) rk) w Ws w')∧Hid (Kd.F kL w' (fun q =>q≠bw) (some ad) K L)∧Hid (Kd.F kI w' (fun q =>q≠bw) A0 t.length (toI t)))
     case atStart =>exact ⟨0,_,by omega,rfl,HWI,HFL,HF0⟩
     case round =>
      obtain ⟨j,v,hj,rfl,HW,HFL,HFT⟩:=hrel;clear HWI HF0;by_cases hlt:j < t.length
      ·obtain ⟨m,hm⟩:∃ m,m = t[j]:=⟨_,rfl⟩;have hmK:m < K:=HTLT.out k m (by rw [hm,← HT.out];exact zD1 hlt);obtain ⟨ad1,eA1,hz0⟩:=Kd.a3B (Kd.a4M HFT.out) (j:Int) (zH0 j) (zW1.2 hlt);subst eA1;rw [zK0] at hz0;have hz1:wr.cell? (ad1.add j) = some (.int .i64 (m:Nat)):=by
        rw [hz0];unfold rd;rw [zK0,a5S _ _ hlt,hm]
       have hm0:(0:Int)≤(m:Int):=zH0 m;have hlen:=(Kd.a4M HFT.out).2.1;have hwj:wrap64 ((j:Int) + 1) = ((j + 1:Nat):Int):=by simp only [wrap64];omega
       have HM:=zA0 hm;have HJ:=zA0 hj;obtain ⟨k2,rfl⟩:∃ k2,gk = k2 + 1:=⟨gk - 1,by omega⟩;clear hz0 hm hlen hj;go_upto_region 17 with (fail)
       clear hz1;obtain ⟨Ak,ck,zk,zkf,hFk⟩:=HW.out.cell hk;obtain ⟨Am,cm,zm,zmf,hFm⟩:=HW.out.cell hmK;have HFk:=zA0 hFk;have HFm:=zA0 hFm;have HBWL:=zA0 (show bw < wr.heap.size from a0X HW.out.o);have hin:=b1B k (t.take j) rk HINK.out;have HLK:=zA0 (zF0 (hin.len k) HSM.out.u);have HLM:=zA0 (zF0 (hin.len m) HSM.out.u);clear hFk hFm hin;refine (wpIn_wide (n:=5)).1 ?_;refine wpIn_region_any mixedO ?_;refine a1X _ (fun _ =>undef) (fun done val Z =>TF 13 [10,12] (fun ix_ =>match ix_ with | 0 =>.slice (some ⟨bw,0,none⟩) K K | 1 =>.int .i64 (k:Nat) | 2 =>.slice (some ⟨bw,0,none⟩) K K | 3 =>.int .i64 (k:Nat) | 4 =>.pointer (some ⟨bw,k,none⟩) | 5 =>.slice Ak (wrRow k (t.take j) rk k).length ck | 6 =>.slice (some ⟨bw,0,none⟩) K K | 7 =>.int .i64 (m:Nat) | 8 =>.pointer (some ⟨bw,m,none⟩) | 9 =>.slice Am (wrRow k (t.take j) rk m).length cm | 11 =>.pointer (some ⟨bw,k,none⟩) | _ =>undef) (ST17 wr bw k (unionF (wrRow k (t.take j) rk k) (wrRow k (t.take j) rk m))) done val Z) rfl qF0 _ ?hz17 ?st17 ?en17
       case hz17 =>exact TF.start qB0 qB0 (a1I (zG0 _ _))
       case st17 =>
        intro i_ o done val a Z ho hdn hdep hag hS K2 hK2;have hm:i_ < 13:=by
         by_cases h:i_ < 13
         ·exact h
         ·rw [Array.getElem?_eq_none qV0] at ho;cases ho
        obtain rfl | rfl | rfl | rfl | rfl | rfl | rfl | rfl | rfl | rfl | rfl | rfl | rfl:i_ = 0∨i_ = 1∨i_ = 2∨i_ = 3∨i_ = 4∨i_ = 5∨i_ = 6∨i_ = 7∨i_ = 8∨i_ = 9∨i_ = 10∨i_ = 11∨i_ = 12:=by omega
        ·cases ho;have e5:a.eval (.tmp 5) = .slice (some ⟨bw,0,none⟩) K K:=hag.keep 5 rfl;refine a0F (i:=0) (r:=.slice (some ⟨bw,0,none⟩) K K) (w':=Z) rfl rfl (fun c h =>by cases h) rfl ?_ (hK2 _ _ (hS.const qB0 hdn qB0 rfl));have ec:∀ v,a.eval (.const v) = v:=fun _ =>rfl
         generalize a.eval = ev at *;simp [execOp,go_sem,ec,e5]
        ·cases ho;have e8:a.eval (.tmp 8) = .int .i64 (k:Nat):=hag.keep 8 rfl;refine a0F (i:=1) (r:=.int .i64 (k:Nat)) (w':=Z) rfl rfl (fun c h =>by cases h) rfl ?_ (hK2 _ _ (hS.const qB0 hdn qB0 rfl));have ec:∀ v,a.eval (.const v) = v:=fun _ =>rfl
         generalize a.eval = ev at *;simp [execOp,go_sem,ec,e8]
        ·cases ho;have e5:a.eval (.tmp 5) = .slice (some ⟨bw,0,none⟩) K K:=hag.keep 5 rfl;refine a0F (i:=2) (r:=.slice (some ⟨bw,0,none⟩) K K) (w':=Z) rfl rfl (fun c h =>by cases h) rfl ?_ (hK2 _ _ (hS.const qB0 hdn qB0 rfl));have ec:∀ v,a.eval (.const v) = v:=fun _ =>rfl
         generalize a.eval = ev at *;simp [execOp,go_sem,ec,e5]
        ·cases ho;have e8:a.eval (.tmp 8) = .int .i64 (k:Nat):=hag.keep 8 rfl;refine a0F (i:=3) (r:=.int .i64 (k:Nat)) (w':=Z) rfl rfl (fun c h =>by cases h) rfl ?_ (hK2 _ _ (hS.const qB0 hdn qB0 rfl));have ec:∀ v,a.eval (.const v) = v:=fun _ =>rfl
         generalize a.eval = ev at *;simp [execOp,go_sem,ec,e8]
        ·cases ho;have e66:=(hag.val_ (j:=2) (t:=66) rfl (hdep ⟨2,.data⟩ qE0 rfl)).trans (hS.vv 2 (hdep ⟨2,.data⟩ qE0 rfl) qB0)
         try dsimp only at e66
         have e67:=(hag.val_ (j:=3) (t:=67) rfl (hdep ⟨3,.data⟩ qE0 rfl)).trans (hS.vv 3 (hdep ⟨3,.data⟩ qE0 rfl) qB0)
         try dsimp only at e67
         refine a0F (i:=4) (r:=.pointer (some ⟨bw,k,none⟩)) (w':=Z) rfl rfl (fun c h =>by cases h) ?_ ?_ (hK2 _ _ (hS.const qB0 hdn qB0 rfl))
         ·generalize a.eval = ev at *;simp [Oper.about,resolve,Target.leads,Sem.run_pure,go_sem,e66,e67,zG1.2 hk]
         ·have ec:∀ v,a.eval (.const v) = v:=fun _ =>rfl
          generalize a.eval = ev at *;simp [execOp,go_sem,ec,e66,e67,zG1.2 hk]
        ·cases ho;have e68:=(hag.val_ (j:=4) (t:=68) rfl (hdep ⟨4,.data⟩ qE0 rfl)).trans (hS.vv 4 (hdep ⟨4,.data⟩ qE0 rfl) qB0)
         try dsimp only at e68
         obtain ⟨s_,hs_,hst_⟩:=hS.some (i:=5) qB0 hdn qB0;have hb:=ST17.below qD2 hst_;have zz0:=a1Q zk hb;refine a0F (i:=5) (r:=.slice Ak (wrRow k (t.take j) rk k).length ck) (w':=Z) rfl rfl (fun c h =>by cases h) rfl ?_ (hK2 _ _ (hS.const qB0 hdn qB0 rfl));have ec:∀ v,a.eval (.const v) = v:=fun _ =>rfl
         generalize a.eval = ev at *;simp [execOp,go_sem,ec,e68,zz0]
        ·cases ho;have e5:a.eval (.tmp 5) = .slice (some ⟨bw,0,none⟩) K K:=hag.keep 5 rfl;refine a0F (i:=6) (r:=.slice (some ⟨bw,0,none⟩) K K) (w':=Z) rfl rfl (fun c h =>by cases h) rfl ?_ (hK2 _ _ (hS.const qB0 hdn qB0 rfl));have ec:∀ v,a.eval (.const v) = v:=fun _ =>rfl
         generalize a.eval = ev at *;simp [execOp,go_sem,ec,e5]
        ·cases ho;have e11:a.eval (.tmp 11) = .int .i64 (m:Nat):=hag.keep 11 rfl;refine a0F (i:=7) (r:=.int .i64 (m:Nat)) (w':=Z) rfl rfl (fun c h =>by cases h) rfl ?_ (hK2 _ _ (hS.const qB0 hdn qB0 rfl));have ec:∀ v,a.eval (.const v) = v:=fun _ =>rfl
         generalize a.eval = ev at *;simp [execOp,go_sem,ec,e11]
        ·cases ho;have e70:=(hag.val_ (j:=6) (t:=70) rfl (hdep ⟨6,.data⟩ qE0 rfl)).trans (hS.vv 6 (hdep ⟨6,.data⟩ qE0 rfl) qB0)
         try dsimp only at e70
         have e71:=(hag.val_ (j:=7) (t:=71) rfl (hdep ⟨7,.data⟩ qE0 rfl)).trans (hS.vv 7 (hdep ⟨7,.data⟩ qE0 rfl) qB0)
         try dsimp only at e71
         refine a0F (i:=8) (r:=.pointer (some ⟨bw,m,none⟩)) (w':=Z) rfl rfl (fun c h =>by cases h) ?_ ?_ (hK2 _ _ (hS.const qB0 hdn qB0 rfl))
         ·generalize a.eval = ev at *;simp [Oper.about,resolve,Target.leads,Sem.run_pure,go_sem,e70,e71,zG1.2 hmK]
         ·have ec:∀ v,a.eval (.const v) = v:=fun _ =>rfl
          generalize a.eval = ev at *;simp [execOp,go_sem,ec,e70,e71,zG1.2 hmK]
        ·cases ho;have e72:=(hag.val_ (j:=8) (t:=72) rfl (hdep ⟨8,.data⟩ qE0 rfl)).trans (hS.vv 8 (hdep ⟨8,.data⟩ qE0 rfl) qB0)
         try dsimp only at e72
         obtain ⟨s_,hs_,hst_⟩:=hS.some (i:=9) qB0 hdn qB0;have hb:=ST17.below qD2 hst_;have zz0:=a1Q zm hb;refine a0F (i:=9) (r:=.slice Am (wrRow k (t.take j) rk m).length cm) (w':=Z) rfl rfl (fun c h =>by cases h) rfl ?_ (hK2 _ _ (hS.const qB0 hdn qB0 rfl));have ec:∀ v,a.eval (.const v) = v:=fun _ =>rfl
         generalize a.eval = ev at *;simp [execOp,go_sem,ec,e72,zz0]
        ·cases ho;have e69:=(hag.val_ (j:=5) (t:=69) rfl (hdep ⟨5,.data⟩ qE0 rfl)).trans (hS.vv 5 (hdep ⟨5,.data⟩ qE0 rfl) qB0)
         try dsimp only at e69
         have e73:=(hag.val_ (j:=9) (t:=73) rfl (hdep ⟨9,.data⟩ qE0 rfl)).trans (hS.vv 9 (hdep ⟨9,.data⟩ qE0 rfl) qB0)
         try dsimp only at e73
         have hst:=hS.get 0 qB0 hdn (.inl rfl);have hb:Below wr.heap.size wr Z:=hst;have hun:=a7D (wrRow k (t.take j) rk k) (wrRow k (t.take j) rk m) HLK.out HLM.out Ak Am ck cm Z (Kd.a0H (Kd.a4M HFk.out) hb) (Kd.a0H (Kd.a4M HFm.out) hb);refine a3L (i:=10) (f:=15) rfl rfl rfl (fun _ _ =>rfl) (R:=fun e w' =>∃ v,e = .returned v∧Kd.R Kd.string 9 w' Z.heap.size (fun _ =>True) v (unionF (wrRow k (t.take j) rk k) (wrRow k (t.take j) rk m))∧Below Z.heap.size Z w') ?_ ?_
         ·simp only [zK2,zI2,zN2,e69,e73];exact hun
         ·rintro e' w2 ⟨v2,rfl,hr,hb2⟩;refine ⟨v2,rfl,hK2 _ _ (hS.next 0 qB0 hdn (.inl rfl) (fun h =>absurd h qB0) (fun v' hv _ =>?_))⟩;exact ⟨hb.trans (hb2.mono hb.size),by rw [hv];exact Kd.a4J hr hb.size⟩
        ·cases ho;have e64:=(hag.val_ (j:=0) (t:=64) rfl (hdep ⟨0,.data⟩ qE0 rfl)).trans (hS.vv 0 (hdep ⟨0,.data⟩ qE0 rfl) qB0)
         try dsimp only at e64
         have e65:=(hag.val_ (j:=1) (t:=65) rfl (hdep ⟨1,.data⟩ qE0 rfl)).trans (hS.vv 1 (hdep ⟨1,.data⟩ qE0 rfl) qB0)
         try dsimp only at e65
         refine a0F (i:=11) (r:=.pointer (some ⟨bw,k,none⟩)) (w':=Z) rfl rfl (fun c h =>by cases h) ?_ ?_ (hK2 _ _ (hS.const qB0 hdn qB0 rfl))
         ·generalize a.eval = ev at *;simp [Oper.about,resolve,Target.leads,Sem.run_pure,go_sem,e64,e65,zG1.2 hk]
         ·have ec:∀ v,a.eval (.const v) = v:=fun _ =>rfl
          generalize a.eval = ev at *;simp [execOp,go_sem,ec,e64,e65,zG1.2 hk]
        ·cases ho;have e75:=(hag.val_ (j:=11) (t:=75) rfl (hdep ⟨11,.data⟩ qE0 rfl)).trans (hS.vv 11 (hdep ⟨11,.data⟩ qE0 rfl) qB0)
         try dsimp only at e75
         have e74:=hag.val_ (j:=10) (t:=74) rfl (hdep ⟨10,.data⟩ qE0 rfl);have hst:=hS.get 1 qB0 hdn (.inr (hdep ⟨10,.data⟩ qE0 rfl));obtain ⟨hb,hr1⟩:=hst;obtain ⟨Ao,co,ev0⟩:=Kd.a3D hr1;have ev1:val 10 = .slice Ao (unionF (wrRow k (t.take j) rk k) (wrRow k (t.take j) rk m)).length co:=ev0;rw [ev1] at e74;rw [ev0] at hr1;have zz0:=a1Q zk hb;have zzf:=a0K (a0P HW.out.o hb) (k)
         refine a1Z (i:=12) rfl rfl (fun c h =>by cases h) rfl (w':=Z.setCell ⟨bw,k,none⟩ (.slice Ao (unionF (wrRow k (t.take j) rk k) (wrRow k (t.take j) rk m)).length co)) ?_ (hK2 _ _ (hS.next 1 qB0 hdn (.inr (hdep ⟨10,.data⟩ qE0 rfl)) (fun _ i_ hi hni =>by
          match i_,hi with
          | 0,_ =>exact hdep ⟨0,.phase⟩ qE0 rfl
          | 1,_ =>exact hdep ⟨1,.phase⟩ qE0 rfl
          | 2,_ =>exact hdep ⟨2,.phase⟩ qE0 rfl
          | 3,_ =>exact hdep ⟨3,.phase⟩ qE0 rfl
          | 4,_ =>exact hdep ⟨4,.phase⟩ qE0 rfl
          | 5,_ =>exact hdep ⟨5,.phase⟩ qE0 rfl
          | 6,_ =>exact hdep ⟨6,.phase⟩ qE0 rfl
          | 7,_ =>exact hdep ⟨7,.phase⟩ qE0 rfl
          | 8,_ =>exact hdep ⟨8,.phase⟩ qE0 rfl
          | 9,_ =>exact hdep ⟨9,.phase⟩ qE0 rfl
          | 10,_ =>exact absurd qB0 hni
          | 11,_ =>exact hdep ⟨11,.data⟩ qE0 rfl
          | 12,_ =>exact absurd qB0 hni
          | q_ + 13,h =>omega) (fun v' _ _ =>⟨_,_,Z,rfl,hb,hr1⟩)))
         have ec:∀ v,a.eval (.const v) = v:=fun _ =>rfl
         generalize a.eval = ev at *;simp [execOp,go_sem,ec,e75,e74,zz0,zzf]
       case en17 =>
        intro Z done val hdn hS;simp only [putTmps,dstOf,zQ1,zR0,zI1,Nat.reduceAdd,zS1,zF1,zL1,zU0,zL0,zV0,zW0];obtain ⟨A3,c3,Z0,rfl,hb9,hr9⟩:=hS.last (hdn 12 qB0);have hw10:=(HW.out.below hb9).put HBWL.out hk hr9;have HFL9:=zA0 (Kd.a1F HFL.out hb9);have HFT9:=zA0 (Kd.a1F HFT.out hb9);clear hS hdn zk zkf zm zmf hb9 hr9;have ew:=b6G k t j hlt;rw [← HM.out] at ew;rw [← ew] at hw10;have HW10:=zA0 hw10;have HFL10:=zA0 (Kd.a8G (p:=⟨bw,k,none⟩) HFL9.out (fun _ hq =>hq) (.slice A3 (unionF (wrRow k (t.take j) rk k) (wrRow k (t.take j) rk m)).length c3));have HFT10:=zA0 (Kd.a8G (p:=⟨bw,k,none⟩) HFT9.out (fun _ hq =>hq) (.slice A3 (unionF (wrRow k (t.take j) rk k) (wrRow k (t.take j) rk m)).length c3));clear hw10 ew;go_wp2;go_roundg k2
        case measure =>exact zS0 _
        case rel =>exact ⟨j + 1,_,by rw [zY0,zJ1 1];exact HJ.out,by first | rw [hwj] | simp [hwj],HW10,HFL10,HFT10⟩
      ·have hje:j = t.length:=by omega
       have hw10:=HW.out;rw [hje,zN1,HT.out,HRK.out,← a8H] at hw10;have HW10:=zA0 hw10;clear hw10;go_wp2;go_roundg k1
       case measure =>exact zS0 _
       case rel =>exact ⟨k + 1,_,by rw [zY0,zJ1 1];exact hk',by first | rw [hw] | simp [hw],HW10,HFL⟩
    ·have hke:k = K:=by omega
     have hwF:=HW.out;rw [hke] at hwF;obtain ⟨rF,hrF⟩:∃ r,r = wrB tr K r1:=⟨_,rfl⟩;have hinF:InU (allOwn fs) rF:=by rw [hrF];exact b7F tr HIN1.out K
     have hfin:=HFIN2.out;rw [← hrF] at hwF hfin;have hp6:wr.heap[w.heap.size]? = some (.cells #[.slice A fs.length c] 24 (0,0)):=(hwF.fz _ HP5.out.2).trans HP5.out.1;have zp:wr.cell? ⟨w.heap.size,0,none⟩ = some (.slice A fs.length c):=(a0I hp6 0).trans rfl;have HWF:=zA0 hwF;have HINF:=zA0 hinF;have HFIN3:=zA0 hfin;clear hwF hinF hfin hp6 HW HFL HFIN2 hke;go_upto_region 22 with (fail)
     clear zp;obtain ⟨W3,hW3⟩:∃ W,W = wr:=⟨_,rfl⟩;have hwr3:Below W3.heap.size W3 wr:=by rw [hW3];exact zG0 _ _
     rw [← hW3] at HWF;have HBE:=zA0 hwr3;clear hwr3 hW3;go_loopg [12,81] fs.length (fun kq v12 v81 w' =>∃ (i:Nat) (o:Value),i + kq = fs.length∧o = v12∧v81 = .int .i64 (i:Nat)∧Hid (Below W3.heap.size W3 w')∧Hid (Kd.N k42 42 w' W3.heap.size (fun q =>W3.heap.size≤q) o ((sigsF fs).take i)))
     case atStart =>exact ⟨0,_,by omega,rfl,rfl,HBE,zA0 (by rw [zO2];exact Kd.N_nil _ _ _ _ _)⟩
     case round =>
      obtain ⟨i,v12,hi',rfl,rfl,HB,HN⟩:=hrel;clear HBE;by_cases hi:i < fs.length
      ·obtain ⟨ad,A1,c1,A2,c2,eA,x0,x1,x2,l1,g1,l2,g2⟩:=a6Q (Kd.a0H HC.out (HWF.out.be.trans (HB.out.mono HWF.out.be.size))) (i:Int) (zH0 i) (zW1.2 hi);subst eA;rw [zK0] at x0 x1 x2;obtain ⟨f,hf⟩:∃ f,f = a0V fs (i:Int):=⟨_,rfl⟩;rw [← hf] at x0 x1 x2 l1 g1 l2 g2;have hi0:(0:Int)≤(i:Int):=zH0 i;have hw:=pz i qC0;have hnK:=HNUM.out i hi;obtain ⟨k1,rfl⟩:∃ k1,gk = k1 + 1:=⟨gk - 1,by omega⟩;have hba:Below wr.heap.size wr (wr.alloc (.cells #[.string f.f0,.slice A1 f.f1.length c1,.slice A2 f.f2.length c2] 34)):=a0D (zG0 _ _) _;have HFE:=zA0 hf;have HB3:=zA0 (HB.out.trans (hba.mono HB.out.size));have HNA:=zA0 (Kd.a1P HN.out hba);have HNB:=zA0 (World.alloc_heap_new wr (.cells #[.string f.f0,.slice A1 f.f1.length c1,.slice A2 f.f2.length c2] 34));have HL1:=zA0 l1;clear hba g1 g2 l1 l2 hf HB HN;go_upto_region 24 with (fail)
       clear x0 x1 x2;generalize hbx:wr.heap.size = bx at HNB ⊢;clear hbx;generalize wr.alloc (.cells #[.string f.f0,.slice A1 f.f1.length c1,.slice A2 f.f2.length c2] 34) = Wa at HNA HB3 HNB ⊢;have zb0:Wa.cell? ⟨bx,0,none⟩ = some (.string f.f0):=(a0I HNB.out 0).trans rfl;have zb1:Wa.cell? ⟨bx,1,none⟩ = some (.slice A1 f.f1.length c1):=(a0I HNB.out 1).trans rfl;have hbo3:W3.heap[bo]? = some (.cells (ints g.length num) 3 (0,0)):=(HWF.out.fz bo HBO5.out.2).trans HBO5.out.1;have hig:i < g.length:=Nat.lt_of_lt_of_eq hi HGL.out.symm;have zo:W3.cell? ⟨bo,i,none⟩ = some (.int .i64 (num i:Nat)):=(a0I hbo3 i).trans (a2D _ hig);obtain ⟨Ar,cr,zw,zwf,hFr⟩:=HWF.out.cell hnK;have hn0:(0:Int)≤(num i:Int):=zH0 _;have HFR:=zA0 (Kd.a4N hFr);have HLN:=zA0 (zF0 (HINF.out.len (num i)) HSM.out.u);have HBX:=zA0 (a0X HNB.out);have hbx43:=HNB.out;have HBXC:=zA0 (show ∀ (Z:World) (q:Nat) (x:Value),Z.heap[bx]? = Wa.heap[bx]?→Wa.cell? ⟨bx,q,none⟩ = some x→Z.cell? ⟨bx,q,none⟩ = some x from fun Z q x h1 h2 =>(a0I (h1.trans hbx43) q).trans ((a0I hbx43 q).symm.trans h2))
       have HTS:=zA0 (show (sigsF fs).take (i + 1) = (sigsF fs).take i ++ [⟨f.f0,((f.f1.length:Nat):Int),rF (num i)⟩] from by
        have h1:i < (sigsF fs).length:=by rw [HFIN3.out];simpa using hi
        rw [zB1 h1]
        congr 2
        have h2:(sigsF fs)[i]? = some ⟨f.f0,((f.f1.length:Nat):Int),rF (num i)⟩:=by
         rw [HFIN3.out,List.getElem?_map,List.getElem?_range hi];rw [HFE.out];rfl
        rw [zD0 h1] at h2
        exact zC0 h2)
       have hi1:i≤1000:=zF0 (zD2 hi) hn;have HLO:=zA0 (zF0 (List.length_take_le i (sigsF fs)) hi1);clear hi1;obtain ⟨out,hout⟩:∃ o,o = (sigsF fs).take i:=⟨_,rfl⟩;rw [← hout] at HNA HTS HLO;have HNS:=HNA.out;clear hFr hbo3 hbx43 hout;refine (wpIn_wide (n:=5)).1 ?_;refine wpIn_region_any mixedO ?_;refine b1G _ (fun _ =>undef) (fun done val Z =>TF 18 [13,14,15,16,17] (fun ix_ =>match ix_ with | 0 =>v12 | 1 =>.pointer (some ⟨bx,0,none⟩) | 2 =>.string f.f0 | 3 =>.pointer (some ⟨bx,1,none⟩) | 4 =>.slice A1 f.f1.length c1 | 5 =>.int .i64 (f.f1.length:Nat) | 6 =>.slice (some ⟨bw,0,none⟩) K K | 7 =>.slice (some ⟨bo,0,none⟩) g.length g.length | 8 =>.int .i64 (i:Nat) | 9 =>.pointer (some ⟨bo,i,none⟩) | 10 =>.int .i64 (num i:Nat) | 11 =>.pointer (some ⟨bw,num i,none⟩) | 12 =>.slice Ar (rF (num i)).length cr | _ =>undef) (ST24 W3 Wa bx (rF (num i)) f.f0 f.f1.length out) done val Z) rfl qF0 _ ?hz24 ?st24 ?en24
       case hz24 =>exact TF.start qB0 qB0 (a1I (zG0 _ _))
       case st24 =>
        intro i_ o done val a Z ho hdn hdep hag hun hS K2 hK2;have hm:i_ < 18:=by
         by_cases h:i_ < 18
         ·exact h
         ·rw [Array.getElem?_eq_none qV0] at ho;cases ho
        obtain rfl | rfl | rfl | rfl | rfl | rfl | rfl | rfl | rfl | rfl | rfl | rfl | rfl | rfl | rfl | rfl | rfl | rfl:i_ = 0∨i_ = 1∨i_ = 2∨i_ = 3∨i_ = 4∨i_ = 5∨i_ = 6∨i_ = 7∨i_ = 8∨i_ = 9∨i_ = 10∨i_ = 11∨i_ = 12∨i_ = 13∨i_ = 14∨i_ = 15∨i_ = 16∨i_ = 17:=by omega
        ·cases ho;have e12:a.eval (.tmp 12) = v12:=hun.at 12 17 (hS.al 0 qB0 hdn qB0) rfl;refine a0F (i:=0) (r:=v12) (w':=Z) rfl rfl (fun c h =>by cases h) rfl ?_ (hK2 _ _ (hS.const qB0 hdn qB0 rfl));have ec:∀ v,a.eval (.const v) = v:=fun _ =>rfl
         generalize a.eval = ev at *;simp [execOp,go_sem,ec,e12]
        ·cases ho;have e14:a.eval (.tmp 14) = .pointer (some ⟨bx,0,none⟩):=hag.keep 14 rfl;refine a0F (i:=1) (r:=.pointer (some ⟨bx,0,none⟩)) (w':=Z) rfl rfl (fun c h =>by cases h) rfl ?_ (hK2 _ _ (hS.const qB0 hdn qB0 rfl));have ec:∀ v,a.eval (.const v) = v:=fun _ =>rfl
         generalize a.eval = ev at *;simp [execOp,go_sem,ec,e14]
        ·cases ho;have e87:=(hag.val_ (j:=1) (t:=87) rfl (hdep ⟨1,.data⟩ qE0 rfl)).trans (hS.vv 1 (hdep ⟨1,.data⟩ qE0 rfl) qB0)
         try dsimp only at e87
         obtain ⟨s_,hs_,hst_⟩:=hS.some (i:=2) qB0 hdn qB0;have hb:=ST24.cell HBX.out HB3.out hst_;have zz0:=HBXC.out Z 0 _ hb.2 zb0;refine a0F (i:=2) (r:=.string f.f0) (w':=Z) rfl rfl (fun c h =>by cases h) rfl ?_ (hK2 _ _ (hS.const qB0 hdn qB0 rfl));have ec:∀ v,a.eval (.const v) = v:=fun _ =>rfl
         generalize a.eval = ev at *;simp [execOp,go_sem,ec,e87,zz0]
        ·cases ho;have e14:a.eval (.tmp 14) = .pointer (some ⟨bx,0,none⟩):=hag.keep 14 rfl;refine a0F (i:=3) (r:=.pointer (some ⟨bx,1,none⟩)) (w':=Z) rfl rfl (fun c h =>by cases h) rfl ?_ (hK2 _ _ (hS.const qB0 hdn qB0 rfl));have ec:∀ v,a.eval (.const v) = v:=fun _ =>rfl
         generalize a.eval = ev at *;simp [execOp,go_sem,ec,e14]
        ·cases ho;have e89:=(hag.val_ (j:=3) (t:=89) rfl (hdep ⟨3,.data⟩ qE0 rfl)).trans (hS.vv 3 (hdep ⟨3,.data⟩ qE0 rfl) qB0)
         try dsimp only at e89
         obtain ⟨s_,hs_,hst_⟩:=hS.some (i:=4) qB0 hdn qB0;have hb:=ST24.cell HBX.out HB3.out hst_;have zz0:=HBXC.out Z 1 _ hb.2 zb1;refine a0F (i:=4) (r:=.slice A1 f.f1.length c1) (w':=Z) rfl rfl (fun c h =>by cases h) rfl ?_ (hK2 _ _ (hS.const qB0 hdn qB0 rfl));have ec:∀ v,a.eval (.const v) = v:=fun _ =>rfl
         generalize a.eval = ev at *;simp [execOp,go_sem,ec,e89,zz0]
        ·cases ho;have e90:=(hag.val_ (j:=4) (t:=90) rfl (hdep ⟨4,.data⟩ qE0 rfl)).trans (hS.vv 4 (hdep ⟨4,.data⟩ qE0 rfl) qB0)
         try dsimp only at e90
         refine a0F (i:=5) (r:=.int .i64 (f.f1.length:Nat)) (w':=Z) rfl rfl (fun c h =>by cases h) rfl ?_ (hK2 _ _ (hS.const qB0 hdn qB0 rfl));have ec:∀ v,a.eval (.const v) = v:=fun _ =>rfl
         generalize a.eval = ev at *;simp [execOp,go_sem,ec,e90]
        ·cases ho;have e5:a.eval (.tmp 5) = .slice (some ⟨bw,0,none⟩) K K:=hag.keep 5 rfl;refine a0F (i:=6) (r:=.slice (some ⟨bw,0,none⟩) K K) (w':=Z) rfl rfl (fun c h =>by cases h) rfl ?_ (hK2 _ _ (hS.const qB0 hdn qB0 rfl));have ec:∀ v,a.eval (.const v) = v:=fun _ =>rfl
         generalize a.eval = ev at *;simp [execOp,go_sem,ec,e5]
        ·cases ho;have e4:a.eval (.tmp 4) = .slice (some ⟨bo,0,none⟩) g.length g.length:=hag.keep 4 rfl;refine a0F (i:=7) (r:=.slice (some ⟨bo,0,none⟩) g.length g.length) (w':=Z) rfl rfl (fun c h =>by cases h) rfl ?_ (hK2 _ _ (hS.const qB0 hdn qB0 rfl));have ec:∀ v,a.eval (.const v) = v:=fun _ =>rfl
         generalize a.eval = ev at *;simp [execOp,go_sem,ec,e4]
        ·cases ho;have e13:a.eval (.tmp 13) = .int .i64 (i:Nat):=hag.keep 13 rfl;refine a0F (i:=8) (r:=.int .i64 (i:Nat)) (w':=Z) rfl rfl (fun c h =>by cases h) rfl ?_ (hK2 _ _ (hS.const qB0 hdn qB0 rfl));have ec:∀ v,a.eval (.const v) = v:=fun _ =>rfl
         generalize a.eval = ev at *;simp [execOp,go_sem,ec,e13]
        ·cases ho;have e93:=(hag.val_ (j:=7) (t:=93) rfl (hdep ⟨7,.data⟩ qE0 rfl)).trans (hS.vv 7 (hdep ⟨7,.data⟩ qE0 rfl) qB0)
         try dsimp only at e93
         have e94:=(hag.val_ (j:=8) (t:=94) rfl (hdep ⟨8,.data⟩ qE0 rfl)).trans (hS.vv 8 (hdep ⟨8,.data⟩ qE0 rfl) qB0)
         try dsimp only at e94
         refine a0F (i:=9) (r:=.pointer (some ⟨bo,i,none⟩)) (w':=Z) rfl rfl (fun c h =>by cases h) ?_ ?_ (hK2 _ _ (hS.const qB0 hdn qB0 rfl))
         ·generalize a.eval = ev at *;simp [Oper.about,resolve,Target.leads,Sem.run_pure,go_sem,e93,e94,zG1.2 hig]
         ·have ec:∀ v,a.eval (.const v) = v:=fun _ =>rfl
          generalize a.eval = ev at *;simp [execOp,go_sem,ec,e93,e94,zG1.2 hig]
        ·cases ho;have e95:=(hag.val_ (j:=9) (t:=95) rfl (hdep ⟨9,.data⟩ qE0 rfl)).trans (hS.vv 9 (hdep ⟨9,.data⟩ qE0 rfl) qB0)
         try dsimp only at e95
         obtain ⟨s_,hs_,hst_⟩:=hS.some (i:=10) qB0 hdn qB0;have hb:=ST24.cell HBX.out HB3.out hst_;have zz0:=a1Q zo hb.1;refine a0F (i:=10) (r:=.int .i64 (num i:Nat)) (w':=Z) rfl rfl (fun c h =>by cases h) rfl ?_ (hK2 _ _ (hS.const qB0 hdn qB0 rfl));have ec:∀ v,a.eval (.const v) = v:=fun _ =>rfl
         generalize a.eval = ev at *;simp [execOp,go_sem,ec,e95,zz0]
        ·cases ho;have e92:=(hag.val_ (j:=6) (t:=92) rfl (hdep ⟨6,.data⟩ qE0 rfl)).trans (hS.vv 6 (hdep ⟨6,.data⟩ qE0 rfl) qB0)
         try dsimp only at e92
         have e96:=(hag.val_ (j:=10) (t:=96) rfl (hdep ⟨10,.data⟩ qE0 rfl)).trans (hS.vv 10 (hdep ⟨10,.data⟩ qE0 rfl) qB0)
         try dsimp only at e96
         refine a0F (i:=11) (r:=.pointer (some ⟨bw,num i,none⟩)) (w':=Z) rfl rfl (fun c h =>by cases h) ?_ ?_ (hK2 _ _ (hS.const qB0 hdn qB0 rfl))
         ·generalize a.eval = ev at *;simp [Oper.about,resolve,Target.leads,Sem.run_pure,go_sem,e92,e96,zG1.2 hnK]
         ·have ec:∀ v,a.eval (.const v) = v:=fun _ =>rfl
          generalize a.eval = ev at *;simp [execOp,go_sem,ec,e92,e96,zG1.2 hnK]
        ·cases ho;have e97:=(hag.val_ (j:=11) (t:=97) rfl (hdep ⟨11,.data⟩ qE0 rfl)).trans (hS.vv 11 (hdep ⟨11,.data⟩ qE0 rfl) qB0)
         try dsimp only at e97
         obtain ⟨s_,hs_,hst_⟩:=hS.some (i:=12) qB0 hdn qB0;have hb:=ST24.cell HBX.out HB3.out hst_;have zz0:=a1Q zw hb.1;refine a0F (i:=12) (r:=.slice Ar (rF (num i)).length cr) (w':=Z) rfl rfl (fun c h =>by cases h) rfl ?_ (hK2 _ _ (hS.const qB0 hdn qB0 rfl));have ec:∀ v,a.eval (.const v) = v:=fun _ =>rfl
         generalize a.eval = ev at *;simp [execOp,go_sem,ec,e97,zz0]
        ·cases ho;have e98:=(hag.val_ (j:=12) (t:=98) rfl (hdep ⟨12,.data⟩ qE0 rfl)).trans (hS.vv 12 (hdep ⟨12,.data⟩ qE0 rfl) qB0)
         try dsimp only at e98
         have hst:Below Wa.heap.size Wa Z:=hS.get 0 qB0 hdn (.inl rfl);have hb3:Below W3.heap.size W3 Z:=HB3.out.trans (hst.mono HB3.out.size);have hcl:=c0E (rF (num i)) Ar cr Z (Kd.a4M (Kd.a4L HFR.out (fun q hq hlt =>hb3.block q hlt))) (zF0 HLN.out qB0);refine a3L (i:=13) (f:=32) rfl rfl rfl (fun _ _ =>rfl) (R:=fun e w' =>∃ v,e = .returned v∧w'.ownsRow Z.heap.size 9 1 v (rF (num i)).length ((rF (num i)).map Value.string)∧Below Z.heap.size Z w') ?_ ?_
         ·simp only [zK2,zI2,zN2,e98];exact hcl
         ·rintro e' w2 ⟨v2,rfl,hr,hb2⟩;have hr2:Kd.R Kd.string 9 w2 Z.heap.size (fun _ =>True) v2 (rF (num i)):=Kd.a2W hr (fun _ _ =>trivial);refine ⟨v2,rfl,hK2 _ _ (hS.next 0 qB0 hdn (.inl rfl) (fun h =>absurd h qB0) (fun v' hv _ =>?_))⟩;exact ⟨hst.trans (hb2.mono hst.size),by rw [hv];exact Kd.a4J hr2 hst.size⟩
        ·cases ho;have e88:=(hag.val_ (j:=2) (t:=88) rfl (hdep ⟨2,.data⟩ qE0 rfl)).trans (hS.vv 2 (hdep ⟨2,.data⟩ qE0 rfl) qB0)
         try dsimp only at e88
         have e91:=(hag.val_ (j:=5) (t:=91) rfl (hdep ⟨5,.data⟩ qE0 rfl)).trans (hS.vv 5 (hdep ⟨5,.data⟩ qE0 rfl) qB0)
         try dsimp only at e91
         have e99:=hag.val_ (j:=13) (t:=99) rfl (hdep ⟨13,.data⟩ qE0 rfl);obtain ⟨hb,hr1⟩:=hS.get 1 qB0 hdn (.inr (hdep ⟨13,.data⟩ qE0 rfl));obtain ⟨Ao,co,ev0⟩:=Kd.a3D hr1;have ev1:val 13 = .slice Ao (rF (num i)).length co:=ev0;rw [ev1] at e99;refine a0F (i:=14) (r:=.agg #[.string f.f0,.int .i64 (f.f1.length:Nat),.slice Ao (rF (num i)).length co]) (w':=Z) rfl rfl (fun c h =>by cases h) rfl ?_ (hK2 _ _ (hS.next 1 qB0 hdn (.inr (hdep ⟨13,.data⟩ qE0 rfl)) (fun h =>absurd h qB0) (fun v' hv hlt =>?_)))
         ·have ec:∀ v,a.eval (.const v) = v:=fun _ =>rfl
          generalize a.eval = ev at *;simp [execOp,go_sem,ec,e88,e91,e99]
         ·have e0:v' 0 = val 13:=hlt 0 qB0;exact ⟨hb,by rw [e0];exact hr1,by rw [hv,e0,ev1]⟩
        ·cases ho;have e100:=hag.val_ (j:=14) (t:=100) rfl (hdep ⟨14,.data⟩ qE0 rfl);obtain ⟨hb,hr1,hv1⟩:=hS.get 2 qB0 hdn (.inr (hdep ⟨14,.data⟩ qE0 rfl));obtain ⟨Ao,co,ev0⟩:=Kd.a3D hr1;rw [ev0] at hr1 hv1;have ev1:val 14 = .agg #[.string f.f0,.int .i64 (f.f1.length:Nat),.slice Ao (rF (num i)).length co]:=hv1;rw [ev1] at e100;refine a0F (i:=15) (r:=.slice (some ⟨Z.heap.size,0,none⟩) 1 1) (w':=Z.alloc (.cells #[.string f.f0,.int .i64 (f.f1.length:Nat),.slice Ao (rF (num i)).length co] 42)) rfl rfl (fun c h =>by cases h) rfl ?_ (hK2 _ _ (hS.next 2 qB0 hdn (.inr (hdep ⟨14,.data⟩ qE0 rfl)) (fun h =>absurd h qB0) (fun v' hv _ =>⟨Ao,co,Z,rfl,hv,hb,hr1⟩)));have ec:∀ v,a.eval (.const v) = v:=fun _ =>rfl
         generalize a.eval = ev at *;simp [execOp,go_sem,ec,e100]
        ·cases ho;have e86:=(hag.val_ (j:=0) (t:=86) rfl (hdep ⟨0,.data⟩ qE0 rfl)).trans (hS.vv 0 (hdep ⟨0,.data⟩ qE0 rfl) qB0)
         try dsimp only at e86
         have e101:=hag.val_ (j:=15) (t:=101) rfl (hdep ⟨15,.data⟩ qE0 rfl);obtain ⟨Ao,co,Z0,hZ,ev2,hb,hr1⟩:=hS.get 3 qB0 hdn (.inr (hdep ⟨15,.data⟩ qE0 rfl));subst hZ;have ev3:val 15 = .slice (some ⟨Z0.heap.size,0,none⟩) 1 1:=ev2;rw [ev3] at e101;have hr2:Kd.F Kd.string Z0 (fun k =>Wa.heap.size≤k) Ao (rF (num i)).length (rF (num i)):=Kd.N_F (Kd.R_N (Kd.a5C rfl hr1 (fun k hk =>a1O (Kd.a2C hr1) k hk)));have hfk:=k42_mkF Z0 (fun k =>Wa.heap.size≤k) (⟨f.f0,((f.f1.length:Nat):Int),rF (num i)⟩:S42) (c2:=co) (Kd.a2V hr1).2.1 hr2;have hno:=Kd.a1P HNS hb;have hob:Below W3.heap.size W3 Z0:=HB3.out.trans (hb.mono HB3.out.size);have hown:∀ k,v12.ownBlock = some k→k < Wa.heap.size:=fun k hk =>by obtain ⟨_,rows,_,hR,_⟩:=HNS;obtain ⟨_,ho⟩:=Kd.c0R hR;exact a5W ho k hk
         refine a3S (i:=16) (s:=.tmp 86) (x:=.tmp 101) (t:=28) (t':=28) rfl rfl rfl ?_;refine Kd.b2G k42 W3.heap.size (w0:=W3) rfl (.tmp 86) (.tmp 101) 28 42 (.agg #[(.string ⟨#[]⟩),(.int .i64 0),(.slice none 0 0)]) 48 rfl Tryz.underlying28 info42 rfl qB0 qB0 v12 out ⟨f.f0,((f.f1.length:Nat):Int),rF (num i)⟩ [.string f.f0,.int .i64 ((f.f1.length:Nat):Int),.slice Ao (rF (num i)).length co] (fun q =>W3.heap.size≤q) (fun k =>Wa.heap.size≤k) e86 e101 hfk (fun k hk =>⟨zF0 HB3.out.size hk,fun e =>absurd (hown k e.symm) (zD3.2 hk)⟩) (fun k hk =>zF0 hob.size hk) hno hob hob.size (by have:=HLO.out;omega) ?_;intro v1 w1 hn1 hb1 hg1 _;refine hK2 v1 w1 (hS.next 3 qB0 hdn (.inr (hdep ⟨15,.data⟩ qE0 rfl)) (fun h =>absurd h qB0) (fun v' hv _ =>⟨hb1,?_,by rw [hv];exact hn1⟩));have hne:some bx≠v12.ownBlock:=Kd.N_ne HNS HNB.out qB0;rw [hg1.block bx (zP1 HBX.out hb.size) hne];exact hb.block bx HBX.out
        ·cases ho;have e102:=hag.val_ (j:=16) (t:=102) rfl (hdep ⟨16,.data⟩ qE0 rfl);have hst:=hS.get 4 qB0 hdn (.inr (hdep ⟨16,.data⟩ qE0 rfl));obtain ⟨hb,hbxx,hn1⟩:=hst
         refine a0F (i:=17) (r:=val 16) (w':=Z) rfl rfl (fun c h =>by cases h) rfl ?_ (hK2 _ _ (hS.next 4 qB0 hdn (.inr (hdep ⟨16,.data⟩ qE0 rfl)) (fun _ i_ hi hni =>by
           match i_,hi with
           | 0,_ =>exact hdep ⟨0,.phase⟩ qE0 rfl
           | 1,_ =>exact hdep ⟨1,.phase⟩ qE0 rfl
           | 2,_ =>exact hdep ⟨2,.phase⟩ qE0 rfl
           | 3,_ =>exact hdep ⟨3,.phase⟩ qE0 rfl
           | 4,_ =>exact hdep ⟨4,.phase⟩ qE0 rfl
           | 5,_ =>exact hdep ⟨5,.phase⟩ qE0 rfl
           | 6,_ =>exact hdep ⟨6,.phase⟩ qE0 rfl
           | 7,_ =>exact hdep ⟨7,.phase⟩ qE0 rfl
           | 8,_ =>exact hdep ⟨8,.phase⟩ qE0 rfl
           | 9,_ =>exact hdep ⟨9,.phase⟩ qE0 rfl
           | 10,_ =>exact hdep ⟨10,.phase⟩ qE0 rfl
           | 11,_ =>exact hdep ⟨11,.phase⟩ qE0 rfl
           | 12,_ =>exact hdep ⟨12,.phase⟩ qE0 rfl
           | 13,_ =>exact absurd qB0 hni
           | 14,_ =>exact absurd qB0 hni
           | 15,_ =>exact absurd qB0 hni
           | 16,_ =>exact absurd qB0 hni
           | 17,_ =>exact absurd qB0 hni
           | q_ + 18,h =>omega) (fun v' hv _ =>⟨hb,hbxx,by rw [hv];exact hn1⟩)))
         have ec:∀ v,a.eval (.const v) = v:=fun _ =>rfl
         generalize a.eval = ev at *;simp [execOp,go_sem,ec,e102]
       case en24 =>
        intro Z done val hdn hS;simp only [putTmps,dstOf,zQ1,zR0,zI1,Nat.reduceAdd,zS1,zF1,zL1,zU0,zL0,zV0,zW0];have hst:=hS.last (hdn 17 qB0);obtain ⟨hb9,_,hn9⟩:=hst;have HB9:=zA0 hb9;have HN9:=zA0 hn9;clear hS hdn zb0 zb1 zo zw zwf hb9 hn9;go_wp2;go_roundg k1
        case measure =>exact zS0 _
        case rel =>exact ⟨i + 1,_,by rw [zY0,zJ1 1];exact hi',rfl,by first | rw [hw] | simp [hw],HB9,by rw [HTS.out];exact HN9⟩
      ·have hie:i = fs.length:=by omega
       have hn9:=HN.out;have hl9:(sigsF fs).length = fs.length:=by rw [HFIN3.out];simp
       rw [hie,← hl9,zN1] at hn9;have hB9:Below w.heap.size w wr:=HWF.out.be.trans (HB.out.mono HWF.out.be.size);have hn10:=Kd.a3T (ok':=fun q =>w.heap.size≤q) (Kd.N_lower hn9 HWF.out.be.size) (fun q hq =>zF0 HWF.out.be.size hq);have HN10:=zA0 hn10;have jR:=zA0 hB9;clear hn9 hn10 hB9 HN HB hl9;go_wp2
       first
        | exact ⟨_,rfl,HN10.out,jR.out⟩
        | exact ⟨_,rfl,_,rfl,HN10.out,jR.out⟩
        | (go_ret;exact ⟨_,rfl,HN10.out,jR.out⟩)
        | exact (0:Nat)
theorem sizePR:(Tryz.prog.info? 24).map (·.size) = some 1:=by kernel_rfl
theorem sizeFT:(Tryz.prog.info? 52).map (·.size) = some 2:=by kernel_rfl
theorem p14_lay (w:World):Calls Tryz.prog 26 #[.string a2G] w fun x w' =>∃ A c,x = .returned (.tuple #[.agg #[.slice A 3 c],.agg #[.int .i64 0,.int .i64 0]])∧3≤c∧Kd.F k34 w' (fun k =>w.heap.size≤k) A 3 a1H∧Below w.heap.size w w' :=
 (b8O w).mono fun e w' ⟨v,he,hR,hb⟩ =>by
  obtain ⟨A,c,rfl,h1,h2⟩:=hR.tell;exact ⟨A,c,he,h1,h2,hb⟩
theorem c0I:callsF a1H = [[1],[0],[]]:=by
 simp [callsF,callsOf,a1H,flat,applies,coll,calledBy,funIx,firstIx,allIx,srt,Lib.compact,List.range_succ]
 <;> (refine ⟨?_,?_,?_⟩ <;> first | rfl | decide)
def b0Q:Nat→List ByteArray
 | 0 =>[(⟨#[112]⟩:ByteArray)]
 | 1 =>[(⟨#[113]⟩:ByteArray)]
 | _ =>[]
theorem a5A (z:Nat) (hz:z < 3) (x:ByteArray):x ∈ ownF (fnAt a1H z) ↔ x ∈ b0Q z:=by
 rw [b5M]
 match z,hz with
 | 0,_ =>simp [b0Q,fnAt,a0V,a1H,flat,ownG]
 | 1,_ =>simp [b0Q,fnAt,a0V,a1H,flat,ownG]
 | 2,_ =>simp [b0Q,fnAt,a0V,a1H,flat,ownG]
theorem adj14:adjF (callsF a1H) 0 = [1]∧adjF (callsF a1H) 1 = [0]∧adjF (callsF a1H) 2 = []:=by
 rw [c0I];exact ⟨rfl,rfl,rfl⟩
theorem rch14 {i z:Nat} (r:Rch (adjF (callsF a1H)) i z) (hi:i < 3):(i = 2→z = 2)∧(i < 2→z < 2):=by
 obtain ⟨a0,a1,a2⟩:=adj14;constructor
 ·rintro rfl;exact r.closed (fun v =>v = 2) (fun v hv y hy =>by rw [hv,a2] at hy;cases hy) rfl
 ·intro h;refine r.closed (fun v =>v < 2) (fun v hv y hy =>?_) h
  match v,hv with
  | 0,_ =>rw [a0] at hy;simp at hy;omega
  | 1,_ =>rw [a1] at hy;simp at hy;omega
def wr14:Nat→List ByteArray
 | 0 =>[(⟨#[112]⟩:ByteArray),(⟨#[113]⟩:ByteArray)]
 | 1 =>[(⟨#[112]⟩:ByteArray),(⟨#[113]⟩:ByteArray)]
 | _ =>[]
theorem wrF14 (i:Nat) (hi:i < 3):wrF a1H (numN (callsF a1H) i) = wr14 i:=by
 obtain ⟨a0,a1,a2⟩:=adj14;have r01:Rch (adjF (callsF a1H)) 0 1:=.one (by rw [a0];simp);have r10:Rch (adjF (callsF a1H)) 1 0:=.one (by rw [a1];simp);refine RisB.ext (b1C _) ?_ (fun x =>?_)
 ·match i,hi with
  | 0,_ =>unfold RisB;decide
  | 1,_ =>unfold RisB;decide
  | 2,_ =>exact RisB.nil
 ·rw [b1D qB0 (show i < a1H.length from hi)];constructor
  ·rintro ⟨z,hz,r,hx⟩;rw [a5A z hz] at hx;have h:=rch14 r hi
   match i,hi,z,hz with
   | 0,_,0,_ =>exact zQ0.2 (.inl (by simpa [b0Q] using hx))
   | 0,_,1,_ =>exact zP0 _ hx
   | 1,_,0,_ =>exact zQ0.2 (.inl (by simpa [b0Q] using hx))
   | 1,_,1,_ =>exact zP0 _ hx
   | 0,_,2,_ =>cases hx
   | 1,_,2,_ =>cases hx
   | 2,_,2,_ =>cases hx
   | 2,_,0,_ =>exact absurd (h.1 rfl) qB0
   | 2,_,1,_ =>exact absurd (h.1 rfl) qB0
  ·intro hx
   match i,hi with
   | 0,_ =>
    rcases zQ0.1 hx with e | e
    ·exact ⟨0,by decide,.refl _,(a5A 0 qB0 x).2 (by rw [e];exact zN0)⟩
    ·exact ⟨1,by decide,r01,(a5A 1 qB0 x).2 e⟩
   | 1,_ =>
    rcases zQ0.1 hx with e | e
    ·exact ⟨0,by decide,r10,(a5A 0 qB0 x).2 (by rw [e];exact zN0)⟩
    ·exact ⟨1,by decide,.refl _,(a5A 1 qB0 x).2 e⟩
   | 2,_ =>cases hx
def a7G:List S42:=[⟨(⟨#[102]⟩:ByteArray),1,[(⟨#[112]⟩:ByteArray),(⟨#[113]⟩:ByteArray)]⟩,⟨(⟨#[103]⟩:ByteArray),0,[(⟨#[112]⟩:ByteArray),(⟨#[113]⟩:ByteArray)]⟩,⟨(⟨#[104]⟩:ByteArray),0,[]⟩]
theorem sig14:sigsF a1H = a7G:=by
 unfold sigsF;rw [show List.range a1H.length = [0,1,2] from rfl];simp only [zI2,zN2];rw [wrF14 0 qB0,wrF14 1 qB0,wrF14 2 qB0]
 rfl
theorem sm14:SmG a1H:=by
 refine ⟨by decide,fun f hf =>?_,?_⟩
 ·simp only [a1H,zQ0,List.not_mem_nil,or_false] at hf;rcases hf with rfl | rfl | rfl <;> simp [flat]
 ·simp [allOwn,a1H,flat,ownG]
theorem sigs14 (A:Option Addr) (c:Nat) (w:World) (hc:3≤c) (hC:Kd.C k34 w A 3 a1H):Calls Tryz.prog 9 #[.agg #[.slice A 3 c]] w fun e w' =>∃ A c,e = .returned (.slice A 3 c)∧3≤c∧Kd.C k42 w' A 3 a7G∧Below w.heap.size w w':=by
 refine (b1M w a1H A c hc hC sm14).mono ?_;rintro e w' ⟨v,rfl,hN,hb⟩;rw [sig14] at hN;obtain ⟨A',c',rfl⟩:=Kd.a3U hN;obtain ⟨_,h1,h2⟩:=Kd.a3Q hN;exact ⟨A',c',rfl,h1,h2,hb⟩
theorem b2S {w:World} {A:Option Addr} (h:Kd.C k42 w A 3 a7G):∃ ad V d,A = some ad∧w.cell? ((ad.add 0).add 1) = some (.int .i64 1)∧w.cell? ((ad.add 0).add 2) = some (.slice V 2 d)∧2≤d∧Kd.C Kd.string w V 2 [(⟨#[112]⟩:ByteArray),(⟨#[113]⟩:ByteArray)]:=by
 obtain ⟨ad,V,d,e,y0,y1,y2,m,n⟩:=b1A h 0 qB0 qB0;exact ⟨ad,V,d,e,y1,y2,m,n⟩
theorem b7T {w:World} {A:Option Addr} (h:Kd.C k42 w A 3 a7G):∃ ad V d,A = some ad∧w.cell? ((ad.add 3).add 1) = some (.int .i64 0)∧w.cell? ((ad.add 3).add 2) = some (.slice V 2 d)∧2≤d∧Kd.C Kd.string w V 2 [(⟨#[112]⟩:ByteArray),(⟨#[113]⟩:ByteArray)]:=by
 obtain ⟨ad,V,d,e,y0,y1,y2,m,n⟩:=b1A h 1 qB0 qB0;exact ⟨ad,V,d,e,y1,y2,m,n⟩
theorem b7S {w:World} {A:Option Addr} (h:Kd.C k42 w A 3 a7G):∃ ad V d,A = some ad∧w.cell? ((ad.add 6).add 1) = some (.int .i64 0)∧w.cell? ((ad.add 6).add 2) = some (.slice V 0 d)∧0≤d∧Kd.C Kd.string w V 0 []:=by
 obtain ⟨ad,V,d,e,y0,y1,y2,m,n⟩:=b1A h 2 qB0 qB0;exact ⟨ad,V,d,e,y1,y2,m,n⟩
theorem own14_is:ownF (a0V a1H 0) = [(⟨#[112]⟩:ByteArray)] :=
 RisB.ext (b0P _) (by unfold RisB;decide) (fun x =>a5A 0 qB0 x)
theorem own14 (A1 A2:Option Addr) (c1 c2:Nat) (w:World) (l2:(a0V a1H 0).f2.length≤c2) (g2:Kd.C k65 w A2 (a0V a1H 0).f2.length (a0V a1H 0).f2) :
  Calls Tryz.prog 11 #[.agg #[.string (a0V a1H 0).f0,.slice A1 (a0V a1H 0).f1.length c1,.slice A2 (a0V a1H 0).f2.length c2]] w fun e w' =>∃ A c,e = .returned (.slice A 1 c)∧1≤c∧Kd.C Kd.string w' A 1 [(⟨#[112]⟩:ByteArray)]∧Below w.heap.size w w':=by
 refine (b8S w (a0V a1H 0) A1 A2 c1 c2 l2 g2 (sm14.b _ zN0)).mono ?_;rintro e w' ⟨v,rfl,ho,hb⟩;rw [own14_is] at ho;obtain ⟨A,c,rfl,h1,h2⟩:=Kd.a2R ho;exact ⟨A,c,rfl,h1,h2,hb⟩
theorem all14 (A:Option Addr) (c:Nat) (w:World) (hC:Kd.C k42 w A 3 a7G):Calls Tryz.prog 17 #[.slice A 3 c] w fun e w' =>∃ A c,e = .returned (.slice A 2 c)∧2≤c∧Kd.C Kd.string w' A 2 [(⟨#[112]⟩:ByteArray),(⟨#[113]⟩:ByteArray)]∧Below w.heap.size w w':=by
 refine (all_any a7G A c w hC qB0 qB0).mono ?_;rintro e w' ⟨v,rfl,ho,hb⟩
 have e1:allF a7G = [(⟨#[112]⟩:ByteArray),(⟨#[113]⟩:ByteArray)]:=RisB.ext (a4C _ _) (by unfold RisB;decide) (fun x =>by
  unfold allF;rw [a5R];simp [a7G]
  try grind)
 rw [e1] at ho;obtain ⟨A,c,rfl,h1,h2⟩:=Kd.a2R ho;exact ⟨A,c,rfl,h1,h2,hb⟩
theorem addr14 (a:Addr):a.add 0 = a:=by
 unfold Addr.add;simp
theorem b4P {w:World} {g:Nat} {a b:ByteArray} (h:w.heap[g]? = some (.cells #[.string a,.string b] 9 (0,0))):Kd.C Kd.string w (some ⟨g,0,none⟩) 2 [a,b]:=by
 refine Kd.a5D (d:=ByteArray.empty) ⟨rfl,by decide,fun _ =>⟨_,rfl,fun j hj =>?_⟩⟩;rw [a3P,zZ1,a0I h j]
 match j,hj with
 | 0,_ =>rfl
 | 1,_ =>rfl
theorem lit14_1 {w:World} {g:Nat} {a:ByteArray} (h:w.heap[g]? = some (.cells #[.string a] 9 (0,0))):Kd.C Kd.string w (some ⟨g,0,none⟩) 1 [a]:=by
 refine Kd.a5D (d:=ByteArray.empty) ⟨rfl,by decide,fun _ =>⟨_,rfl,fun j hj =>?_⟩⟩;rw [a3P,zZ1,a0I h j]
 match j,hj with
 | 0,_ =>rfl
theorem a9P (w:World):Calls Tryz.prog 8 #[] w fun e w' =>e = .returned (.bool true)∧Below w.heap.size w w':=by
 have HB:=zA0 (zG0 w.heap.size w);go_enter Tryz.func8,Tryz.ntmps8
 go_wp2_with (first
  | (go_at_call 26;(with_reducible refine (a2U (args':=#[.string a2G]) ?hs (p14_lay _)).mono ?_);(case hs =>rfl);rintro x w1 ⟨AP,cP,rfl,hcc,hF,hb⟩;have HB:=hs_ HB hb;obtain ⟨loP,hlo⟩:∃ lo,lo = w1.heap.size:=⟨_,rfl⟩;have FP:=zA0 (Kd.a1Y (ok':=fun k =>k < loP) (Kd.a4N hF) (fun k hk =>by rw [hlo];exact hk.2));have HLOP:=zA0 (show loP≤w1.heap.size by rw [hlo];exact zJ0 _);have HCP:=zA0 hcc;clear hcc hF hlo;clear hb)
  | ((with_reducible refine a0N (N:=1) rfl ?_);refine bx_ 1 #[.slice none 0 0] 24 (h:=?_);intro g1 hg w1 hx hb;have G1:=gz_ hg HB;have UP_1:=zA0 (show loP≤g1 by rw [hg];exact HLOP.out);have FP:=zA0 (Kd.a1F FP.out hb);have HLOP:=zA0 (zF0 HLOP.out hb.size);have HB:=hs_ HB hb;have B1:=zA0 (One.mk hx);clear hx hb hg;have k1:=B1.out.q)
  | ((with_reducible refine a0N (N:=2) rfl ?_);refine bx_ 2 #[.int .i64 0,.int .i64 0] 52 (h:=?_);intro g2 hg w1 hx hb;clear k1;have kJ:=zA0 (a0G B1.out.b hg);have G2:=gz_ hg HB;have UP_2:=zA0 (show loP≤g2 by rw [hg];exact HLOP.out);have FP:=zA0 (Kd.a1F FP.out hb);have HLOP:=zA0 (zF0 HLOP.out hb.size);have B1:=zA0 (B1.out.below hb);have HB:=hs_ HB hb;have B2:=zA0 (Two.mk hx);clear hx hb hg;have k1:=B1.out.q;have k2:=B2.out.q)
  | ((with_reducible refine a0M (t:=24) (p:=1) rfl ?_);refine sx_ [.slice AP 3 cP] B1.out.b sizePR (h:=?_);intro w1 hx hp;clear k1;clear k2;have B2:=zA0 (B2.out.far' hp (Ne.symm kJ.out));have FP:=zA0 (a1T FP.out hp (zD3.2 UP_1.out));have HB:=zA0 (hp.below _ G1.out HB.out);have B1:=zA0 (One.mk hx);clear hx hp;have k1:=B1.out.q;have k2:=B2.out.q)
  | ((with_reducible refine a0M (t:=52) (p:=2) rfl ?_);refine sx_ [.int .i64 0,.int .i64 0] B2.out.b sizeFT (h:=?_);intro w1 hx hp;clear k1;clear k2;have B1:=zA0 (B1.out.far' hp (kJ.out));have FP:=zA0 (a1T FP.out hp (zD3.2 UP_2.out));have HB:=zA0 (hp.below _ G2.out HB.out);have B2:=zA0 (Two.mk hx);clear hx hp;have k1:=B1.out.q;have k2:=B2.out.q)
  | (go_at_call 9;with_reducible refine (sigs14 AP cP _ HCP.out (Kd.a4M FP.out)).mono ?_;rintro x w1 ⟨AS,cS,rfl,hcS,hS,hb⟩;clear k1;clear k2;have FP:=zA0 (Kd.a1F FP.out hb);have B1:=zA0 (B1.out.below hb);have B2:=zA0 (B2.out.below hb);have HB:=hs_ HB hb;have KS:=zA0 hS;have HCS:=zA0 hcS;clear hS hcS;((obtain ⟨ad0,V0,d0,eS0,y10,y20,m0,n0⟩:=b2S KS.out;cases eS0;simp [Addr.add] at y10 y20;have HCL0:=zA0 m0;have KL0:=zA0 n0;clear m0 n0;skip));clear hb;have k1:=B1.out.q;have k2:=B2.out.q)
  | ((with_reducible refine a0N (N:=23) rfl ?_);refine a3G qF2 ?_;refine a3I rfl (N:=23) rfl (n:=2) (cs:=#[.string (⟨#[112]⟩:ByteArray),.string (⟨#[113]⟩:ByteArray)]) (t:=9) ?hr ?_;(case hr =>first | (go_simp;done) | (go_simp;rfl));intro g23 hg w1 hx hb;clear k1;clear k2;have FP:=zA0 (Kd.a1F FP.out hb);have B1:=zA0 (B1.out.below hb);have B2:=zA0 (B2.out.below hb);have KS:=zA0 (Kd.a0H KS.out hb);have KL0:=zA0 (Kd.a0H KL0.out hb);have HB:=hs_ HB hb;have B23:=zA0 (RowB.mk hx);clear hx hb hg;have k1:=B1.out.q;have k2:=B2.out.q)
  | (go_at_call 10;((have hL:=b4P B23.out.b));(refine (a2U ?ha (r14_Texts.calls 40 V0 d0 [(⟨#[112]⟩:ByteArray),(⟨#[113]⟩:ByteArray)] (some ⟨g23,0,none⟩) 2 [(⟨#[112]⟩:ByteArray),(⟨#[113]⟩:ByteArray)] true _ KL0.out HCL0.out hL qB0 qF0)).mono ?_);(case ha =>(simp;done));((rintro x w1 ⟨rfl,hd⟩;have hb:=hd.below;clear hd hL;clear k1;clear k2;have FP:=zA0 (Kd.a1F FP.out hb);have B1:=zA0 (B1.out.below hb);have B2:=zA0 (B2.out.below hb);have KS:=zA0 (Kd.a0H KS.out hb);have KL0:=zA0 (Kd.a0H KL0.out hb);have B23:=zA0 (B23.out.below hb);have HB:=hs_ HB hb;clear hb;(obtain ⟨ad1,V1,d1,eS1,y11,y21,m1,n1⟩:=b7T KS.out;cases eS1;simp [Addr.add] at y11 y21;have HCL1:=zA0 m1;have KL1:=zA0 n1;clear m1 n1;skip);have k1:=B1.out.q;have k2:=B2.out.q)))
  | ((with_reducible refine a0N (N:=31) rfl ?_);refine a3G qF2 ?_;refine a3I rfl (N:=31) rfl (n:=2) (cs:=#[.string (⟨#[112]⟩:ByteArray),.string (⟨#[113]⟩:ByteArray)]) (t:=9) ?hr ?_;(case hr =>first | (go_simp;done) | (go_simp;rfl));intro g31 hg w1 hx hb;clear k1;clear k2;have FP:=zA0 (Kd.a1F FP.out hb);have B1:=zA0 (B1.out.below hb);have B2:=zA0 (B2.out.below hb);have KS:=zA0 (Kd.a0H KS.out hb);have KL0:=zA0 (Kd.a0H KL0.out hb);have B23:=zA0 (B23.out.below hb);have KL1:=zA0 (Kd.a0H KL1.out hb);have HB:=hs_ HB hb;have B31:=zA0 (RowB.mk hx);clear hx hb hg;have k1:=B1.out.q;have k2:=B2.out.q)
  | (go_at_call 10;((have hL:=b4P B31.out.b));(refine (a2U ?ha (r14_Texts.calls 40 V1 d1 [(⟨#[112]⟩:ByteArray),(⟨#[113]⟩:ByteArray)] (some ⟨g31,0,none⟩) 2 [(⟨#[112]⟩:ByteArray),(⟨#[113]⟩:ByteArray)] true _ KL1.out HCL1.out hL qB0 qF0)).mono ?_);(case ha =>(simp;done));((rintro x w1 ⟨rfl,hd⟩;have hb:=hd.below;clear hd hL;clear k1;clear k2;have FP:=zA0 (Kd.a1F FP.out hb);have B1:=zA0 (B1.out.below hb);have B2:=zA0 (B2.out.below hb);have KS:=zA0 (Kd.a0H KS.out hb);have KL0:=zA0 (Kd.a0H KL0.out hb);have B23:=zA0 (B23.out.below hb);have KL1:=zA0 (Kd.a0H KL1.out hb);have B31:=zA0 (B31.out.below hb);have HB:=hs_ HB hb;clear hb;(obtain ⟨ad2,V2,d2,eS2,y12,y22,m2,n2⟩:=b7S KS.out;cases eS2;simp [Addr.add] at y12 y22;have HCL2:=zA0 m2;have KL2:=zA0 n2;clear m2 n2;obtain ⟨ad3,V3,d3,eS3,y13,y23,m3,n3⟩:=b2S KS.out;cases eS3;simp [Addr.add] at y13 y23;have HCL3:=zA0 m3;have KL3:=zA0 n3;clear m3 n3;obtain ⟨adF,A1,c1,A2,c2,eF,x0,x1,x2,l1,g1,l2,g2⟩:=a6Q (Kd.a4M FP.out) 0 qB0 qB0;subst eF;simp only [Int.toNat_zero,Nat.zero_mul,addr14] at x0 x1 x2;have L1:=zA0 l1;have K1:=zA0 g1;have L2:=zA0 l2;have K2:=zA0 g2;clear l1 g1 l2 g2;skip);have k1:=B1.out.q;have k2:=B2.out.q)))
  | (go_at_call 11;with_reducible refine (a2U ?ha (own14 A1 A2 c1 c2 _ L2.out K2.out)).mono ?_;(case ha =>(simp;done));rintro x w1 ⟨Av,cv,rfl,hcv,hC,hb⟩;clear k1;clear k2;have FP:=zA0 (Kd.a1F FP.out hb);have B1:=zA0 (B1.out.below hb);have B2:=zA0 (B2.out.below hb);have KS:=zA0 (Kd.a0H KS.out hb);have KL0:=zA0 (Kd.a0H KL0.out hb);have B23:=zA0 (B23.out.below hb);have KL1:=zA0 (Kd.a0H KL1.out hb);have B31:=zA0 (B31.out.below hb);have HB:=hs_ HB hb;clear x0 x1 x2;have KV:=zA0 hC;have HCV:=zA0 hcv;clear hC hcv;clear hb;have k1:=B1.out.q;have k2:=B2.out.q)
  | ((with_reducible refine a0N (N:=55) rfl ?_);refine a3G qF2 ?_;refine a3I rfl (N:=55) rfl (n:=1) (cs:=#[.string (⟨#[112]⟩:ByteArray)]) (t:=9) ?hr ?_;(case hr =>first | (go_simp;done) | (go_simp;rfl));intro g55 hg w1 hx hb;clear k1;clear k2;have FP:=zA0 (Kd.a1F FP.out hb);have B1:=zA0 (B1.out.below hb);have B2:=zA0 (B2.out.below hb);have KS:=zA0 (Kd.a0H KS.out hb);have KL0:=zA0 (Kd.a0H KL0.out hb);have B23:=zA0 (B23.out.below hb);have KL1:=zA0 (Kd.a0H KL1.out hb);have B31:=zA0 (B31.out.below hb);have KV:=zA0 (Kd.a0H KV.out hb);have HB:=hs_ HB hb;have B55:=zA0 (RowB.mk hx);clear hx hb hg;have k1:=B1.out.q;have k2:=B2.out.q)
  | (go_at_call 10;((have hL:=lit14_1 B55.out.b));(refine (a2U ?ha (r14_Texts.calls 40 Av cv [(⟨#[112]⟩:ByteArray)] (some ⟨g55,0,none⟩) 1 [(⟨#[112]⟩:ByteArray)] true _ KV.out HCV.out hL qB0 qF0)).mono ?_);(case ha =>(simp;done));((rintro x w1 ⟨rfl,hd⟩;have hb:=hd.below;clear hd hL;clear k1;clear k2;have FP:=zA0 (Kd.a1F FP.out hb);have B1:=zA0 (B1.out.below hb);have B2:=zA0 (B2.out.below hb);have KS:=zA0 (Kd.a0H KS.out hb);have KL0:=zA0 (Kd.a0H KL0.out hb);have B23:=zA0 (B23.out.below hb);have KL1:=zA0 (Kd.a0H KL1.out hb);have B31:=zA0 (B31.out.below hb);have KV:=zA0 (Kd.a0H KV.out hb);have B55:=zA0 (B55.out.below hb);have HB:=hs_ HB hb;clear hb;have k1:=B1.out.q;have k2:=B2.out.q)))
  | (go_at_call 17;with_reducible refine (all14 _ cS _ KS.out).mono ?_;rintro x w1 ⟨Aw,cw,rfl,hcw,hC,hb⟩;clear k1;clear k2;have FP:=zA0 (Kd.a1F FP.out hb);have B1:=zA0 (B1.out.below hb);have B2:=zA0 (B2.out.below hb);have KS:=zA0 (Kd.a0H KS.out hb);have KL0:=zA0 (Kd.a0H KL0.out hb);have B23:=zA0 (B23.out.below hb);have KL1:=zA0 (Kd.a0H KL1.out hb);have B31:=zA0 (B31.out.below hb);have KV:=zA0 (Kd.a0H KV.out hb);have B55:=zA0 (B55.out.below hb);have HB:=hs_ HB hb;have KW:=zA0 hC;have HCW:=zA0 hcw;clear hC hcw;clear hb;have k1:=B1.out.q;have k2:=B2.out.q)
  | ((with_reducible refine a0N (N:=61) rfl ?_);refine a3G qF2 ?_;refine a3I rfl (N:=61) rfl (n:=2) (cs:=#[.string (⟨#[112]⟩:ByteArray),.string (⟨#[113]⟩:ByteArray)]) (t:=9) ?hr ?_;(case hr =>first | (go_simp;done) | (go_simp;rfl));intro g61 hg w1 hx hb;clear k1;clear k2;have FP:=zA0 (Kd.a1F FP.out hb);have B1:=zA0 (B1.out.below hb);have B2:=zA0 (B2.out.below hb);have KS:=zA0 (Kd.a0H KS.out hb);have KL0:=zA0 (Kd.a0H KL0.out hb);have B23:=zA0 (B23.out.below hb);have KL1:=zA0 (Kd.a0H KL1.out hb);have B31:=zA0 (B31.out.below hb);have KV:=zA0 (Kd.a0H KV.out hb);have B55:=zA0 (B55.out.below hb);have KW:=zA0 (Kd.a0H KW.out hb);have HB:=hs_ HB hb;have B61:=zA0 (RowB.mk hx);clear hx hb hg;have k1:=B1.out.q;have k2:=B2.out.q)
  | (go_at_call 10;((have hL:=b4P B61.out.b));(refine (a2U ?ha (r14_Texts.calls 40 Aw cw [(⟨#[112]⟩:ByteArray),(⟨#[113]⟩:ByteArray)] (some ⟨g61,0,none⟩) 2 [(⟨#[112]⟩:ByteArray),(⟨#[113]⟩:ByteArray)] true _ KW.out HCW.out hL qB0 qF0)).mono ?_);(case ha =>(simp;done));((rintro x w1 ⟨rfl,hd⟩;have hb:=hd.below;clear hd hL;clear k1;clear k2;have FP:=zA0 (Kd.a1F FP.out hb);have B1:=zA0 (B1.out.below hb);have B2:=zA0 (B2.out.below hb);have KS:=zA0 (Kd.a0H KS.out hb);have KL0:=zA0 (Kd.a0H KL0.out hb);have B23:=zA0 (B23.out.below hb);have KL1:=zA0 (Kd.a0H KL1.out hb);have B31:=zA0 (B31.out.below hb);have KV:=zA0 (Kd.a0H KV.out hb);have B55:=zA0 (B55.out.below hb);have KW:=zA0 (Kd.a0H KW.out hb);have B61:=zA0 (B61.out.below hb);have HB:=hs_ HB hb;clear hb;have k1:=B1.out.q;have k2:=B2.out.q))))
 go_ret;exact qD3
end Go.Proofs.YthhgfncliffggaaGreat.Man
namespace Go.Proofs.YthhgfncliffggaaGreat.Pr
open Go.RowKit Go.Proofs.YthhgfncliffggaaGreatW.PrintWords Go.Proofs.YthhgfncliffggaaGreatW.PrintLast Go.Proofs.YthhgfncliffggaaGreatW.PrintMore
attribute [local go_sem] a5J a5I a6Y a6X a6A a5Z a7K a7J   -- for this text's walks alone
mutual
def w14_quiet.l0:Nat→List (S65)→ByteArray→Int→Option (Bool)
 | 0,_,_,_ =>none
 | k + 1,x0,x1,x5 =>if x5 < (x0.length:Int) then (if 0≤x5 then (if ((a0J x0 x5).f0) = 6 then (some false) else (if ((a0J x0 x5).f0) = 5 then (if ((a0J x0 x5).f3).toList = x1.toList then (some false) else ((w14_quiet.f k ((a0J x0 x5).f6) x1).bind fun t358 =>(if t358 = true then ((w14_quiet.f k ((a0J x0 x5).f7) x1).bind fun t360 =>(if t360 = true then (w14_quiet.l0 k x0 x1 (wrap64 (x5 + 1))) else (some false))) else (some false)))) else ((w14_quiet.f k ((a0J x0 x5).f6) x1).bind fun t362 =>(if t362 = true then ((w14_quiet.f k ((a0J x0 x5).f7) x1).bind fun t364 =>(if t364 = true then (w14_quiet.l0 k x0 x1 (wrap64 (x5 + 1))) else (some false))) else (some false))))) else (none)) else (some true)
def w14_quiet.f:Nat→List (S65)→ByteArray→Option (Bool)
 | 0,_,_ =>none
 | k + 1,l0,a1 =>w14_quiet.l0 k l0 a1 0
end
theorem w14_quiet.calls (k:Nat):∀ (A0:Option Addr) (c0:Nat) (l0:List (S65)) (a1:ByteArray) (r:Bool) (w:World) (hr0:Kd.C k65 w A0 l0.length l0) (hc0:l0.length≤c0) (h:w14_quiet.f k l0 a1 = some r),
    Calls Tryz.prog 23 #[.slice A0 l0.length c0,.string a1] w fun e w' =>e = .returned (.bool r)∧a0S w w':=by
 induction k using Nat.strongRecOn with
 | _ k ih =>
 intro A0 c0 l0 a1 r w hr0 hc0 h;cases k with
 | zero =>exact absurd h (by simp [w14_quiet.f])
 | succ k =>
 simp only [w14_quiet.f] at h;have HR0:=a0B.mk hr0;have HC0:=a0B.mk hc0;clear hr0 hc0;have H:(w14_quiet.l0 k l0 a1 0) = some r:=h;clear h;have H':=a0B.mk H;clear H;go_enter Tryz.func23,Tryz.ntmps23
 go_wp2;go_loopg [5] k (fun kq v5 w' =>∃ (aA:Int),v5 = .int .i64 aA∧a0B (w14_quiet.l0 kq l0 a1 aA = some r)∧a0B (kq≤k)∧a0S w w')
 case atStart =>exact ⟨(0),qH0,H',⟨zJ0 _⟩,by repeat (first | exact a0S.refl _ | apply a0S.step)⟩
 case round =>
  clear H';obtain ⟨aA,rfl,HA,HK1,⟨m1,rfl⟩⟩:=hrel;cases gk with
  | zero =>exact absurd HA.out (by simp [w14_quiet.l0])
  | succ k1 =>
   have H:=HA.out;clear HA;simp only [w14_quiet.l0] at H;by_cases c3:aA < (l0.length:Int)
   ·rw [if_pos c3] at H;have c3b0:decide (aA < (l0.length:Int)) = true:=zI0 c3;clear c3;by_cases c4:0≤aA
    ·rw [if_pos c4] at H;have c4b0:decide (0≤aA) = true:=zI0 c4;clear c4;by_cases c5:((a0J l0 aA).f0) = 6
     ·rw [if_pos c5] at H;have c5b0:(((a0J l0 aA).f0) == 6) = true:=beq_iff_eq.mpr c5;have c5b1:(((a0J l0 aA).f0) != 6) = false:=bne_eq_false_iff_eq.mpr c5;clear c5;obtain rfl:=zC0 H;have p354:0≤(aA:Int):=zB0 qA0;have q354:aA < (l0.length:Int):=zB0 qA0;obtain ⟨ad354,dM,dN,dO,dP,dQ,dR,dS,dT,e354,cG,cH,cI,cJ,aC,aD,aE,aG,aH,aI,aJ,aK,aM,aN,aQ,aR⟩:=a1W HR0.out aA p354 q354;cases e354;have cL:=a0B.mk aI;have cM:=a0B.mk aH;clear aI aH;have cN:=a0B.mk aK;have cO:=a0B.mk aJ;clear aK aJ;have cQ:=a0B.mk aN;have cR:=a0B.mk aM;clear aN aM;have cU:=a0B.mk aR;have cV:=a0B.mk aQ;clear aR aQ;replace p354:=eq_true p354;replace q354:=eq_true q354;go_wp2;go_ret;exact qE3
     ·rw [if_neg c5] at H;have c5b0:(((a0J l0 aA).f0) == 6) = false:=beq_eq_false_iff_ne.mpr c5;have c5b1:(((a0J l0 aA).f0) != 6) = true:=bne_iff_ne.mpr c5;by_cases c6:((a0J l0 aA).f0) = 5
      ·rw [if_pos c6] at H;have c6b0:(((a0J l0 aA).f0) == 5) = true:=beq_iff_eq.mpr c6;have c6b1:(((a0J l0 aA).f0) != 5) = false:=bne_eq_false_iff_eq.mpr c6;clear c6;by_cases c7:((a0J l0 aA).f3).toList = a1.toList
       ·rw [if_pos c7] at H;have c7b0:(((a0J l0 aA).f3).toList == a1.toList) = true:=beq_iff_eq.mpr c7;have c7b1:(((a0J l0 aA).f3).toList != a1.toList) = false:=bne_eq_false_iff_eq.mpr c7;clear c7;obtain rfl:=zC0 H;have p354:0≤(aA:Int):=zB0 qA0;have q354:aA < (l0.length:Int):=zB0 qA0;obtain ⟨ad354,dM,dN,dO,dP,dQ,dR,dS,dT,e354,cG,cH,cI,cJ,aC,aD,aE,aG,aH,aI,aJ,aK,aM,aN,aQ,aR⟩:=a1W HR0.out aA p354 q354;cases e354;have cL:=a0B.mk aI;have cM:=a0B.mk aH;clear aI aH;have cN:=a0B.mk aK;have cO:=a0B.mk aJ;clear aK aJ;have cQ:=a0B.mk aN;have cR:=a0B.mk aM;clear aN aM;have cU:=a0B.mk aR;have cV:=a0B.mk aQ;clear aR aQ;replace p354:=eq_true p354;replace q354:=eq_true q354;have p355:0≤(aA:Int):=zB0 qA0;have q355:aA < (l0.length:Int):=zB0 qA0;obtain ⟨ad355,eY,eZ,fA,fB,fC,fD,fE,fF,e355,dA,dB,dC,dD,bC,bD,bE,bF,aT,aU,aV,aW,aX,aY,aZ,bA⟩:=a1W HR0.out aA p355 q355;obtain rfl:ad354 = ad355:=(by injection e355);have dE:=a0B.mk aU;have dF:=a0B.mk aT;clear aU aT;have dG:=a0B.mk aW;have dH:=a0B.mk aV;clear aW aV;have dI:=a0B.mk aY;have dJ:=a0B.mk aX;clear aY aX;have dK:=a0B.mk bA;have dL:=a0B.mk aZ;clear bA aZ;replace p355:=eq_true p355;replace q355:=eq_true q355;have ea_:=zC0 (aC.symm.trans bC);injection ea_ with ea_ en_ ec_
        subst ea_;subst ec_;clear en_;have ea_:=zC0 (aD.symm.trans bD);injection ea_ with ea_ en_ ec_
        subst ea_;subst ec_;clear en_;have ea_:=zC0 (aE.symm.trans bE);injection ea_ with ea_ en_ ec_
        subst ea_;subst ec_;clear en_;have ea_:=zC0 (aG.symm.trans bF);injection ea_ with ea_ en_ ec_
        subst ea_;subst ec_;clear en_;have p356:0≤(aA:Int):=zB0 qA0;have q356:aA < (l0.length:Int):=zB0 qA0;obtain ⟨ad356,gE,gG,gH,gI,gJ,gK,gL,gM,e356,fG,fH,fI,fJ,cW,cX,cY,cZ,bG,bH,bI,bJ,bK,bM,bN,bO⟩:=a1W HR0.out aA p356 q356;obtain rfl:ad354 = ad356:=(by injection e356);have fK:=a0B.mk bH;have fL:=a0B.mk bG;clear bH bG;have fM:=a0B.mk bJ;have fN:=a0B.mk bI;clear bJ bI;have fO:=a0B.mk bM;have fP:=a0B.mk bK;clear bM bK;have fQ:=a0B.mk bO;have fR:=a0B.mk bN;clear bO bN;replace p356:=eq_true p356;replace q356:=eq_true q356;have ea_:=zC0 (aC.symm.trans cW);injection ea_ with ea_ en_ ec_
        subst ea_;subst ec_;clear en_;have ea_:=zC0 (aD.symm.trans cX);injection ea_ with ea_ en_ ec_
        subst ea_;subst ec_;clear en_;have ea_:=zC0 (aE.symm.trans cY);injection ea_ with ea_ en_ ec_
        subst ea_;subst ec_;clear en_;have ea_:=zC0 (aG.symm.trans cZ);injection ea_ with ea_ en_ ec_
        subst ea_;subst ec_;clear en_;go_wp2;go_ret;exact qE3
       ·rw [if_neg c7] at H;have c7b0:(((a0J l0 aA).f3).toList == a1.toList) = false:=beq_eq_false_iff_ne.mpr c7;have c7b1:(((a0J l0 aA).f3).toList != a1.toList) = true:=bne_iff_ne.mpr c7;obtain ⟨t358,A8,H⟩:=ob_ H;by_cases c9:t358 = true
        ·subst c9;rw [if_pos rfl] at H;obtain ⟨t360,A10,H⟩:=ob_ H;by_cases c11:t360 = true
         ·subst c11;rw [if_pos rfl] at H;have H':=a0B.mk H;clear H;have p354:0≤(aA:Int):=zB0 qA0;have q354:aA < (l0.length:Int):=zB0 qA0;obtain ⟨ad354,dM,dN,dO,dP,dQ,dR,dS,dT,e354,cG,cH,cI,cJ,aC,aD,aE,aG,aH,aI,aJ,aK,aM,aN,aQ,aR⟩:=a1W HR0.out aA p354 q354;cases e354;have cL:=a0B.mk aI;have cM:=a0B.mk aH;clear aI aH;have cN:=a0B.mk aK;have cO:=a0B.mk aJ;clear aK aJ;have cQ:=a0B.mk aN;have cR:=a0B.mk aM;clear aN aM;have cU:=a0B.mk aR;have cV:=a0B.mk aQ;clear aR aQ;replace p354:=eq_true p354;replace q354:=eq_true q354;have p355:0≤(aA:Int):=zB0 qA0;have q355:aA < (l0.length:Int):=zB0 qA0;obtain ⟨ad355,eY,eZ,fA,fB,fC,fD,fE,fF,e355,dA,dB,dC,dD,bC,bD,bE,bF,aT,aU,aV,aW,aX,aY,aZ,bA⟩:=a1W HR0.out aA p355 q355;obtain rfl:ad354 = ad355:=(by injection e355);have dE:=a0B.mk aU;have dF:=a0B.mk aT;clear aU aT;have dG:=a0B.mk aW;have dH:=a0B.mk aV;clear aW aV;have dI:=a0B.mk aY;have dJ:=a0B.mk aX;clear aY aX;have dK:=a0B.mk bA;have dL:=a0B.mk aZ;clear bA aZ;replace p355:=eq_true p355;replace q355:=eq_true q355;have ea_:=zC0 (aC.symm.trans bC);injection ea_ with ea_ en_ ec_
          subst ea_;subst ec_;clear en_;have ea_:=zC0 (aD.symm.trans bD);injection ea_ with ea_ en_ ec_
          subst ea_;subst ec_;clear en_;have ea_:=zC0 (aE.symm.trans bE);injection ea_ with ea_ en_ ec_
          subst ea_;subst ec_;clear en_;have ea_:=zC0 (aG.symm.trans bF);injection ea_ with ea_ en_ ec_
          subst ea_;subst ec_;clear en_;have p356:0≤(aA:Int):=zB0 qA0;have q356:aA < (l0.length:Int):=zB0 qA0;obtain ⟨ad356,gE,gG,gH,gI,gJ,gK,gL,gM,e356,fG,fH,fI,fJ,cW,cX,cY,cZ,bG,bH,bI,bJ,bK,bM,bN,bO⟩:=a1W HR0.out aA p356 q356;obtain rfl:ad354 = ad356:=(by injection e356);have fK:=a0B.mk bH;have fL:=a0B.mk bG;clear bH bG;have fM:=a0B.mk bJ;have fN:=a0B.mk bI;clear bJ bI;have fO:=a0B.mk bM;have fP:=a0B.mk bK;clear bM bK;have fQ:=a0B.mk bO;have fR:=a0B.mk bN;clear bO bN;replace p356:=eq_true p356;replace q356:=eq_true q356;have ea_:=zC0 (aC.symm.trans cW);injection ea_ with ea_ en_ ec_
          subst ea_;subst ec_;clear en_;have ea_:=zC0 (aD.symm.trans cX);injection ea_ with ea_ en_ ec_
          subst ea_;subst ec_;clear en_;have ea_:=zC0 (aE.symm.trans cY);injection ea_ with ea_ en_ ec_
          subst ea_;subst ec_;clear en_;have ea_:=zC0 (aG.symm.trans cZ);injection ea_ with ea_ en_ ec_
          subst ea_;subst ec_;clear en_;have p357:0≤(aA:Int):=zB0 qA0;have q357:aA < (l0.length:Int):=zB0 qA0;obtain ⟨ad357,iH,iI,iJ,iK,iL,iM,iN,iO,e357,gN,gO,gP,gQ,dU,dV,dW,dX,bP,bQ,bR,bS,bT,bU,bV,bW⟩:=a1W HR0.out aA p357 q357;obtain rfl:ad354 = ad357:=(by injection e357);have gR:=a0B.mk bQ;have gS:=a0B.mk bP;clear bQ bP;have gT:=a0B.mk bS;have gU:=a0B.mk bR;clear bS bR;have dY:=a0B.mk bU;have dZ:=a0B.mk bT;clear bU bT;have gV:=a0B.mk bW;have gW:=a0B.mk bV;clear bW bV;replace p357:=eq_true p357;replace q357:=eq_true q357;have ea_:=zC0 (aC.symm.trans dU);injection ea_ with ea_ en_ ec_
          subst ea_;subst ec_;clear en_;have ea_:=zC0 (aD.symm.trans dV);injection ea_ with ea_ en_ ec_
          subst ea_;subst ec_;clear en_;have ea_:=zC0 (aE.symm.trans dW);injection ea_ with ea_ en_ ec_
          subst ea_;subst ec_;clear en_;have ea_:=zC0 (aG.symm.trans dX);injection ea_ with ea_ en_ ec_
          subst ea_;subst ec_;clear en_;go_wp2_with (first | (go_at_call 23;(with_reducible refine (ih k1 qZ0 _ _ ((a0J l0 aA).f6) a1 true _ ?side1 ?side2 A8.out).mono ?_);(case side1 =>repeat (first | exact dY.out | (with_reducible refine Kd.a1V ?_ _) | (with_reducible refine Kd.a1N ?_ _) | (with_reducible refine Kd.a2B ?_)));(case side2 =>exact dZ.out);rintro e w' ⟨rfl,⟨nd,rfl⟩⟩;have p359:0≤(aA:Int):=zB0 qA0;have q359:aA < (l0.length:Int):=zB0 qA0;obtain ⟨ad359,jS,jT,jU,jV,jW,jX,jY,jZ,e359,iX,iY,iZ,jA,fS,fT,fU,fV,eB,eC,eD,eE,eG,eH,eI,eJ⟩:=a1W HR0.out aA p359 q359;obtain rfl:ad354 = ad359:=(by injection e359);have jB:=a0B.mk eC;have jC:=a0B.mk eB;clear eC eB;have jD:=a0B.mk eE;have jE:=a0B.mk eD;clear eE eD;have jF:=a0B.mk eH;have jG:=a0B.mk eG;clear eH eG;have fW:=a0B.mk eJ;have fX:=a0B.mk eI;clear eJ eI;replace p359:=eq_true p359;replace q359:=eq_true q359;have ea_:=zC0 (aC.symm.trans fS);injection ea_ with ea_ en_ ec_;subst ea_;subst ec_;clear en_;have ea_:=zC0 (aD.symm.trans fT);injection ea_ with ea_ en_ ec_;subst ea_;subst ec_;clear en_;have ea_:=zC0 (aE.symm.trans fU);injection ea_ with ea_ en_ ec_;subst ea_;subst ec_;clear en_;have ea_:=zC0 (aG.symm.trans fV);injection ea_ with ea_ en_ ec_;subst ea_;subst ec_;clear en_) | (go_at_call 23;(with_reducible refine (ih k1 qZ0 _ _ ((a0J l0 aA).f7) a1 true _ ?side1 ?side2 A10.out).mono ?_);(case side1 =>repeat (first | exact fW.out | (with_reducible refine Kd.a1V ?_ _) | (with_reducible refine Kd.a1N ?_ _) | (with_reducible refine Kd.a2B ?_)));(case side2 =>exact fX.out);rintro e w' ⟨rfl,⟨nd,rfl⟩⟩));go_roundg k1
          case measure =>have:=HK1.out;omega
          case rel =>exact ⟨(wrap64 (aA + 1)),qH0,H',⟨by have:=HK1.out;omega⟩,by repeat (first | exact a0S.refl _ | apply a0S.step)⟩
         ·replace c11:=Bool.eq_false_iff.mpr c11;subst c11;rw [if_neg (show ¬ (false = true) by decide)] at H;obtain rfl:=zC0 H;have p354:0≤(aA:Int):=zB0 qA0;have q354:aA < (l0.length:Int):=zB0 qA0;obtain ⟨ad354,dM,dN,dO,dP,dQ,dR,dS,dT,e354,cG,cH,cI,cJ,aC,aD,aE,aG,aH,aI,aJ,aK,aM,aN,aQ,aR⟩:=a1W HR0.out aA p354 q354;cases e354;have cL:=a0B.mk aI;have cM:=a0B.mk aH;clear aI aH;have cN:=a0B.mk aK;have cO:=a0B.mk aJ;clear aK aJ;have cQ:=a0B.mk aN;have cR:=a0B.mk aM;clear aN aM;have cU:=a0B.mk aR;have cV:=a0B.mk aQ;clear aR aQ;replace p354:=eq_true p354;replace q354:=eq_true q354;have p355:0≤(aA:Int):=zB0 qA0;have q355:aA < (l0.length:Int):=zB0 qA0;obtain ⟨ad355,eY,eZ,fA,fB,fC,fD,fE,fF,e355,dA,dB,dC,dD,bC,bD,bE,bF,aT,aU,aV,aW,aX,aY,aZ,bA⟩:=a1W HR0.out aA p355 q355;obtain rfl:ad354 = ad355:=(by injection e355);have dE:=a0B.mk aU;have dF:=a0B.mk aT;clear aU aT;have dG:=a0B.mk aW;have dH:=a0B.mk aV;clear aW aV;have dI:=a0B.mk aY;have dJ:=a0B.mk aX;clear aY aX;have dK:=a0B.mk bA;have dL:=a0B.mk aZ;clear bA aZ;replace p355:=eq_true p355;replace q355:=eq_true q355;have ea_:=zC0 (aC.symm.trans bC);injection ea_ with ea_ en_ ec_
          subst ea_;subst ec_;clear en_;have ea_:=zC0 (aD.symm.trans bD);injection ea_ with ea_ en_ ec_
          subst ea_;subst ec_;clear en_;have ea_:=zC0 (aE.symm.trans bE);injection ea_ with ea_ en_ ec_
          subst ea_;subst ec_;clear en_;have ea_:=zC0 (aG.symm.trans bF);injection ea_ with ea_ en_ ec_
          subst ea_;subst ec_;clear en_;have p356:0≤(aA:Int):=zB0 qA0;have q356:aA < (l0.length:Int):=zB0 qA0;obtain ⟨ad356,gE,gG,gH,gI,gJ,gK,gL,gM,e356,fG,fH,fI,fJ,cW,cX,cY,cZ,bG,bH,bI,bJ,bK,bM,bN,bO⟩:=a1W HR0.out aA p356 q356;obtain rfl:ad354 = ad356:=(by injection e356);have fK:=a0B.mk bH;have fL:=a0B.mk bG;clear bH bG;have fM:=a0B.mk bJ;have fN:=a0B.mk bI;clear bJ bI;have fO:=a0B.mk bM;have fP:=a0B.mk bK;clear bM bK;have fQ:=a0B.mk bO;have fR:=a0B.mk bN;clear bO bN;replace p356:=eq_true p356;replace q356:=eq_true q356;have ea_:=zC0 (aC.symm.trans cW);injection ea_ with ea_ en_ ec_
          subst ea_;subst ec_;clear en_;have ea_:=zC0 (aD.symm.trans cX);injection ea_ with ea_ en_ ec_
          subst ea_;subst ec_;clear en_;have ea_:=zC0 (aE.symm.trans cY);injection ea_ with ea_ en_ ec_
          subst ea_;subst ec_;clear en_;have ea_:=zC0 (aG.symm.trans cZ);injection ea_ with ea_ en_ ec_
          subst ea_;subst ec_;clear en_;have p357:0≤(aA:Int):=zB0 qA0;have q357:aA < (l0.length:Int):=zB0 qA0;obtain ⟨ad357,iH,iI,iJ,iK,iL,iM,iN,iO,e357,gN,gO,gP,gQ,dU,dV,dW,dX,bP,bQ,bR,bS,bT,bU,bV,bW⟩:=a1W HR0.out aA p357 q357;obtain rfl:ad354 = ad357:=(by injection e357);have gR:=a0B.mk bQ;have gS:=a0B.mk bP;clear bQ bP;have gT:=a0B.mk bS;have gU:=a0B.mk bR;clear bS bR;have dY:=a0B.mk bU;have dZ:=a0B.mk bT;clear bU bT;have gV:=a0B.mk bW;have gW:=a0B.mk bV;clear bW bV;replace p357:=eq_true p357;replace q357:=eq_true q357;have ea_:=zC0 (aC.symm.trans dU);injection ea_ with ea_ en_ ec_
          subst ea_;subst ec_;clear en_;have ea_:=zC0 (aD.symm.trans dV);injection ea_ with ea_ en_ ec_
          subst ea_;subst ec_;clear en_;have ea_:=zC0 (aE.symm.trans dW);injection ea_ with ea_ en_ ec_
          subst ea_;subst ec_;clear en_;have ea_:=zC0 (aG.symm.trans dX);injection ea_ with ea_ en_ ec_
          subst ea_;subst ec_;clear en_;go_wp2_with (first | (go_at_call 23;(with_reducible refine (ih k1 qZ0 _ _ ((a0J l0 aA).f6) a1 true _ ?side1 ?side2 A8.out).mono ?_);(case side1 =>repeat (first | exact dY.out | (with_reducible refine Kd.a1V ?_ _) | (with_reducible refine Kd.a1N ?_ _) | (with_reducible refine Kd.a2B ?_)));(case side2 =>exact dZ.out);rintro e w' ⟨rfl,⟨nd,rfl⟩⟩;have p359:0≤(aA:Int):=zB0 qA0;have q359:aA < (l0.length:Int):=zB0 qA0;obtain ⟨ad359,jS,jT,jU,jV,jW,jX,jY,jZ,e359,iX,iY,iZ,jA,fS,fT,fU,fV,eB,eC,eD,eE,eG,eH,eI,eJ⟩:=a1W HR0.out aA p359 q359;obtain rfl:ad354 = ad359:=(by injection e359);have jB:=a0B.mk eC;have jC:=a0B.mk eB;clear eC eB;have jD:=a0B.mk eE;have jE:=a0B.mk eD;clear eE eD;have jF:=a0B.mk eH;have jG:=a0B.mk eG;clear eH eG;have fW:=a0B.mk eJ;have fX:=a0B.mk eI;clear eJ eI;replace p359:=eq_true p359;replace q359:=eq_true q359;have ea_:=zC0 (aC.symm.trans fS);injection ea_ with ea_ en_ ec_;subst ea_;subst ec_;clear en_;have ea_:=zC0 (aD.symm.trans fT);injection ea_ with ea_ en_ ec_;subst ea_;subst ec_;clear en_;have ea_:=zC0 (aE.symm.trans fU);injection ea_ with ea_ en_ ec_;subst ea_;subst ec_;clear en_;have ea_:=zC0 (aG.symm.trans fV);injection ea_ with ea_ en_ ec_;subst ea_;subst ec_;clear en_) | (go_at_call 23;(with_reducible refine (ih k1 qZ0 _ _ ((a0J l0 aA).f7) a1 false _ ?side1 ?side2 A10.out).mono ?_);(case side1 =>repeat (first | exact fW.out | (with_reducible refine Kd.a1V ?_ _) | (with_reducible refine Kd.a1N ?_ _) | (with_reducible refine Kd.a2B ?_)));(case side2 =>exact fX.out);rintro e w' ⟨rfl,⟨nd,rfl⟩⟩));go_ret;exact qE3
        ·replace c9:=Bool.eq_false_iff.mpr c9;subst c9;rw [if_neg (show ¬ (false = true) by decide)] at H;obtain rfl:=zC0 H;have p354:0≤(aA:Int):=zB0 qA0;have q354:aA < (l0.length:Int):=zB0 qA0;obtain ⟨ad354,dM,dN,dO,dP,dQ,dR,dS,dT,e354,cG,cH,cI,cJ,aC,aD,aE,aG,aH,aI,aJ,aK,aM,aN,aQ,aR⟩:=a1W HR0.out aA p354 q354;cases e354;have cL:=a0B.mk aI;have cM:=a0B.mk aH;clear aI aH;have cN:=a0B.mk aK;have cO:=a0B.mk aJ;clear aK aJ;have cQ:=a0B.mk aN;have cR:=a0B.mk aM;clear aN aM;have cU:=a0B.mk aR;have cV:=a0B.mk aQ;clear aR aQ;replace p354:=eq_true p354;replace q354:=eq_true q354;have p355:0≤(aA:Int):=zB0 qA0;have q355:aA < (l0.length:Int):=zB0 qA0;obtain ⟨ad355,eY,eZ,fA,fB,fC,fD,fE,fF,e355,dA,dB,dC,dD,bC,bD,bE,bF,aT,aU,aV,aW,aX,aY,aZ,bA⟩:=a1W HR0.out aA p355 q355;obtain rfl:ad354 = ad355:=(by injection e355);have dE:=a0B.mk aU;have dF:=a0B.mk aT;clear aU aT;have dG:=a0B.mk aW;have dH:=a0B.mk aV;clear aW aV;have dI:=a0B.mk aY;have dJ:=a0B.mk aX;clear aY aX;have dK:=a0B.mk bA;have dL:=a0B.mk aZ;clear bA aZ;replace p355:=eq_true p355;replace q355:=eq_true q355;have ea_:=zC0 (aC.symm.trans bC);injection ea_ with ea_ en_ ec_
         subst ea_;subst ec_;clear en_;have ea_:=zC0 (aD.symm.trans bD);injection ea_ with ea_ en_ ec_
         subst ea_;subst ec_;clear en_;have ea_:=zC0 (aE.symm.trans bE);injection ea_ with ea_ en_ ec_
         subst ea_;subst ec_;clear en_;have ea_:=zC0 (aG.symm.trans bF);injection ea_ with ea_ en_ ec_
         subst ea_;subst ec_;clear en_;have p356:0≤(aA:Int):=zB0 qA0;have q356:aA < (l0.length:Int):=zB0 qA0;obtain ⟨ad356,gE,gG,gH,gI,gJ,gK,gL,gM,e356,fG,fH,fI,fJ,cW,cX,cY,cZ,bG,bH,bI,bJ,bK,bM,bN,bO⟩:=a1W HR0.out aA p356 q356;obtain rfl:ad354 = ad356:=(by injection e356);have fK:=a0B.mk bH;have fL:=a0B.mk bG;clear bH bG;have fM:=a0B.mk bJ;have fN:=a0B.mk bI;clear bJ bI;have fO:=a0B.mk bM;have fP:=a0B.mk bK;clear bM bK;have fQ:=a0B.mk bO;have fR:=a0B.mk bN;clear bO bN;replace p356:=eq_true p356;replace q356:=eq_true q356;have ea_:=zC0 (aC.symm.trans cW);injection ea_ with ea_ en_ ec_
         subst ea_;subst ec_;clear en_;have ea_:=zC0 (aD.symm.trans cX);injection ea_ with ea_ en_ ec_
         subst ea_;subst ec_;clear en_;have ea_:=zC0 (aE.symm.trans cY);injection ea_ with ea_ en_ ec_
         subst ea_;subst ec_;clear en_;have ea_:=zC0 (aG.symm.trans cZ);injection ea_ with ea_ en_ ec_
         subst ea_;subst ec_;clear en_;have p357:0≤(aA:Int):=zB0 qA0;have q357:aA < (l0.length:Int):=zB0 qA0;obtain ⟨ad357,iH,iI,iJ,iK,iL,iM,iN,iO,e357,gN,gO,gP,gQ,dU,dV,dW,dX,bP,bQ,bR,bS,bT,bU,bV,bW⟩:=a1W HR0.out aA p357 q357;obtain rfl:ad354 = ad357:=(by injection e357);have gR:=a0B.mk bQ;have gS:=a0B.mk bP;clear bQ bP;have gT:=a0B.mk bS;have gU:=a0B.mk bR;clear bS bR;have dY:=a0B.mk bU;have dZ:=a0B.mk bT;clear bU bT;have gV:=a0B.mk bW;have gW:=a0B.mk bV;clear bW bV;replace p357:=eq_true p357;replace q357:=eq_true q357;have ea_:=zC0 (aC.symm.trans dU);injection ea_ with ea_ en_ ec_
         subst ea_;subst ec_;clear en_;have ea_:=zC0 (aD.symm.trans dV);injection ea_ with ea_ en_ ec_
         subst ea_;subst ec_;clear en_;have ea_:=zC0 (aE.symm.trans dW);injection ea_ with ea_ en_ ec_
         subst ea_;subst ec_;clear en_;have ea_:=zC0 (aG.symm.trans dX);injection ea_ with ea_ en_ ec_
         subst ea_;subst ec_;clear en_;go_wp2_with (first | (go_at_call 23;(with_reducible refine (ih k1 qZ0 _ _ ((a0J l0 aA).f6) a1 false _ ?side1 ?side2 A8.out).mono ?_);(case side1 =>repeat (first | exact dY.out | (with_reducible refine Kd.a1V ?_ _) | (with_reducible refine Kd.a1N ?_ _) | (with_reducible refine Kd.a2B ?_)));(case side2 =>exact dZ.out);rintro e w' ⟨rfl,⟨nd,rfl⟩⟩));go_ret;exact qE3
      ·rw [if_neg c6] at H;have c6b0:(((a0J l0 aA).f0) == 5) = false:=beq_eq_false_iff_ne.mpr c6;have c6b1:(((a0J l0 aA).f0) != 5) = true:=bne_iff_ne.mpr c6;obtain ⟨t362,A12,H⟩:=ob_ H;by_cases c13:t362 = true
       ·subst c13;rw [if_pos rfl] at H;obtain ⟨t364,A14,H⟩:=ob_ H;by_cases c15:t364 = true
        ·subst c15;rw [if_pos rfl] at H;have H':=a0B.mk H;clear H;have p354:0≤(aA:Int):=zB0 qA0;have q354:aA < (l0.length:Int):=zB0 qA0;obtain ⟨ad354,dM,dN,dO,dP,dQ,dR,dS,dT,e354,cG,cH,cI,cJ,aC,aD,aE,aG,aH,aI,aJ,aK,aM,aN,aQ,aR⟩:=a1W HR0.out aA p354 q354;cases e354;have cL:=a0B.mk aI;have cM:=a0B.mk aH;clear aI aH;have cN:=a0B.mk aK;have cO:=a0B.mk aJ;clear aK aJ;have cQ:=a0B.mk aN;have cR:=a0B.mk aM;clear aN aM;have cU:=a0B.mk aR;have cV:=a0B.mk aQ;clear aR aQ;replace p354:=eq_true p354;replace q354:=eq_true q354;have p355:0≤(aA:Int):=zB0 qA0;have q355:aA < (l0.length:Int):=zB0 qA0;obtain ⟨ad355,eY,eZ,fA,fB,fC,fD,fE,fF,e355,dA,dB,dC,dD,bC,bD,bE,bF,aT,aU,aV,aW,aX,aY,aZ,bA⟩:=a1W HR0.out aA p355 q355;obtain rfl:ad354 = ad355:=(by injection e355);have dE:=a0B.mk aU;have dF:=a0B.mk aT;clear aU aT;have dG:=a0B.mk aW;have dH:=a0B.mk aV;clear aW aV;have dI:=a0B.mk aY;have dJ:=a0B.mk aX;clear aY aX;have dK:=a0B.mk bA;have dL:=a0B.mk aZ;clear bA aZ;replace p355:=eq_true p355;replace q355:=eq_true q355;have ea_:=zC0 (aC.symm.trans bC);injection ea_ with ea_ en_ ec_
         subst ea_;subst ec_;clear en_;have ea_:=zC0 (aD.symm.trans bD);injection ea_ with ea_ en_ ec_
         subst ea_;subst ec_;clear en_;have ea_:=zC0 (aE.symm.trans bE);injection ea_ with ea_ en_ ec_
         subst ea_;subst ec_;clear en_;have ea_:=zC0 (aG.symm.trans bF);injection ea_ with ea_ en_ ec_
         subst ea_;subst ec_;clear en_;have p361:0≤(aA:Int):=zB0 qA0;have q361:aA < (l0.length:Int):=zB0 qA0;obtain ⟨ad361,iP,iQ,iR,iS,iT,iU,iV,iW,e361,gX,gY,gZ,iA,eK,eL,eM,eN,bX,bY,bZ,cA,cB,cC,cD,cE⟩:=a1W HR0.out aA p361 q361;obtain rfl:ad354 = ad361:=(by injection e361);have iB:=a0B.mk bY;have iC:=a0B.mk bX;clear bY bX;have iD:=a0B.mk cA;have iE:=a0B.mk bZ;clear cA bZ;have eO:=a0B.mk cC;have eP:=a0B.mk cB;clear cC cB;have iF:=a0B.mk cE;have iG:=a0B.mk cD;clear cE cD;replace p361:=eq_true p361;replace q361:=eq_true q361;have ea_:=zC0 (aC.symm.trans eK);injection ea_ with ea_ en_ ec_
         subst ea_;subst ec_;clear en_;have ea_:=zC0 (aD.symm.trans eL);injection ea_ with ea_ en_ ec_
         subst ea_;subst ec_;clear en_;have ea_:=zC0 (aE.symm.trans eM);injection ea_ with ea_ en_ ec_
         subst ea_;subst ec_;clear en_;have ea_:=zC0 (aG.symm.trans eN);injection ea_ with ea_ en_ ec_
         subst ea_;subst ec_;clear en_;go_wp2_with (first | (go_at_call 23;(with_reducible refine (ih k1 qZ0 _ _ ((a0J l0 aA).f6) a1 true _ ?side1 ?side2 A12.out).mono ?_);(case side1 =>repeat (first | exact eO.out | (with_reducible refine Kd.a1V ?_ _) | (with_reducible refine Kd.a1N ?_ _) | (with_reducible refine Kd.a2B ?_)));(case side2 =>exact eP.out);rintro e w' ⟨rfl,⟨nd,rfl⟩⟩;have p363:0≤(aA:Int):=zB0 qA0;have q363:aA < (l0.length:Int):=zB0 qA0;obtain ⟨ad363,kA,kB,kC,kD,kE,kF,kG,kH,e363,jH,jI,jJ,jK,fY,fZ,gA,gB,eQ,eR,eS,eT,eU,eV,eW,eX⟩:=a1W HR0.out aA p363 q363;obtain rfl:ad354 = ad363:=(by injection e363);have jL:=a0B.mk eR;have jM:=a0B.mk eQ;clear eR eQ;have jN:=a0B.mk eT;have jO:=a0B.mk eS;clear eT eS;have jP:=a0B.mk eV;have jQ:=a0B.mk eU;clear eV eU;have gC:=a0B.mk eX;have gD:=a0B.mk eW;clear eX eW;replace p363:=eq_true p363;replace q363:=eq_true q363;have ea_:=zC0 (aC.symm.trans fY);injection ea_ with ea_ en_ ec_;subst ea_;subst ec_;clear en_;have ea_:=zC0 (aD.symm.trans fZ);injection ea_ with ea_ en_ ec_;subst ea_;subst ec_;clear en_;have ea_:=zC0 (aE.symm.trans gA);injection ea_ with ea_ en_ ec_;subst ea_;subst ec_;clear en_;have ea_:=zC0 (aG.symm.trans gB);injection ea_ with ea_ en_ ec_;subst ea_;subst ec_;clear en_) | (go_at_call 23;(with_reducible refine (ih k1 qZ0 _ _ ((a0J l0 aA).f7) a1 true _ ?side1 ?side2 A14.out).mono ?_);(case side1 =>repeat (first | exact gC.out | (with_reducible refine Kd.a1V ?_ _) | (with_reducible refine Kd.a1N ?_ _) | (with_reducible refine Kd.a2B ?_)));(case side2 =>exact gD.out);rintro e w' ⟨rfl,⟨nd,rfl⟩⟩));go_roundg k1
         case measure =>have:=HK1.out;omega
         case rel =>exact ⟨(wrap64 (aA + 1)),qH0,H',⟨by have:=HK1.out;omega⟩,by repeat (first | exact a0S.refl _ | apply a0S.step)⟩
        ·replace c15:=Bool.eq_false_iff.mpr c15;subst c15;rw [if_neg (show ¬ (false = true) by decide)] at H;obtain rfl:=zC0 H;have p354:0≤(aA:Int):=zB0 qA0;have q354:aA < (l0.length:Int):=zB0 qA0;obtain ⟨ad354,dM,dN,dO,dP,dQ,dR,dS,dT,e354,cG,cH,cI,cJ,aC,aD,aE,aG,aH,aI,aJ,aK,aM,aN,aQ,aR⟩:=a1W HR0.out aA p354 q354;cases e354;have cL:=a0B.mk aI;have cM:=a0B.mk aH;clear aI aH;have cN:=a0B.mk aK;have cO:=a0B.mk aJ;clear aK aJ;have cQ:=a0B.mk aN;have cR:=a0B.mk aM;clear aN aM;have cU:=a0B.mk aR;have cV:=a0B.mk aQ;clear aR aQ;replace p354:=eq_true p354;replace q354:=eq_true q354;have p355:0≤(aA:Int):=zB0 qA0;have q355:aA < (l0.length:Int):=zB0 qA0;obtain ⟨ad355,eY,eZ,fA,fB,fC,fD,fE,fF,e355,dA,dB,dC,dD,bC,bD,bE,bF,aT,aU,aV,aW,aX,aY,aZ,bA⟩:=a1W HR0.out aA p355 q355;obtain rfl:ad354 = ad355:=(by injection e355);have dE:=a0B.mk aU;have dF:=a0B.mk aT;clear aU aT;have dG:=a0B.mk aW;have dH:=a0B.mk aV;clear aW aV;have dI:=a0B.mk aY;have dJ:=a0B.mk aX;clear aY aX;have dK:=a0B.mk bA;have dL:=a0B.mk aZ;clear bA aZ;replace p355:=eq_true p355;replace q355:=eq_true q355;have ea_:=zC0 (aC.symm.trans bC);injection ea_ with ea_ en_ ec_
         subst ea_;subst ec_;clear en_;have ea_:=zC0 (aD.symm.trans bD);injection ea_ with ea_ en_ ec_
         subst ea_;subst ec_;clear en_;have ea_:=zC0 (aE.symm.trans bE);injection ea_ with ea_ en_ ec_
         subst ea_;subst ec_;clear en_;have ea_:=zC0 (aG.symm.trans bF);injection ea_ with ea_ en_ ec_
         subst ea_;subst ec_;clear en_;have p361:0≤(aA:Int):=zB0 qA0;have q361:aA < (l0.length:Int):=zB0 qA0;obtain ⟨ad361,iP,iQ,iR,iS,iT,iU,iV,iW,e361,gX,gY,gZ,iA,eK,eL,eM,eN,bX,bY,bZ,cA,cB,cC,cD,cE⟩:=a1W HR0.out aA p361 q361;obtain rfl:ad354 = ad361:=(by injection e361);have iB:=a0B.mk bY;have iC:=a0B.mk bX;clear bY bX;have iD:=a0B.mk cA;have iE:=a0B.mk bZ;clear cA bZ;have eO:=a0B.mk cC;have eP:=a0B.mk cB;clear cC cB;have iF:=a0B.mk cE;have iG:=a0B.mk cD;clear cE cD;replace p361:=eq_true p361;replace q361:=eq_true q361;have ea_:=zC0 (aC.symm.trans eK);injection ea_ with ea_ en_ ec_
         subst ea_;subst ec_;clear en_;have ea_:=zC0 (aD.symm.trans eL);injection ea_ with ea_ en_ ec_
         subst ea_;subst ec_;clear en_;have ea_:=zC0 (aE.symm.trans eM);injection ea_ with ea_ en_ ec_
         subst ea_;subst ec_;clear en_;have ea_:=zC0 (aG.symm.trans eN);injection ea_ with ea_ en_ ec_
         subst ea_;subst ec_;clear en_;go_wp2_with (first | (go_at_call 23;(with_reducible refine (ih k1 qZ0 _ _ ((a0J l0 aA).f6) a1 true _ ?side1 ?side2 A12.out).mono ?_);(case side1 =>repeat (first | exact eO.out | (with_reducible refine Kd.a1V ?_ _) | (with_reducible refine Kd.a1N ?_ _) | (with_reducible refine Kd.a2B ?_)));(case side2 =>exact eP.out);rintro e w' ⟨rfl,⟨nd,rfl⟩⟩;have p363:0≤(aA:Int):=zB0 qA0;have q363:aA < (l0.length:Int):=zB0 qA0;obtain ⟨ad363,kA,kB,kC,kD,kE,kF,kG,kH,e363,jH,jI,jJ,jK,fY,fZ,gA,gB,eQ,eR,eS,eT,eU,eV,eW,eX⟩:=a1W HR0.out aA p363 q363;obtain rfl:ad354 = ad363:=(by injection e363);have jL:=a0B.mk eR;have jM:=a0B.mk eQ;clear eR eQ;have jN:=a0B.mk eT;have jO:=a0B.mk eS;clear eT eS;have jP:=a0B.mk eV;have jQ:=a0B.mk eU;clear eV eU;have gC:=a0B.mk eX;have gD:=a0B.mk eW;clear eX eW;replace p363:=eq_true p363;replace q363:=eq_true q363;have ea_:=zC0 (aC.symm.trans fY);injection ea_ with ea_ en_ ec_;subst ea_;subst ec_;clear en_;have ea_:=zC0 (aD.symm.trans fZ);injection ea_ with ea_ en_ ec_;subst ea_;subst ec_;clear en_;have ea_:=zC0 (aE.symm.trans gA);injection ea_ with ea_ en_ ec_;subst ea_;subst ec_;clear en_;have ea_:=zC0 (aG.symm.trans gB);injection ea_ with ea_ en_ ec_;subst ea_;subst ec_;clear en_) | (go_at_call 23;(with_reducible refine (ih k1 qZ0 _ _ ((a0J l0 aA).f7) a1 false _ ?side1 ?side2 A14.out).mono ?_);(case side1 =>repeat (first | exact gC.out | (with_reducible refine Kd.a1V ?_ _) | (with_reducible refine Kd.a1N ?_ _) | (with_reducible refine Kd.a2B ?_)));(case side2 =>exact gD.out);rintro e w' ⟨rfl,⟨nd,rfl⟩⟩));go_ret;exact qE3
       ·replace c13:=Bool.eq_false_iff.mpr c13;subst c13;rw [if_neg (show ¬ (false = true) by decide)] at H;obtain rfl:=zC0 H;have p354:0≤(aA:Int):=zB0 qA0;have q354:aA < (l0.length:Int):=zB0 qA0;obtain ⟨ad354,dM,dN,dO,dP,dQ,dR,dS,dT,e354,cG,cH,cI,cJ,aC,aD,aE,aG,aH,aI,aJ,aK,aM,aN,aQ,aR⟩:=a1W HR0.out aA p354 q354;cases e354;have cL:=a0B.mk aI;have cM:=a0B.mk aH;clear aI aH;have cN:=a0B.mk aK;have cO:=a0B.mk aJ;clear aK aJ;have cQ:=a0B.mk aN;have cR:=a0B.mk aM;clear aN aM;have cU:=a0B.mk aR;have cV:=a0B.mk aQ;clear aR aQ;replace p354:=eq_true p354;replace q354:=eq_true q354;have p355:0≤(aA:Int):=zB0 qA0;have q355:aA < (l0.length:Int):=zB0 qA0;obtain ⟨ad355,eY,eZ,fA,fB,fC,fD,fE,fF,e355,dA,dB,dC,dD,bC,bD,bE,bF,aT,aU,aV,aW,aX,aY,aZ,bA⟩:=a1W HR0.out aA p355 q355;obtain rfl:ad354 = ad355:=(by injection e355);have dE:=a0B.mk aU;have dF:=a0B.mk aT;clear aU aT;have dG:=a0B.mk aW;have dH:=a0B.mk aV;clear aW aV;have dI:=a0B.mk aY;have dJ:=a0B.mk aX;clear aY aX;have dK:=a0B.mk bA;have dL:=a0B.mk aZ;clear bA aZ;replace p355:=eq_true p355;replace q355:=eq_true q355;have ea_:=zC0 (aC.symm.trans bC);injection ea_ with ea_ en_ ec_
        subst ea_;subst ec_;clear en_;have ea_:=zC0 (aD.symm.trans bD);injection ea_ with ea_ en_ ec_
        subst ea_;subst ec_;clear en_;have ea_:=zC0 (aE.symm.trans bE);injection ea_ with ea_ en_ ec_
        subst ea_;subst ec_;clear en_;have ea_:=zC0 (aG.symm.trans bF);injection ea_ with ea_ en_ ec_
        subst ea_;subst ec_;clear en_;have p361:0≤(aA:Int):=zB0 qA0;have q361:aA < (l0.length:Int):=zB0 qA0;obtain ⟨ad361,iP,iQ,iR,iS,iT,iU,iV,iW,e361,gX,gY,gZ,iA,eK,eL,eM,eN,bX,bY,bZ,cA,cB,cC,cD,cE⟩:=a1W HR0.out aA p361 q361;obtain rfl:ad354 = ad361:=(by injection e361);have iB:=a0B.mk bY;have iC:=a0B.mk bX;clear bY bX;have iD:=a0B.mk cA;have iE:=a0B.mk bZ;clear cA bZ;have eO:=a0B.mk cC;have eP:=a0B.mk cB;clear cC cB;have iF:=a0B.mk cE;have iG:=a0B.mk cD;clear cE cD;replace p361:=eq_true p361;replace q361:=eq_true q361;have ea_:=zC0 (aC.symm.trans eK);injection ea_ with ea_ en_ ec_
        subst ea_;subst ec_;clear en_;have ea_:=zC0 (aD.symm.trans eL);injection ea_ with ea_ en_ ec_
        subst ea_;subst ec_;clear en_;have ea_:=zC0 (aE.symm.trans eM);injection ea_ with ea_ en_ ec_
        subst ea_;subst ec_;clear en_;have ea_:=zC0 (aG.symm.trans eN);injection ea_ with ea_ en_ ec_
        subst ea_;subst ec_;clear en_;go_wp2_with (first | (go_at_call 23;(with_reducible refine (ih k1 qZ0 _ _ ((a0J l0 aA).f6) a1 false _ ?side1 ?side2 A12.out).mono ?_);(case side1 =>repeat (first | exact eO.out | (with_reducible refine Kd.a1V ?_ _) | (with_reducible refine Kd.a1N ?_ _) | (with_reducible refine Kd.a2B ?_)));(case side2 =>exact eP.out);rintro e w' ⟨rfl,⟨nd,rfl⟩⟩));go_ret;exact qE3
    ·rw [if_neg c4] at H;exact absurd H qE0
   ·rw [if_neg c3] at H;have c3b0:decide (aA < (l0.length:Int)) = false:=zM0 c3;clear c3;obtain rfl:=zC0 H;go_wp2;go_ret;exact qE3
end Go.Proofs.YthhgfncliffggaaGreat.Pr
namespace Go.Proofs.YthhgfncliffggaaGreat.Man
open Go.RowKit Go.Proofs.YthhgfncliffggaaGreat.Pr Go.Proofs.YthhgfncliffggaaGreatW.PrintWords
section
variable {fs:List S34}
theorem sig_rd {i:Nat} (hi:i < fs.length):(a2X (sigsF fs) (i:Int)).f2 = wrF fs (numN (callsF fs) i):=by
 unfold a2X;rw [zK0,zE0,a9D hi];rfl
theorem sig_len (hs:SmG fs) {i:Nat} (hi:i < fs.length):(a2X (sigsF fs) (i:Int)).f2.length≤1050000:=by
 rw [sig_rd hi];exact zF0 (wrF_len hs hi) hs.u
end
open Go.Proofs.YthhgfncliffggaaGreat.Tarj
def QuietS (nm:ByteArray) (s:S65):Prop:=s.f0≠6∧¬ (s.f0 = 5∧s.f3 = nm)
theorem quiet_ev (nm:ByteArray):∀ (m:Nat) (l:List S65),SizeOf.sizeOf l < m→Low l→∃ b,Ev (fun k =>w14_quiet.f k l nm) b∧(b = true→∀ s,s ∈ flat l→QuietS nm s):=by
 intro m
 induction m with
 | zero =>intro l h;omega
 | succ m ih =>
  intro l hm hl;have hlen:=hl.1;have main:∀ d i:Nat,i + d = l.length→∃ b,Ev (fun k =>w14_quiet.l0 k l nm (i:Int)) b∧(b = true→∀ s,s ∈ flat (l.drop i)→QuietS nm s):=by
   intro d
   induction d with
   | zero =>
    intro i hi;have c:¬ (i:Int) < (l.length:Int):=by omega
    refine ⟨true,Ev.step ?_,fun _ s hs =>?_⟩
    ·simp only [w14_quiet.l0,if_neg c];exact Ev.const _
    ·rw [zE3 qC0,flat] at hs;cases hs
   | succ d ihd =>
    intro i hi;have c:(i:Int) < (l.length:Int):=by omega
    have c0:0≤(i:Int):=zH0 i;obtain ⟨h6,h7⟩:=hl.sub i qC0;obtain ⟨s6,s7⟩:=a8K l i qC0;obtain ⟨b6,e6,q6⟩:=ih _ qC0 h6;obtain ⟨b7,e7,q7⟩:=ih _ qC0 h7;obtain ⟨b,e,q⟩:=ihd (i + 1) qC0;have hd:=b8F l i qC0;have hw:=pzB i qC0;obtain ⟨t,ht⟩:∃ t,t = a0J l (i:Int):=⟨_,rfl⟩;rw [← ht] at h6 h7 s6 s7 e6 q6 e7 q7 hd;have hmem:∀ s,s ∈ flat (l.drop i)→s = t∨s ∈ flat t.f6∨s ∈ flat t.f7∨s ∈ flat (l.drop (i + 1)):=fun s hs =>by
     rw [hd,flat] at hs;simpa [zT0] using hs
    have TAIL:∃ b,Ev (fun k =>(w14_quiet.f k t.f6 nm).bind fun u =>(if u = true then ((w14_quiet.f k t.f7 nm).bind fun v =>(if v = true then (w14_quiet.l0 k l nm ((i + 1:Nat):Int)) else (some false))) else (some false))) b∧(b = true→QuietS nm t→∀ s,s ∈ flat (l.drop i)→QuietS nm s):=by
     cases b6 with
     | false =>exact ⟨false,Ev.bind e6 (by simp only [Bool.false_eq_true,if_false];exact Ev.const _),fun h =>by cases h⟩
     | true =>
      cases b7 with
      | false =>exact ⟨false,Ev.bind e6 (by simp only [if_true];exact Ev.bind e7 (by simp only [Bool.false_eq_true,if_false];exact Ev.const _)),fun h =>by cases h⟩
      | true =>
       refine ⟨b,Ev.bind e6 (by simp only [if_true];exact Ev.bind e7 (by simp only [if_true];exact e)),fun h hq s hs =>?_⟩;rcases hmem s hs with rfl | h1 | h1 | h1
       ·exact hq
       ·exact q6 rfl s h1
       ·exact q7 rfl s h1
       ·exact q h s h1
    obtain ⟨bt,et,qt⟩:=TAIL;by_cases h6':t.f0 = 6
    ·refine ⟨false,Ev.step ?_,fun h =>by cases h⟩;simp only [w14_quiet.l0,if_pos c,if_pos c0,← ht,if_pos h6'];exact Ev.const _
    ·by_cases h5:t.f0 = 5
     ·by_cases hnm:t.f3.toList = nm.toList
      ·refine ⟨false,Ev.step ?_,fun h =>by cases h⟩;simp only [w14_quiet.l0,if_pos c,if_pos c0,← ht,if_neg h6',if_pos h5,if_pos hnm];exact Ev.const _
      ·refine ⟨bt,Ev.step ?_,fun h =>qt h ⟨h6',fun h' =>hnm (by rw [h'.2])⟩⟩;simp only [w14_quiet.l0,if_pos c,if_pos c0,← ht,if_neg h6',if_pos h5,if_neg hnm,hw];exact et
     ·refine ⟨bt,Ev.step ?_,fun h =>qt h ⟨h6',fun h' =>h5 h'.1⟩⟩;simp only [w14_quiet.l0,if_pos c,if_pos c0,← ht,if_neg h6',if_neg h5,hw];exact et
  obtain ⟨b,e,q⟩:=main l.length 0 qC0;refine ⟨b,Ev.step ?_,fun h s hs =>q h s (by rw [zZ2];exact hs)⟩;simp only [w14_quiet.f];exact e
section
variable {fs:List S34} {f:S34}
theorem a9Q (nm:ByteArray) (hf:f.f0≠nm):∀ (l:List S34) (i:Nat),firstIx nm (l ++ [f]) i = firstIx nm l i
 | [],i =>by
  have h:¬ (f.f0.toList == nm.toList) = true:=fun h =>hf (a9X (by rw [← Lib.toList_data,← Lib.toList_data];exact beq_iff_eq.1 h))
  simp only [zJ2,firstIx,if_neg h]
 | g :: r,i =>by
  have ih:=a9Q nm hf r (i + 1);simp only [zK3,firstIx,ih]
theorem coll_app {L:List S65} (h:∀ s,s ∈ L→QuietS f.f0 s):coll (fs ++ [f]) L = coll fs L:=by
 induction L with
 | nil =>rfl
 | cons s r ih =>
  have h1:=(h s zN0).2;have ih:=ih (fun x hx =>h x (zP0 _ hx));have e:calledBy (fs ++ [f]) s = calledBy fs s:=by
   unfold calledBy;by_cases h5:s.f0 = 5
   ·have hne:f.f0≠s.f3:=fun e =>h1 ⟨h5,e.symm⟩
    have ef:funIx (fs ++ [f]) s.f3 = funIx fs s.f3:=a9Q s.f3 hne fs 0
    rw [ef]
   ·rw [if_neg (fun h =>h5 h.1),if_neg (fun h =>h5 h.1)]
  unfold coll at *;rw [List.flatMap_cons,List.flatMap_cons,e,ih]
theorem b4V {g:S34} (h:∀ s,s ∈ flat g.f2→QuietS f.f0 s):callsOf (fs ++ [f]) g = callsOf fs g:=by
 have ha:¬ applies (flat g.f2) = true:=by
  intro h';unfold applies at h';rw [List.any_eq_true] at h';obtain ⟨s,hs,h6⟩:=h';exact (h s hs).1 (by simpa using h6)
 unfold callsOf;rw [if_neg ha,if_neg ha,coll_app h]
theorem adj_app (hq:∀ g,g ∈ fs→∀ s,s ∈ flat g.f2→QuietS f.f0 s) {y:Nat} (hy:y < fs.length):adjF (callsF (fs ++ [f])) y = adjF (callsF fs) y:=by
 have e:(callsF (fs ++ [f])).getD y [] = (callsF fs).getD y []:=by
  unfold callsF;rw [zE0,zE0,List.getElem?_map,List.getElem?_map,List.getElem?_append_left hy,zD0 hy];simp only [zH2,zL2];exact b4V (hq _ (zD1 hy))
 unfold adjF;rw [e]
theorem b2C {i:Nat} (hi:i < fs.length):fnAt (fs ++ [f]) i = fnAt fs i:=by
 unfold fnAt a0V;rw [zK0,zE0,zE0,List.getElem?_append_left hi]
theorem rch_app {adj adj':Nat→List Nat} {N:Nat} (hN:∀ x,x < N→∀ y,y ∈ adj x→y < N) (he:∀ y,y < N→adj' y = adj y) {i z:Nat} (hi:i < N):Rch adj' i z ↔ Rch adj i z:=by
 constructor
 ·intro r
  induction r with
  | refl x =>exact .refl _
  | @step x y z h r ih =>rw [he x hi] at h;exact .step h (ih (hN x hi y h))
 ·intro r
  induction r with
  | refl x =>exact .refl _
  | @step x y z h r ih =>exact .step (by rw [he x hi];exact h) (ih (hN x hi y h))
theorem behind14 (hn:(fs ++ [f]).length≤1000) (hq:∀ g,g ∈ fs→∀ s,s ∈ flat g.f2→QuietS f.f0 s):(sigsF (fs ++ [f])).take (sigsF fs).length = sigsF fs:=by
 have hl:(fs ++ [f]).length = fs.length + 1:=by simp
 have hn1:fs.length≤1000:=by omega
 have hN:=(a4F (a9W hn1)).adj;rw [a8B] at hN;apply zE2;intro i;rw [a4W,List.getElem?_take];by_cases hi:i < fs.length
 ·rw [if_pos hi,a9D hi,a9D (show i < (fs ++ [f]).length by omega),b2C hi];have e:wrF (fs ++ [f]) (numN (callsF (fs ++ [f])) i) = wrF fs (numN (callsF fs) i):=by
   refine (b1C _).ext (b1C _) (fun x =>?_);rw [b1D hn qC0,b1D hn1 hi];have hr:=fun z =>rch_app (adj':=adjF (callsF (fs ++ [f]))) hN (fun y hy =>adj_app hq hy) (i:=i) (z:=z) hi
   constructor
   ·rintro ⟨z,hz,r,hx⟩;have r2:=(hr z).1 r;have hz2:=r2.lt hN hi;rw [b2C hz2] at hx;exact ⟨z,hz2,r2,hx⟩
   ·rintro ⟨z,hz,r,hx⟩;exact ⟨z,by omega,(hr z).2 r,by rw [b2C hz];exact hx⟩
  rw [e]
 ·rw [if_neg hi,List.getElem?_eq_none (by rw [a4W];omega)]
end
end Go.Proofs.YthhgfncliffggaaGreat.Man
