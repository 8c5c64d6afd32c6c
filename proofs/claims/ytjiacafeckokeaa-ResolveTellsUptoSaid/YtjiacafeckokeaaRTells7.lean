/- A part of the proof that ResolveTells returns true for every argument. No conditions beyond the given statement's own. -/
import Derived.Test.YtjiacafeckokeaaRTells3
import Derived.Test.YtjiacafeckokeaaRTells6
import Derived.Test.YtjiacafeckokeaaRTells2
import Derived.Test.YtjiacafeckokeaaRTells5
import Derived.RegionTactic
import Derived.ChangeAlike
set_option linter.unusedVariables false
set_option linter.unusedSimpArgs false
namespace Go.Proofs.Ytjiacafeckokeaa.Man
open Go.RowKit Go.Proofs.Ytjiacafeckokeaa.Pr Go.Proofs.YtjiacafeckokeaaW.PrintWords
theorem pzB (n:Nat) (h:n≤1000000000):wrap64 ((n:Int) + 1) = ((n + 1:Nat):Int):=by simp only [wrap64];omega
def Low (l:List S46):Prop:=l.length≤2000000∧∀ s ∈ flat l,s.f6.length≤2000000∧s.f7.length≤2000000
theorem b5T (l:List S46) (k:Nat) (h:k < l.length) (s:S46) (hs:s ∈ flat (a0J l k).f6):s ∈ flat l:=a6O l k h s (by simp [hs])
theorem b5S (l:List S46) (k:Nat) (h:k < l.length) (s:S46) (hs:s ∈ flat (a0J l k).f7):s ∈ flat l:=a6O l k h s (by simp [hs])
theorem Low.sub {l:List S46} (h:Low l) (k:Nat) (hk:k < l.length):Low (a0J l (k:Int)).f6∧Low (a0J l (k:Int)).f7:=by
 have h0:=h.2 _ (a6O l k hk (a0J l k) (by simp))
 exact ⟨⟨h0.1,fun s hs =>h.2 s (b5T l k hk s hs)⟩,⟨h0.2,fun s hs =>h.2 s (b5S l k hk s hs)⟩⟩
theorem deep_ev:∀ (m:Nat) (l:List S46),SizeOf.sizeOf l < m→Low l→∀ a:Int,∃ r,Ev (fun k =>r03_Deep.f k l a) r:=by
 intro m
 induction m with
 | zero =>intro l h;omega
 | succ m ih =>
  intro l hm hl a
  have hlen:=hl.1
  have main:∀ d i:Nat,i + d = l.length→∀ x5:Int,∃ r,Ev (fun k =>r03_Deep.l0 k l a x5 (i:Int)) r:=by
   intro d
   induction d with
   | zero =>
    intro i hi x5
    have c:¬ (i:Int) < (l.length:Int):=by omega
    refine ⟨x5,Ev.step ?_⟩
    simp only [r03_Deep.l0,if_neg c]
    refine Ev.step ?_
    simp only [r03_Deep.j1,Bool.false_eq_true,if_false]
    exact Ev.const _
   | succ d ihd =>
    intro i hi x5
    have c:(i:Int) < (l.length:Int):=by omega
    have c0:0≤(i:Int):=Int.natCast_nonneg i
    by_cases ha:a > 0
    ·obtain ⟨h6,h7⟩:=hl.sub i (by omega)
     obtain ⟨s6,s7⟩:=a8A l i (by omega)
     obtain ⟨r6,e6⟩:=ih _ (by omega) h6 (wrap64 (a - 1))
     obtain ⟨r7,e7⟩:=ih _ (by omega) h7 (wrap64 (a - 1))
     obtain ⟨r,e⟩:=ihd (i + 1) (by omega) (mx x5 (wrap64 (1 + (mx r6 r7))))
     refine ⟨r,Ev.step ?_⟩
     simp only [r03_Deep.l0,if_pos c,decide_eq_true ha]
     refine Ev.step ?_
     simp only [r03_Deep.j1,if_true,if_pos c0,if_pos c]
     refine Ev.bind e6 (Ev.bind e7 ?_)
     rw [pzB i (by omega)]
     exact e
    ·refine ⟨x5,Ev.step ?_⟩
     simp only [r03_Deep.l0,if_pos c,decide_eq_false ha]
     refine Ev.step ?_
     simp only [r03_Deep.j1,Bool.false_eq_true,if_false]
     exact Ev.const _
  obtain ⟨r,e⟩:=main l.length 0 (by omega) 0
  refine ⟨r,Ev.step ?_⟩
  simp only [r03_Deep.f]
  exact e
theorem count_ev:∀ (m:Nat) (l:List S46),SizeOf.sizeOf l < m→Low l→∃ r,Ev (fun k =>r03_Count.f k l) r:=by
 intro m
 induction m with
 | zero =>intro l h;omega
 | succ m ih =>
  intro l hm hl
  have hlen:=hl.1
  have main:∀ d i:Nat,i + d = l.length→∀ x:Int,∃ r,Ev (fun k =>r03_Count.l0 k l x (i:Int)) r:=by
   intro d
   induction d with
   | zero =>
    intro i hi x
    have c:¬ (i:Int) < (l.length:Int):=by omega
    refine ⟨x,Ev.step ?_⟩
    simp only [r03_Count.l0,if_neg c]
    exact Ev.const _
   | succ d ihd =>
    intro i hi x
    have c:(i:Int) < (l.length:Int):=by omega
    have c0:0≤(i:Int):=Int.natCast_nonneg i
    obtain ⟨h6,h7⟩:=hl.sub i (by omega)
    obtain ⟨s6,s7⟩:=a8A l i (by omega)
    obtain ⟨r6,e6⟩:=ih _ (by omega) h6
    obtain ⟨r7,e7⟩:=ih _ (by omega) h7
    obtain ⟨r,e⟩:=ihd (i + 1) (by omega) (wrap64 (x + (wrap64 (r6 + r7))))
    refine ⟨r,Ev.step ?_⟩
    simp only [r03_Count.l0,if_pos c,if_pos c0]
    refine Ev.bind e6 (Ev.bind e7 ?_)
    rw [pzB i (by omega)]
    exact e
  obtain ⟨r,e⟩:=main l.length 0 (by omega) (l.length:Int)
  refine ⟨r,Ev.step ?_⟩
  simp only [r03_Count.f]
  exact e
def LowP (fs:List S32):Prop:=fs.length≤2000000∧∀ f ∈ fs,f.f1.length≤2000000∧(flat f.f2).length≤2000000∧Low f.f2
theorem a9S {fs:List S32} {i:Nat} (h:i < fs.length):a0P fs (i:Int) ∈ fs:=by
 unfold a0P;rw [Int.toNat_natCast,List.getD_eq_getElem?_getD,List.getElem?_eq_getElem h];exact List.getElem_mem h
theorem big_ev (fs:List S32) (hl:LowP fs):∃ b,Ev (fun k =>r03_Big.f k fs) b:=by
 have hlen:=hl.1
 have main:∀ d i:Nat,i + d = fs.length→∀ x:Int,∃ b,Ev (fun k =>r03_Big.l0 k x (i:Int) fs) b:=by
  intro d
  induction d with
  | zero =>
   intro i hi x
   have c:¬ (i:Int) < (fs.length:Int):=by omega
   by_cases hx:x > 3000
   ·exact ⟨true,Ev.step (by simp only [r03_Big.l0,if_neg c,if_pos hx];exact Ev.const _)⟩
   ·exact ⟨_,Ev.step (by simp only [r03_Big.l0,if_neg c,if_neg hx];exact Ev.const _)⟩
  | succ d ihd =>
   intro i hi x
   have c:(i:Int) < (fs.length:Int):=by omega
   have c0:0≤(i:Int):=Int.natCast_nonneg i
   have hf:=hl.2 _ (a9S (fs:=fs) (i:=i) (by omega))
   obtain ⟨rd,ed⟩:=deep_ev _ _ (Nat.lt_succ_self _) hf.2.2 60
   obtain ⟨rc,ec⟩:=count_ev _ _ (Nat.lt_succ_self _) hf.2.2
   by_cases hd:rd ≥ 60
   ·refine ⟨true,Ev.step ?_⟩
    simp only [r03_Big.l0,if_pos c,if_pos c0]
    refine Ev.bind ed ?_
    simp only [if_pos hd]
    exact Ev.const _
   ·obtain ⟨b,e⟩:=ihd (i + 1) (by omega) (wrap64 (x + (wrap64 (rc + (((a0P fs (i:Int)).f1).length:Int)))))
    refine ⟨b,Ev.step ?_⟩
    simp only [r03_Big.l0,if_pos c,if_pos c0]
    refine Ev.bind ed ?_
    simp only [if_neg hd]
    refine Ev.bind ec ?_
    rw [pzB i (by omega)]
    exact e
 exact main fs.length 0 (by omega) 0
theorem eta_stmt (s:S46):(⟨s.f0,s.f1,s.f2,s.f3,s.f4,s.f5,s.f6,s.f7⟩:S46) = s:=by cases s;rfl
theorem b2E:∀ (m:Nat) (l:List S46),SizeOf.sizeOf l < m→Low l→(flat l).length≤2000000→Ev (fun k =>r04_List.f k l) (flat l):=by
 intro m
 induction m with
 | zero =>intro l h;omega
 | succ m ih =>
  intro l hm hl hn
  have hlen:=hl.1
  have main:∀ d i:Nat,i + d = l.length→Ev (fun k =>r04_List.l0 k l (flat (l.take i)) (i:Int)) (flat l):=by
   intro d
   induction d with
   | zero =>
    intro i hi
    have c:¬ (i:Int) < (l.length:Int):=by omega
    refine Ev.step ?_
    simp only [r04_List.l0,if_neg c]
    rw [show l.take i = l from List.take_of_length_le (by omega)]
    exact Ev.const _
   | succ d ihd =>
    intro i hi
    have hil:i < l.length:=by omega
    have c:(i:Int) < (l.length:Int):=by omega
    have c0:0≤(i:Int):=Int.natCast_nonneg i
    obtain ⟨h6,h7⟩:=hl.sub i hil
    obtain ⟨s6,s7⟩:=a8A l i hil
    have hfl:=b3H l i hil
    have e6:=ih _ (by omega) h6 (by omega)
    have e7:=ih _ (by omega) h7 (by omega)
    have e:=ihd (i + 1) (by omega)
    have ht:=a2Z l i hil
    have hg:l[i] = a0J l (i:Int):=by unfold a0J;simp [List.getD,hil]
    rw [hg] at ht
    refine Ev.step ?_
    have c1:(flat (l.take i)).length < 925904528653:=by omega
    have c2:(flat (l.take i) ++ [a0J l (i:Int)]).length + (flat (a0J l (i:Int)).f6).length < 925904528653:=by simp;omega
    have c3:(flat (l.take i) ++ [a0J l (i:Int)] ++ flat (a0J l (i:Int)).f6).length + (flat (a0J l (i:Int)).f7).length < 925904528653:=by simp;omega
    simp only [r04_List.l0,if_pos c,if_pos c0,if_pos c1,eta_stmt,Option.bind_some]
    refine Ev.bind e6 ?_
    simp only [if_pos c2,Option.bind_some]
    refine Ev.bind e7 ?_
    simp only [if_pos c3]
    rw [pzB i (by omega)]
    rw [ht] at e
    simpa [List.append_assoc] using e
  have:=main l.length 0 (by omega)
  refine Ev.step ?_
  simp only [r04_List.f]
  simpa [flat] using this
theorem a9H (fs:List S32) (hl:fs.length≤2000000) (nm:ByteArray):Ev (fun k =>r05_Fun.f k fs nm) (funIx fs nm):=by
 have main:∀ d i:Nat,i + d = fs.length→Ev (fun k =>r05_Fun.l0 k nm (i:Int) fs) (firstIx nm (fs.drop i) i):=by
  intro d
  induction d with
  | zero =>
   intro i hi
   have c:¬ (i:Int) < (fs.length:Int):=by omega
   refine Ev.step ?_
   simp only [r05_Fun.l0,if_neg c]
   rw [List.drop_of_length_le (by omega)]
   exact Ev.const _
  | succ d ihd =>
   intro i hi
   have c:(i:Int) < (fs.length:Int):=by omega
   have c0:0≤(i:Int):=Int.natCast_nonneg i
   have e:=ihd (i + 1) (by omega)
   rw [a7H fs i (by omega)]
   refine Ev.step ?_
   simp only [r05_Fun.l0,if_pos c,if_pos c0,firstIx]
   by_cases h:(a0P fs (i:Int)).f0.toList = nm.toList
   ·have h':((a0P fs (i:Int)).f0.toList == nm.toList) = true:=by simpa using h
    simp only [if_pos h,h',if_true]
    exact Ev.const _
   ·have h':((a0P fs (i:Int)).f0.toList == nm.toList) = false:=by simpa using h
    simp only [if_neg h,h',Bool.false_eq_true,if_false]
    rw [pzB i (by omega)]
    exact e
 exact main fs.length 0 (by omega)
def leads (fs:List S32) (L:List S46) (g:Int):Bool:=L.any fun s =>s.f0 == 6 || (s.f0 == 5 && funIx fs s.f3 == g)
theorem b1Z (L:List S46) (i:Nat) (h:i < L.length):L.drop i = a0J L (i:Int) :: L.drop (i + 1):=by
 rw [List.drop_eq_getElem_cons h]
 congr 1
 unfold a0J;simp [List.getD,h]
open Go.RowKit Go.Proofs.Ytjiacafeckokeaa.Pr Go.Proofs.YtjiacafeckokeaaW.PrintWords
theorem b5B {l:List ByteArray} {m:Nat} (h:∀ b,b ∈ l→b.size≤m) (i:Nat):(rdOf ByteArray.empty l (i:Int)).size≤m:=by
 unfold rdOf
 rw [Int.toNat_natCast,List.getD_eq_getElem?_getD]
 by_cases hi:i < l.length
 ·rw [List.getElem?_eq_getElem hi];exact h _ (List.getElem_mem hi)
 ·rw [List.getElem?_eq_none (by omega)];exact Nat.zero_le _
theorem fitS_of {s:S46} {n:Nat} (hn:n≤1050000) (h:s.f4.length≤n∧s.f5.length≤n∧s.f6.length≤n∧s.f7.length≤n∧∀ b ∈ s.f5,b.size≤n):FitS s :=
 ⟨Nat.le_trans h.1 hn,Nat.le_trans h.2.1 hn,fun i =>Nat.le_trans (b5B h.2.2.2.2 i) (Nat.le_trans hn (by decide))⟩
theorem fitN_of {f:S32} {n:Nat} (hn:n≤1050000) (h:FitF f n):FitN f :=
 ⟨Nat.le_trans h.1 hn,fun i =>Nat.le_trans (b5B h.2.2 i) (Nat.le_trans hn (by decide)),Nat.le_trans h.2.1.1 (Nat.le_trans hn (by decide)),fun s hs =>fitS_of hn (h.2.1.2 s hs)⟩
theorem b2G {l:List S32} {n:Nat} (hn:n≤1050000) (h:FitP l n) (ht:(l.flatMap fun f =>flat f.f2).length≤n):FitW l :=
 ⟨⟨Nat.le_trans h.1 hn,fun f hf =>fitN_of hn (h.2 f hf)⟩,Nat.le_trans ht (Nat.le_trans hn (by decide))⟩
theorem b2D {l:List S32} {n:Nat} (h:FitP l n) (hn:n≤2000000):LowP l :=
 ⟨by have:=h.1;omega,fun f hf =>by
  obtain ⟨h1,⟨h2,h3⟩,h4⟩:=h.2 f hf
  exact ⟨by omega,by omega,by have:=len_flat f.f2;omega,fun s hs =>by have:=h3 s hs;omega⟩⟩
open Go.RowKit Go.Proofs.Ytjiacafeckokeaa.Pr Go.Proofs.YtjiacafeckokeaaW.PrintWords
def withB (s:ByteArray):Bool→List ByteArray→List ByteArray
 | laid,[] =>if laid = true then [] else [s]
 | laid,x :: r =>if laid = false∧Op.bytesLess x.toList s.toList = false then (if Op.bytesLess s.toList x.toList = true then s :: x :: withB s true r else x :: withB s true r) else x :: withB s laid r
theorem b6D {a n:Nat} (h:a≤n + 1) (hn:n≤8000000000000):a < 8796093022208:=Nat.lt_of_le_of_lt (Nat.le_trans h (Nat.add_le_add_right hn 1)) (by decide)
theorem pzL (n:Nat) (h:n≤8000000000000):wrap64 ((n:Int) + 1) = ((n + 1:Nat):Int):=by simp only [wrap64];omega
theorem with_evL (l:List ByteArray) (s:ByteArray) (hl:l.length≤8000000000000):∀ (m j:Nat) (acc:List ByteArray) (laid:Bool),j + m = l.length→acc.length≤j + (if laid = true then 1 else 0) →
  Ev (fun k =>r05_With.l0 k l s acc laid (j:Int)) (acc ++ withB s laid (l.drop j)):=by
 intro m
 induction m with
 | zero =>
  intro j acc laid hj ha
  have hje:j = l.length:=hj
  have hnl:¬ ((j:Int) < (l.length:Int)):=by rw [hje];exact Int.lt_irrefl _
  have ha':acc.length≤l.length + 1:=by
   rw [← hje];refine Nat.le_trans ha ?_;split <;> omega
  have hcap:=b6D ha' hl
  refine Ev.step ?_
  simp only [r05_With.l0,if_neg hnl,if_pos hcap]
  rw [hje,List.drop_of_length_le (Nat.le_refl _)]
  cases laid with
  | true =>simpa [withB] using Ev.const acc
  | false =>simpa [withB] using Ev.const (acc ++ [s])
 | succ m ih =>
  intro j acc laid hj ha
  have hjl:j < l.length:=by omega
  have c1:(0:Int)≤(j:Int):=Int.natCast_nonneg j
  have c2:(j:Int) < (l.length:Int):=Int.ofNat_lt.2 hjl
  have hw:=pzL j (Nat.le_trans (Nat.le_of_lt hjl) hl)
  obtain ⟨hd,_⟩:=a7G l j hjl
  obtain ⟨x,hx⟩:∃ x,x = rdOf ByteArray.empty l (j:Int):=⟨_,rfl⟩
  have ha1:acc.length≤l.length + 1:=by refine Nat.le_trans ha ?_;split <;> omega
  have hcap:=b6D ha1 hl
  refine Ev.step (Ev.step ?_)
  rw [hd]
  cases laid with
  | true =>
   have h2:=ih (j + 1) (acc ++ [x]) true (by omega) (by simp at ha ⊢;omega)
   simp only [r05_With.l0,r05_With.j1,if_pos c1,if_pos c2,if_true,Bool.false_eq_true,if_false,if_pos hcap,← hx,hw]
   rw [show acc ++ withB s true (x :: l.drop (j + 1)) = (acc ++ [x]) ++ withB s true (l.drop (j + 1)) by simp [withB]]
   exact h2
  | false =>
   have ha0:acc.length≤j:=by simpa using ha
   simp only [r05_With.l0,r05_With.j1,if_pos c1,if_pos c2,Bool.false_eq_true,if_false,if_pos hcap,← hx,hw]
   cases hb:Op.bytesLess x.toList s.toList with
   | true =>
    have h2:=ih (j + 1) (acc ++ [x]) false (by omega) (by simp;omega)
    simp only [Bool.not_true,Bool.false_eq_true,if_false]
    rw [show acc ++ withB s false (x :: l.drop (j + 1)) = (acc ++ [x]) ++ withB s false (l.drop (j + 1)) by simp [withB,hb]]
    exact h2
   | false =>
    simp only [Bool.not_false,if_true]
    cases hs:Op.bytesLess s.toList x.toList with
    | true =>
     have h2:=ih (j + 1) (acc ++ [s] ++ [x]) true (by omega) (by simp;omega)
     have hcap2:(acc ++ [s]).length < 8796093022208:=b6D (n:=l.length) (by simp;omega) hl
     simp only [if_true,Option.bind_some,if_pos hcap2]
     rw [show acc ++ withB s false (x :: l.drop (j + 1)) = (acc ++ [s] ++ [x]) ++ withB s true (l.drop (j + 1)) by simp [withB,hb,hs]]
     exact h2
    | false =>
     have h2:=ih (j + 1) (acc ++ [x]) true (by omega) (by simp;omega)
     simp only [Bool.false_eq_true,if_false]
     rw [show acc ++ withB s false (x :: l.drop (j + 1)) = (acc ++ [x]) ++ withB s true (l.drop (j + 1)) by simp [withB,hb,hs]]
     exact h2
def withN (l:List ByteArray) (s:ByteArray):List ByteArray:=withB s (s.toList == ([]:List UInt8)) l
theorem with_ev (l:List ByteArray) (s:ByteArray) (hl:l.length≤8000000000000):Ev (fun k =>r05_With.f k l s) (withN l s):=by
 have h:=with_evL l s hl l.length 0 [] (s.toList == ([]:List UInt8)) (by omega) (by simp)
 simpa [r05_With.f,withN] using h
theorem b4J (s:ByteArray):∀ (l:List ByteArray) (laid:Bool),(withB s laid l).length≤l.length + 1:=by
 intro l
 induction l with
 | nil =>intro laid;unfold withB;split <;> simp
 | cons x r ih =>
  intro laid
  have ht:(withB s true r).length≤r.length:=by
   clear ih
   induction r with
   | nil =>simp [withB]
   | cons y q ihq =>unfold withB;rw [if_neg (by simp)];simp;exact ihq
  unfold withB
  split
  ·split
   ·simp;omega
   ·simp;omega
  ·simp;exact ih laid
theorem a5H (l:List ByteArray) (s:ByteArray):(withN l s).length≤l.length + 1:=b4J s l _
theorem b4I (s:ByteArray):∀ (l:List ByteArray) (laid:Bool),(withB s laid l).map (·.data.toList) = withK s.data.toList laid (l.map (·.data.toList)):=by
 intro l
 induction l with
 | nil =>intro laid;cases laid <;> simp [withB,withK]
 | cons x r ih =>
  intro laid
  have e1:(Op.bytesLess x.toList s.toList = false) ↔ ¬ x.data.toList < s.data.toList:=by rw [bytesLess_eq,Lib.toList_data,Lib.toList_data];simp
  have e2:(Op.bytesLess s.toList x.toList = true) ↔ s.data.toList < x.data.toList:=by rw [bytesLess_eq,Lib.toList_data,Lib.toList_data];simp
  rw [List.map_cons]
  unfold withB withK
  by_cases h1:laid = false∧¬ x.data.toList < s.data.toList
  ·rw [if_pos h1,if_pos ⟨h1.1,e1.2 h1.2⟩]
   by_cases h2:s.data.toList < x.data.toList
   ·rw [if_pos h2,if_pos (e2.2 h2),List.map_cons,List.map_cons,ih]
   ·rw [if_neg h2,if_neg (fun h =>h2 (e2.1 h)),List.map_cons,ih]
  ·rw [if_neg h1,if_neg (fun h =>h1 ⟨h.1,e1.1 h.2⟩),List.map_cons,ih]
theorem b4H (l:List ByteArray) (s:ByteArray):(withN l s).map (·.data.toList) = withF (l.map (·.data.toList)) s.data.toList:=by
 unfold withN withF
 rw [b4I,Lib.toList_data]
theorem fold_map:∀ (xs l:List ByteArray),(xs.foldl withN l).map (·.data.toList) = (xs.map (·.data.toList)).foldl withF (l.map (·.data.toList)):=by
 intro xs
 induction xs with
 | nil =>intro l;rfl
 | cons s r ih =>intro l;rw [List.foldl_cons,List.map_cons,List.foldl_cons,ih,b4H]
theorem b4C (l:List ByteArray):(l.map (·.data.toList)).map (fun x =>(⟨x.toArray⟩:ByteArray)) = l:=by
 rw [List.map_map];exact List.map_id'' (fun _ =>rfl) l
theorem b1M (xs:List ByteArray):xs.foldl withN [] = (uniqS (xs.map (·.data.toList))).map (fun x =>(⟨x.toArray⟩:ByteArray)):=by
 rw [b4P,← b4C (xs.foldl withN []),fold_map];rfl
open Go.RowKit Go.Proofs.Ytjiacafeckokeaa.Pr Go.Proofs.YtjiacafeckokeaaW.PrintWords
theorem b3X (o:S56) (r:List S56):namesOf (o :: r) = if o.f0 = 4 then o.f2 :: namesOf r else namesOf r:=by
 unfold namesOf
 by_cases h:o.f0 = 4 <;> simp [h]
theorem a5G {β:Type} {g:Nat→List ByteArray→Option β} {acc:List ByteArray} {s:ByteArray} {R:β} (hl:acc.length≤8000000000000) (h:Ev (fun k =>g k (withN acc s)) R):Ev (fun k =>(r05_With.f k acc s).bind (g k)) R :=
 Ev.bind (with_ev acc s hl) h
theorem vars_l2 (L:List S46) (i:Nat) (hi:i < L.length) (h4:(a0J L (i:Int)).f4.length≤1050000) (rest:List ByteArray) (hi2:i≤2000000)
  (hn:∀ acc:List ByteArray,acc.length + rest.length≤8000000000000→Ev (fun k =>r05_Vars.l1 k acc L ((i + 1:Nat):Int)) (rest.foldl withN acc)) :
  ∀ (m j:Nat) (acc:List ByteArray),j + m = (a0J L (i:Int)).f4.length→acc.length + (namesOf ((a0J L (i:Int)).f4.drop j) ++ rest).length≤8000000000000 →
   Ev (fun k =>r05_Vars.l2 k acc L (i:Int) (j:Int)) ((namesOf ((a0J L (i:Int)).f4.drop j) ++ rest).foldl withN acc):=by
 have c1:(0:Int)≤(i:Int):=Int.natCast_nonneg i
 have c2:(i:Int) < (L.length:Int):=Int.ofNat_lt.2 hi
 have hwi:=pzL i (Nat.le_trans hi2 (by decide))
 intro m
 induction m with
 | zero =>
  intro j acc hj ha
  have hje:j = (a0J L (i:Int)).f4.length:=hj
  have hnl:¬ ((j:Int) < ((a0J L (i:Int)).f4.length:Int)):=by rw [hje];exact Int.lt_irrefl _
  rw [hje,List.drop_of_length_le (Nat.le_refl _)] at ha
  refine Ev.step ?_
  simp only [r05_Vars.l2,if_pos c1,if_pos c2,if_neg hnl,hwi]
  rw [hje,List.drop_of_length_le (Nat.le_refl _)]
  exact hn acc ha
 | succ m ih =>
  intro j acc hj ha
  have hjl:j < (a0J L (i:Int)).f4.length:=by omega
  have d1:(0:Int)≤(j:Int):=Int.natCast_nonneg j
  have d2:(j:Int) < ((a0J L (i:Int)).f4.length:Int):=Int.ofNat_lt.2 hjl
  have hw:=pz j (Nat.le_trans (Nat.le_of_lt hjl) h4)
  have hd:=b2I _ j hjl
  rw [hd,b3X] at ha ⊢
  refine Ev.step ?_
  simp only [r05_Vars.l2,if_pos c1,if_pos c2,if_pos d1,if_pos d2,hw]
  by_cases h:(a1R (a0J L (i:Int)).f4 (j:Int)).f0 = 4
  ·rw [if_pos h] at ha ⊢
   simp only [if_pos h]
   simp only [List.length_append,List.length_cons] at ha
   have hwl:=a5H acc (a1R (a0J L (i:Int)).f4 (j:Int)).f2
   have hb:(withN acc (a1R (a0J L (i:Int)).f4 (j:Int)).f2).length + (namesOf ((a0J L (i:Int)).f4.drop (j + 1)) ++ rest).length≤8000000000000:=by
    rw [List.length_append];refine Nat.le_trans (Nat.add_le_add_right hwl _) (Nat.le_trans (Nat.le_of_eq ?_) ha);omega
   exact a5G (Nat.le_trans (Nat.le_add_right _ _) ha) (ih (j + 1) _ (by omega) hb)
  ·rw [if_neg h] at ha ⊢
   simp only [if_neg h]
   exact ih (j + 1) acc (by omega) ha
theorem vars_l1 (L:List S46) (hL:L.length≤2000000) (h4:∀ s,s ∈ L→s.f4.length≤1050000):∀ (m i:Nat) (acc:List ByteArray),i + m = L.length→acc.length + ((L.drop i).flatMap varG).length≤8000000000000 →
  Ev (fun k =>r05_Vars.l1 k acc L (i:Int)) (((L.drop i).flatMap varG).foldl withN acc):=by
 intro m
 induction m with
 | zero =>
  intro i acc hi ha
  have hie:i = L.length:=hi
  have hnl:¬ ((i:Int) < (L.length:Int)):=by rw [hie];exact Int.lt_irrefl _
  refine Ev.step ?_
  simp only [r05_Vars.l1,if_neg hnl]
  rw [hie,List.drop_of_length_le (Nat.le_refl _)]
  exact Ev.const acc
 | succ m ih =>
  intro i acc hi ha
  have hil:i < L.length:=by omega
  have c1:(0:Int)≤(i:Int):=Int.natCast_nonneg i
  have c2:(i:Int) < (L.length:Int):=Int.ofNat_lt.2 hil
  have hd:=b1Z L i hil
  have hmem:a0J L (i:Int) ∈ L:=by
   have:a0J L (i:Int) ∈ L.drop i:=by rw [hd];exact List.mem_cons_self
   exact List.mem_of_mem_drop this
  rw [hd,List.flatMap_cons] at ha ⊢
  simp only [varG,List.cons_append,List.nil_append,List.append_assoc,List.length_cons,List.length_append] at ha
  refine Ev.step ?_
  simp only [r05_Vars.l1,if_pos c1,if_pos c2,varG,List.cons_append,List.nil_append,List.append_assoc,List.foldl_cons]
  have w1:=a5H acc (a0J L (i:Int)).f1
  have w2:=a5H (withN acc (a0J L (i:Int)).f1) (a0J L (i:Int)).f2
  have hx:(withN acc (a0J L (i:Int)).f1).length≤8000000000000:=Nat.le_trans (Nat.le_trans w1 (Nat.add_le_add_left (by omega) _)) ha
  refine a5G (Nat.le_trans (Nat.le_add_right _ _) ha) (a5G hx ?_)
  have h2:=vars_l2 L i hil (h4 _ hmem) ((L.drop (i + 1)).flatMap varG) (by omega) (fun acc' ha' =>ih (i + 1) acc' (by omega) ha') (a0J L (i:Int)).f4.length 0 (withN (withN acc (a0J L (i:Int)).f1) (a0J L (i:Int)).f2) (by omega)
   (by rw [List.drop_zero,List.length_append];refine Nat.le_trans (Nat.add_le_add_right (Nat.le_trans w2 (Nat.add_le_add_right w1 1)) _) (Nat.le_trans (Nat.le_of_eq ?_) ha);omega)
  simpa using h2
theorem b4K (f:S32) (hfit:FitN f) (hlow:Low f.f2):Ev (fun k =>r05_Vars.f k f.f0 f.f1 f.f2) (varsF f):=by
 have e:varsF f = (f.f1 ++ (flat f.f2).flatMap varG).foldl withN []:=by rw [b1M];rfl
 rw [e]
 have hv:=a7E varG 1050002 (flat f.f2) (fun s' hs' =>by have h2:=a4T s'.f4;have h3:=(hfit.2.2.2 s' hs').1;unfold varG;simp only [List.length_append,List.length_cons,List.length_nil];omega)
 have h3:(flat f.f2).length * 1050002≤2000000 * 1050002:=Nat.mul_le_mul_right _ hfit.2.2.1
 have hV:((flat f.f2).flatMap varG).length≤2200004000000:=Nat.le_trans (Nat.le_trans hv h3) (by decide)
 suffices h:∀ (m j:Nat) (acc:List ByteArray),j + m = f.f1.length→acc.length≤j→Ev (fun k =>r05_Vars.l0 k acc (j:Int) f.f0 f.f1 f.f2) ((f.f1.drop j ++ (flat f.f2).flatMap varG).foldl withN acc) by
  have:=h f.f1.length 0 [] (by omega) (by simp)
  simpa [r05_Vars.f] using this
 intro m
 induction m with
 | zero =>
  intro j acc hj ha
  have hje:j = f.f1.length:=hj
  have hnl:¬ ((j:Int) < (f.f1.length:Int)):=by rw [hje];exact Int.lt_irrefl _
  refine Ev.step ?_
  simp only [r05_Vars.l0,if_neg hnl]
  rw [hje,List.drop_of_length_le (Nat.le_refl _),List.nil_append]
  refine Ev.bind (b2E _ f.f2 (Nat.lt_succ_self _) hlow hfit.2.2.1) ?_
  have:=vars_l1 (flat f.f2) hfit.2.2.1 (fun s hs =>(hfit.2.2.2 s hs).1) (flat f.f2).length 0 acc (by omega) (by rw [List.drop_zero];exact Nat.le_trans (Nat.add_le_add (Nat.le_trans ha (by rw [hje];exact hfit.1)) hV) (by decide))
  simpa using this
 | succ m ih =>
  intro j acc hj ha
  have hjl:j < f.f1.length:=by omega
  have c1:(0:Int)≤(j:Int):=Int.natCast_nonneg j
  have c2:(j:Int) < (f.f1.length:Int):=Int.ofNat_lt.2 hjl
  have hw:=pz j (Nat.le_trans (Nat.le_of_lt hjl) hfit.1)
  obtain ⟨hd,_⟩:=a7G f.f1 j hjl
  rw [hd]
  refine Ev.step ?_
  simp only [r05_Vars.l0,if_pos c1,if_pos c2,hw,List.cons_append,List.foldl_cons]
  refine a5G (Nat.le_trans ha (Nat.le_trans (Nat.le_of_lt hjl) (Nat.le_trans hfit.1 (by decide)))) (ih (j + 1) _ (by omega) (Nat.le_trans (a5H _ _) (Nat.add_le_add_right ha 1)))
open Go.RowKit Go.Proofs.Ytjiacafeckokeaa.Pr Go.Proofs.YtjiacafeckokeaaW.PrintWords
theorem b4S (l:List ByteArray) (i j:Nat) (h:j < i) (hi:i < l.length):(l.take i).drop j = rdOf ByteArray.empty l (j:Int) :: (l.take i).drop (j + 1):=by
 have hl:j < (l.take i).length:=by rw [List.length_take];omega
 rw [List.drop_eq_getElem_cons hl,List.getElem_take]
 congr 1
 unfold rdOf;rw [Int.toNat_natCast,List.getD_eq_getElem?_getD,List.getElem?_eq_getElem (by omega)];rfl
theorem twice_l1 (l:List ByteArray) (hl:l.length≤1050000) (i:Nat) (hi:i < l.length) (b:Bool) (hb:Ev (fun k =>r05_Twice.l0 k l ((i + 1:Nat):Int)) b) :
  ∀ m j:Nat,j + m = i→Ev (fun k =>r05_Twice.l1 k l (i:Int) (j:Int)) (isSeen ((l.take i).drop j) (rdOf ByteArray.empty l (i:Int)) || b):=by
 have c1:(0:Int)≤(i:Int):=Int.natCast_nonneg i
 have c2:(i:Int) < (l.length:Int):=Int.ofNat_lt.2 hi
 have hwi:=pz i (Nat.le_trans (Nat.le_of_lt hi) hl)
 intro m
 induction m with
 | zero =>
  intro j hj
  have hje:j = i:=hj
  refine Ev.step ?_
  simp only [r05_Twice.l1,hje,if_neg (Int.lt_irrefl _),hwi]
  rw [List.drop_of_length_le (by rw [List.length_take];exact Nat.min_le_left _ _)]
  exact hb
 | succ m ih =>
  intro j hj
  have hji:j < i:=by omega
  have d1:(0:Int)≤(j:Int):=Int.natCast_nonneg j
  have d2:(j:Int) < (i:Int):=Int.ofNat_lt.2 hji
  have d3:(j:Int) < (l.length:Int):=Int.ofNat_lt.2 (Nat.lt_trans hji hi)
  have hw:=pz j (Nat.le_trans (Nat.le_of_lt (Nat.lt_trans hji hi)) hl)
  refine Ev.step ?_
  simp only [r05_Twice.l1,if_pos c1,if_pos c2,if_pos d1,if_pos d2,if_pos d3,hw]
  rw [b4S l i j hji hi]
  by_cases h:(rdOf ByteArray.empty l (i:Int)).toList = (rdOf ByteArray.empty l (j:Int)).toList
  ·simp only [if_pos h]
   have:isSeen (rdOf ByteArray.empty l (j:Int) :: (l.take i).drop (j + 1)) (rdOf ByteArray.empty l (i:Int)) = true:=by
    unfold isSeen;rw [List.any_cons,decide_eq_true (by rw [← Lib.toList_data,← Lib.toList_data];exact h.symm)];rfl
   rw [this];exact Ev.const true
  ·simp only [if_neg h]
   have:isSeen (rdOf ByteArray.empty l (j:Int) :: (l.take i).drop (j + 1)) (rdOf ByteArray.empty l (i:Int)) = isSeen ((l.take i).drop (j + 1)) (rdOf ByteArray.empty l (i:Int)):=by
    unfold isSeen;rw [List.any_cons,decide_eq_false (by rw [← Lib.toList_data,← Lib.toList_data];exact fun e =>h e.symm)];rfl
   rw [this];exact ih (j + 1) (by omega)
theorem b2V (l:List ByteArray) (hl:l.length≤1050000):Ev (fun k =>r05_Twice.f k l) (twiceB l):=by
 suffices h:∀ m i:Nat,i + m = l.length→Ev (fun k =>r05_Twice.l0 k l (i:Int)) (twiceFrom (l.take i) (l.drop i)) by
  have:=h l.length 0 (by omega)
  simpa [r05_Twice.f,twiceB] using this
 intro m
 induction m with
 | zero =>
  intro i hi
  have hie:i = l.length:=hi
  have hnl:¬ ((i:Int) < (l.length:Int)):=by rw [hie];exact Int.lt_irrefl _
  refine Ev.step ?_
  simp only [r05_Twice.l0,if_neg hnl]
  rw [hie,List.drop_of_length_le (Nat.le_refl _)]
  exact Ev.const false
 | succ m ih =>
  intro i hi
  have hil:i < l.length:=by omega
  have c2:(i:Int) < (l.length:Int):=Int.ofNat_lt.2 hil
  obtain ⟨hd,ht⟩:=a7G l i hil
  have hn:=ih (i + 1) (by omega)
  rw [ht] at hn
  refine Ev.step ?_
  simp only [r05_Twice.l0,if_pos c2]
  rw [hd]
  have:=twice_l1 l hl i hil _ hn i 0 (by omega)
  simpa [twiceFrom] using this
theorem b4Q (xs ys:List Nm) (h:∀ y,y ∈ xs ↔ y ∈ ys):uniqS xs = uniqS ys :=
 b1A _ _ (a5I xs).1 (a5I ys).1 fun y =>by rw [(a5I xs).2 y,(a5I ys).2 y,h y]
end Go.Proofs.Ytjiacafeckokeaa.Man
namespace Go.Proofs.Ytjiacafeckokeaa.Pr
open Go.RowKit Go.Proofs.YtjiacafeckokeaaW.PrintWords Go.Proofs.YtjiacafeckokeaaW.PrintLast Go.Proofs.YtjiacafeckokeaaW.PrintMore
attribute [local go_sem] a4B a3Z a4W a4V a3G a3F a4A a3Y   -- for this text's walks alone
mutual
def r05_stmt.j0:Nat→Bool→List (S32)→Int→ByteArray→ByteArray→ByteArray→List (S56)→List ByteArray→List (S46)→List (S46)→Option (Int)
 | 0,_,_,_,_,_,_,_,_,_,_ =>none
 | k + 1,x14,x260000,x261000,x261001,x261002,x261003,x261004,x261005,x261006,x261007 =>if x14 = true then (some 50) else (r05_stmt.l0 k 0 x260000 x261000 x261001 x261002 x261003 x261004 x261005 x261006 x261007)
def r05_stmt.l0:Nat→Int→List (S32)→Int→ByteArray→ByteArray→ByteArray→List (S56)→List ByteArray→List (S46)→List (S46)→Option (Int)
 | 0,_,_,_,_,_,_,_,_,_,_ =>none
 | k + 1,x5,x260000,x261000,x261001,x261002,x261003,x261004,x261005,x261006,x261007 =>if x5 < (x261004.length:Int) then (if 0≤x5 then (if ((a1R x261004 x5).f0) = 3 then ((r05_Fun.f k x260000 ((a1R x261004 x5).f2)).bind fun t264 =>(if t264 < 0 then (some 51) else (r05_stmt.l0 k (wrap64 (x5 + 1)) x260000 x261000 x261001 x261002 x261003 x261004 x261005 x261006 x261007))) else (r05_stmt.l0 k (wrap64 (x5 + 1)) x260000 x261000 x261001 x261002 x261003 x261004 x261005 x261006 x261007)) else (none)) else (if x261000 = 5 then ((r05_Fun.f k x260000 x261003).bind fun t265 =>(if t265 < 0 then (some 51) else (if 0≤t265 then (if t265 < (x260000.length:Int) then (if (((a0P x260000 t265).f1).length:Int) = (x261004.length:Int) then (some 0) else (some 52)) else (none)) else (none)))) else (some 0))
end
def r05_stmt.f (k:Nat) (aC:List (S32)) (aY:Int) (bT:ByteArray) (bU:ByteArray) (bC:ByteArray) (aQ:List (S56)) (bD:List ByteArray) (bK:List (S46)) (bM:List (S46)):Option (Int):=if aY = 4 then ((r05_Twice.f k bD).bind fun t261 =>(r05_stmt.j0 k t261 aC aY bT bU bC aQ bD bK bM)) else (r05_stmt.j0 k false aC aY bT bU bC aQ bD bK bM)
theorem r05_stmt.a3E:∀ k,(∀ y0 y1 y2 y3 y4 y5 y6 y7 y8 y9,LeO (r05_stmt.j0 k y0 y1 y2 y3 y4 y5 y6 y7 y8 y9) (r05_stmt.j0 (k + 1) y0 y1 y2 y3 y4 y5 y6 y7 y8 y9))∧(∀ y0 y1 y2 y3 y4 y5 y6 y7 y8 y9,LeO (r05_stmt.l0 k y0 y1 y2 y3 y4 y5 y6 y7 y8 y9) (r05_stmt.l0 (k + 1) y0 y1 y2 y3 y4 y5 y6 y7 y8 y9))
 | 0 =>⟨fun _ _ _ _ _ _ _ _ _ _ r h =>by simp [r05_stmt.j0] at h,fun _ _ _ _ _ _ _ _ _ _ r h =>by simp [r05_stmt.l0] at h⟩
 | k + 1 =>by
  obtain ⟨ih0,ih1⟩:=r05_stmt.a3E k
  refine ⟨?_,?_⟩
  ·intro y0 y1 y2 y3 y4 y5 y6 y7 y8 y9
   unfold r05_stmt.j0
   repeat' first
   | (with_reducible exact ih0 _ _ _ _ _ _ _ _ _ _)
   | (with_reducible exact ih1 _ _ _ _ _ _ _ _ _ _)
   | (with_reducible exact r05_Fun.mono _ _ _)
   | (with_reducible exact r05_Twice.mono _ _)
   | (with_reducible exact LeO.refl _)
   | (with_reducible exact LeO.none _)
   | (with_reducible refine LeO.ite ?_ ?_)
   | (with_reducible refine LeO.bind ?_ (fun _ =>?_))
   | exact ih0 _ _ _ _ _ _ _ _ _ _
   | exact ih1 _ _ _ _ _ _ _ _ _ _
   | exact r05_Fun.mono _ _ _
   | exact r05_Twice.mono _ _
   | exact LeO.none _
   | refine LeO.ite ?_ ?_
   | refine LeO.bind ?_ (fun _ =>?_)
  ·intro y0 y1 y2 y3 y4 y5 y6 y7 y8 y9
   unfold r05_stmt.l0
   repeat' first
   | (with_reducible exact ih0 _ _ _ _ _ _ _ _ _ _)
   | (with_reducible exact ih1 _ _ _ _ _ _ _ _ _ _)
   | (with_reducible exact r05_Fun.mono _ _ _)
   | (with_reducible exact r05_Twice.mono _ _)
   | (with_reducible exact LeO.refl _)
   | (with_reducible exact LeO.none _)
   | (with_reducible refine LeO.ite ?_ ?_)
   | (with_reducible refine LeO.bind ?_ (fun _ =>?_))
   | exact ih0 _ _ _ _ _ _ _ _ _ _
   | exact ih1 _ _ _ _ _ _ _ _ _ _
   | exact r05_Fun.mono _ _ _
   | exact r05_Twice.mono _ _
   | exact LeO.none _
   | refine LeO.ite ?_ ?_
   | refine LeO.bind ?_ (fun _ =>?_)
theorem r05_stmt.mono:∀ a0 a1 a2 a3 a4 a5 a6 a7 a8 k,LeO (r05_stmt.f k a0 a1 a2 a3 a4 a5 a6 a7 a8) (r05_stmt.f (k + 1) a0 a1 a2 a3 a4 a5 a6 a7 a8):=by
 intro a0 a1 a2 a3 a4 a5 a6 a7 a8 k
 obtain ⟨ih0,ih1⟩:=r05_stmt.a3E k
 unfold r05_stmt.f
 repeat' first
   | (with_reducible exact ih0 _ _ _ _ _ _ _ _ _ _)
   | (with_reducible exact ih1 _ _ _ _ _ _ _ _ _ _)
   | (with_reducible exact r05_Fun.mono _ _ _)
   | (with_reducible exact r05_Twice.mono _ _)
   | (with_reducible exact LeO.refl _)
   | (with_reducible exact LeO.none _)
   | (with_reducible refine LeO.ite ?_ ?_)
   | (with_reducible refine LeO.bind ?_ (fun _ =>?_))
   | exact ih0 _ _ _ _ _ _ _ _ _ _
   | exact ih1 _ _ _ _ _ _ _ _ _ _
   | exact r05_Fun.mono _ _ _
   | exact r05_Twice.mono _ _
   | exact LeO.none _
   | refine LeO.ite ?_ ?_
   | refine LeO.bind ?_ (fun _ =>?_)
def r05_stmt.T6:Bool × List (List Nat × List Nat):=(true,[([],[]),([0],[0]),([],[]),([1,2],[1,2]),([3],[3]),([4],[4]),([5],[5]),([6],[6]),([7],[7]),([7],[7]),([9,7],[7,9]),([7],[7]),([10,11,7],[7,10,11]),([12,7],[7,12]),([13,7],[7,13]),([8,14,7,7],[7,8,14]),([15,7],[7,15]),([7,16],[7,16])])
def r05_stmt.B6:List Nat:=[0,1,0,7,15,31,63,127,255,255,767,255,3839,7935,16127,32767,65535,131071]
theorem r05_stmt.tab6:rtab .any (opsOf Try.f32 6) = r05_stmt.T6:=by kernel_rfl
theorem r05_stmt.b4D:waitsOk r05_stmt.T6.2 r05_stmt.B6 = true:=by kernel_rfl
def r05_stmt.T12:Bool × List (List Nat × List Nat):=(true,[([],[]),([0],[0]),([],[]),([1,2],[1,2]),([3],[3]),([4],[4]),([5],[5]),([],[]),([7],[7]),([8],[8]),([6,9],[6,9])])
def r05_stmt.B12:List Nat:=[0,1,0,7,15,31,63,0,128,384,1023]
theorem r05_stmt.tab12:rtab .any (opsOf Try.f32 12) = r05_stmt.T12:=by kernel_rfl
theorem r05_stmt.bits12:waitsOk r05_stmt.T12.2 r05_stmt.B12 = true:=by kernel_rfl
set_option maxHeartbeats 8000000 in
set_option maxRecDepth 100000 in
theorem r05_stmt.calls (k:Nat) (bB:Option Addr) (aU:Nat) (aC:List (S32)) (aY:Int) (bT:ByteArray) (bU:ByteArray) (bC:ByteArray) (dL:Option Addr) (cI:Nat) (aQ:List (S56)) (cJ:Option Addr) (cK:Nat) (bD:List ByteArray) (cL:Option Addr) (cM:Nat) (bK:List (S46)) (cN:Option Addr) (cO:Nat) (bM:List (S46)) (r:Int) (w:World) (gF:Kd.C k32 w bB aC.length aC) (gG:aC.length≤aU) (lJ:Kd.C k56 w dL aQ.length aQ) (lK:aQ.length≤cI) (lL:Kd.C Kd.string w cJ bD.length bD) (lM:bD.length≤cK) (lN:Kd.C k46 w cL bK.length bK) (lO:bK.length≤cM) (lP:Kd.C k46 w cN bM.length bM) (lQ:bM.length≤cO) (h:r05_stmt.f k aC aY bT bU bC aQ bD bK bM = some r) :
    Calls Try.prog 32 #[.agg #[.slice bB aC.length aU],.agg #[.int .i64 aY,.string bT,.string bU,.string bC,.slice dL aQ.length cI,.slice cJ bD.length cK,.slice cL bK.length cM,.slice cN bM.length cO]] w fun e w' =>e = .returned (.int .i64 r)∧Below w.heap.size w w':=by
 have hu24:=Try.underlying24
 have hu46:=Try.underlying46
 have cD:=a0A.mk gF
 have dK:=a0A.mk gG
 clear gF gG
 have gH:=a0A.mk lJ
 have rH:=a0A.mk lK
 clear lJ lK
 have lY:=a0A.mk lL
 have lZ:=a0A.mk lM
 clear lL lM
 have rI:=a0A.mk lN
 have rJ:=a0A.mk lO
 clear lN lO
 have rK:=a0A.mk lP
 have rL:=a0A.mk lQ
 clear lP lQ
 have HB:=a0A.mk (Below.refl w.heap.size w)
 have H:(if aY = 4 then ((r05_Twice.f k bD).bind fun t261 =>(r05_stmt.j0 k t261 aC aY bT bU bC aQ bD bK bM)) else (r05_stmt.j0 k false aC aY bT bU bC aQ bD bK bM)) = some r:=h
 clear h
 have HC3:=a0A.mk H
 clear H
 go_enter Try.func32,Try.ntmps32
 go_upto_region 1 with (first | ((with_reducible refine a1C (N:=2) rfl ?_);refine a1A ?hg (N:=2) ?hd (cs:=#[.slice bB aC.length aU]) (t:=24) ?hr ?_;(case hd =>rfl);(case hg =>rfl);(case hr =>first | (go_simp;done) | (go_simp;rfl));intro bY hg w4 hbox hb;have bN:=a0A.mk (a0H (by repeat (first | (with_reducible first | exact HB.out | apply a0D | apply a0B | apply a0E) | exact HB.out)) hb);have bO:=a0A.mk (hbox);have bP:=a0A.mk ((by rw [hg];exact (a0V (by repeat (first | (with_reducible first | exact HB.out | apply a0D | apply a0B | apply a0E) | exact HB.out))):w.heap.size≤bY));have eC:=a0A.mk ((by rw [hg];exact (a0V (by repeat (first | (with_reducible first | exact HB.out | apply a0D | apply a0B | apply a0E) | exact HB.out))):w.heap.size≤bY));clear HB;have HB:=bN;have aK:=bO;have GW259:=bP;have cC:=eC;clear bN bO bP eC;clear hb hbox hg) | ((with_reducible refine a1C (N:=3) rfl ?_);refine a1A ?hg (N:=3) ?hd (cs:=#[.int .i64 aY,.string bT,.string bU,.string bC,.slice dL aQ.length cI,.slice cJ bD.length cK,.slice cL bK.length cM,.slice cN bM.length cO]) (t:=46) ?hr ?_;(case hd =>rfl);(case hg =>rfl);(case hr =>first | (go_simp;done) | (go_simp;rfl));intro aD hg w5 hbox hb;have bN:=a0A.mk (a0U (g:=bY) (o:=.cells #[.slice bB aC.length aU] 24 (0,0)) (by (with_reducible repeat (first | refine a0L ?_ _ | refine a0M ?_ | refine a0K ?_ _));exact aK.out) hb);have bO:=a0A.mk (a0H (by repeat (first | (with_reducible first | exact HB.out | apply a0D | apply a0B | apply a0E | refine a0I ?_ cC.out) | exact HB.out)) hb);have bP:=a0A.mk (hbox);have eC:=a0A.mk ((by rw [hg];exact (a0V (by repeat (first | (with_reducible first | exact HB.out | apply a0D | apply a0B | apply a0E | refine a0I ?_ cC.out) | exact HB.out))):w.heap.size≤aD));have fH:=a0A.mk ((by rw [hg];exact (a0V (by repeat (first | (with_reducible first | exact HB.out | apply a0D | apply a0B | apply a0E | refine a0I ?_ cC.out) | exact HB.out))):w.heap.size≤aD));have gO:=a0A.mk ((by rw [hg];exact Nat.ne_of_lt (a2B (g:=bY) (o:=.cells #[.slice bB aC.length aU] 24 (0,0)) (by (with_reducible repeat (first | refine a0L ?_ _ | refine a0M ?_ | refine a0K ?_ _));exact aK.out)):bY≠aD));have gP:=a0A.mk ((by rw [hg];exact Nat.ne_of_gt (a2B (g:=bY) (o:=.cells #[.slice bB aC.length aU] 24 (0,0)) (by (with_reducible repeat (first | refine a0L ?_ _ | refine a0M ?_ | refine a0K ?_ _));exact aK.out)):aD≠bY));clear aK;clear HB;have aK:=bN;have HB:=bO;have aA:=bP;have GW260:=eC;have cG:=fH;have bV:=gO;have bW:=gP;clear bN bO bP eC fH gO gP;clear hb hbox hg))
 (try simp only [Act.put,List.setIfInBounds_toArray,List.set_cons_zero,List.set_cons_succ])
 go_cut [14] (fun v14 wc =>∃ (kq:Nat) (gQ:Bool),v14 = .bool gQ∧a0A (r05_stmt.j0 kq gQ aC aY bT bU bC aQ bD bK bM = some r)∧a0A (kq≤k)∧a0A (wc.heap[bY]? = some (.cells #[(.slice bB aC.length aU)] 24 (0,0)))∧a0A (wc.heap[aD]? = some (.cells #[.int .i64 aY,.string bT,.string bU,.string bC,(.slice dL aQ.length cI),(.slice cJ bD.length cK),(.slice cL bK.length cM),(.slice cN bM.length cO)] 46 (0,0)))∧a0A (Below w.heap.size w wc))
 case first =>
  have H:=HC3.out
  clear HC3
  by_cases c6:aY = 4
  ·rw [if_pos c6] at H
   have c6b0:(aY == 4) = true:=beq_iff_eq.mpr c6
   have c6b1:(aY != 4) = false:=bne_eq_false_iff_eq.mpr c6
   clear c6
   (first | rw [c6b0] | (simp only [a0X,a0Y];rw [c6b0]) | skip)
   replace H:=Option.bind_eq_some_iff.mp H
   obtain ⟨t261,A70,H⟩:=H
   replace H:(r05_stmt.j0 k t261 aC aY bT bU bC aQ bD bK bM) = some r:=H
   have A7:=a0A.mk A70
   clear A70
   have H':=a0A.mk H
   clear H
   have hnb8:=bW.out
   have hnc8:=bV.out
   have jI:w5.cell? ⟨aD,0,none⟩ = some (.int .i64 aY):=(a0G aA.out 0).trans rfl
   have jJ:w5.cell? ⟨aD,1,none⟩ = some (.string bT):=(a0G aA.out 1).trans rfl
   have jK:w5.cell? ⟨aD,2,none⟩ = some (.string bU):=(a0G aA.out 2).trans rfl
   have jL:w5.cell? ⟨aD,3,none⟩ = some (.string bC):=(a0G aA.out 3).trans rfl
   have jM:w5.cell? ⟨aD,4,none⟩ = some (.slice dL aQ.length cI):=(a0G aA.out 4).trans rfl
   have jN:w5.cell? ⟨aD,5,none⟩ = some (.slice cJ bD.length cK):=(a0G aA.out 5).trans rfl
   have jO:w5.cell? ⟨aD,6,none⟩ = some (.slice cL bK.length cM):=(a0G aA.out 6).trans rfl
   have jP:w5.cell? ⟨aD,7,none⟩ = some (.slice cN bM.length cO):=(a0G aA.out 7).trans rfl
   have jQ:=a0F aA.out 0
   have jR:=a0F aA.out 1
   have jS:=a0F aA.out 2
   have jT:=a0F aA.out 3
   have jU:=a0F aA.out 4
   have jV:=a0F aA.out 5
   have jW:=a0F aA.out 6
   have jX:=a0F aA.out 7
   go_wp2_with (first | (go_at_call 31;(with_reducible refine (r05_Twice.calls k _ _ bD t261 _ ?side1 ?side2 A7.out).mono ?_);(case side1 =>repeat (first | exact (Kd.a0N lY.out HB.out) | (with_reducible refine Kd.a0R ?_ _) | (with_reducible refine Kd.a0Q ?_ _) | (with_reducible refine Kd.a1B ?_)));(case side2 =>exact lZ.out);rintro e w' ⟨rfl,⟨nd,rfl⟩⟩))
   go_meet
   case rel =>exact ⟨_,(t261),(by first | rfl | (simp;done) | (simp [*];done)),H',⟨by first | omega | exact Nat.le_refl _⟩,⟨by (with_reducible repeat (first | refine a0L ?_ _ | refine a0M ?_ | refine a0K ?_ _));exact aK.out⟩,⟨by (with_reducible repeat (first | refine a0L ?_ _ | refine a0M ?_ | refine a0K ?_ _));exact aA.out⟩,⟨by repeat (first | (with_reducible first | exact HB.out | apply a0D | apply a0B | apply a0E | refine a0I ?_ cC.out | refine a0I ?_ cG.out) | exact HB.out)⟩⟩
  ·rw [if_neg c6] at H
   have c6b0:(aY == 4) = false:=beq_eq_false_iff_ne.mpr c6
   have c6b1:(aY != 4) = true:=bne_iff_ne.mpr c6
   (first | rw [c6b0] | (simp only [a0X,a0Y];rw [c6b0]) | skip)
   have H':=a0A.mk H
   clear H
   have hnb10:=bW.out
   have hnc10:=bV.out
   have gR:w5.cell? ⟨aD,0,none⟩ = some (.int .i64 aY):=(a0G aA.out 0).trans rfl
   have gS:w5.cell? ⟨aD,1,none⟩ = some (.string bT):=(a0G aA.out 1).trans rfl
   have gT:w5.cell? ⟨aD,2,none⟩ = some (.string bU):=(a0G aA.out 2).trans rfl
   have gU:w5.cell? ⟨aD,3,none⟩ = some (.string bC):=(a0G aA.out 3).trans rfl
   have gV:w5.cell? ⟨aD,4,none⟩ = some (.slice dL aQ.length cI):=(a0G aA.out 4).trans rfl
   have gW:w5.cell? ⟨aD,5,none⟩ = some (.slice cJ bD.length cK):=(a0G aA.out 5).trans rfl
   have gX:w5.cell? ⟨aD,6,none⟩ = some (.slice cL bK.length cM):=(a0G aA.out 6).trans rfl
   have gY:w5.cell? ⟨aD,7,none⟩ = some (.slice cN bM.length cO):=(a0G aA.out 7).trans rfl
   have gZ:=a0F aA.out 0
   have iA:=a0F aA.out 1
   have iB:=a0F aA.out 2
   have iC:=a0F aA.out 3
   have iD:=a0F aA.out 4
   have iE:=a0F aA.out 5
   have iF:=a0F aA.out 6
   have iG:=a0F aA.out 7
   go_wp2
   go_meet
   case rel =>exact ⟨_,(false),(by first | rfl | (simp;done) | (simp [*];done)),H',⟨by first | omega | exact Nat.le_refl _⟩,⟨by (with_reducible repeat (first | refine a0L ?_ _ | refine a0M ?_ | refine a0K ?_ _));exact aK.out⟩,⟨by (with_reducible repeat (first | refine a0L ?_ _ | refine a0M ?_ | refine a0K ?_ _));exact aA.out⟩,⟨by repeat (first | (with_reducible first | exact HB.out | apply a0D | apply a0B | apply a0E | refine a0I ?_ cC.out | refine a0I ?_ cG.out) | exact HB.out)⟩⟩
 case rest =>
  clear HC3
  try clear c1
  try clear p2
  try clear c3
  try clear c6
  try clear c6b0
  try clear c6b1
  try clear c8
  try clear c10
  try clear gR
  try clear gS
  try clear gT
  try clear gU
  try clear gV
  try clear gW
  try clear gX
  try clear gY
  try clear jI
  try clear jJ
  try clear jK
  try clear jL
  try clear jM
  try clear jN
  try clear jO
  try clear jP
  try clear gZ
  try clear iA
  try clear iB
  try clear iC
  try clear iD
  try clear iE
  try clear iF
  try clear iG
  try clear jQ
  try clear jR
  try clear jS
  try clear jT
  try clear jU
  try clear jV
  try clear jW
  try clear jX
  obtain ⟨kq,gQ,rfl,HA,HJ2,aK,aA,HB⟩:=hcut
  cases kq with
  | zero =>exact absurd HA.out (by simp [r05_stmt.j0])
  | succ kj2 =>
   have H:=HA.out
   clear HA
   simp only [r05_stmt.j0] at H
   by_cases c12:gQ = true
   ·subst c12
    have H1:(some 50) = some r:=by rw [if_pos rfl] at H;exact H
    clear H
    have H:=H1
    clear H1
    obtain rfl:=Option.some.inj H
    go_wp2
    go_ret
    exact ⟨by first | rfl | (simp [a0T,a0S] <;> rfl) | (simp [*,a0T,a0S] <;> rfl),by repeat (first | (with_reducible first | exact HB.out | apply a0D | apply a0B | apply a0E | refine a0I ?_ cC.out | refine a0I ?_ cG.out) | exact HB.out)⟩
   ·replace c12:=Bool.eq_false_iff.mpr c12
    subst c12
    have H1:(r05_stmt.l0 kj2 0 aC aY bT bU bC aQ bD bK bM) = some r:=by rw [if_neg (show ¬ (false = true) by decide)] at H;exact H
    clear H
    have H:=H1
    clear H1
    have H':=a0A.mk H
    clear H
    go_wp2
    go_loopg [5] kj2 (fun kq v5 w' =>∃ (aT:Int),v5 = .int .i64 aT∧a0A (r05_stmt.l0 kq aT aC aY bT bU bC aQ bD bK bM = some r)∧a0A (kq≤kj2)∧a0A (w'.heap[bY]? = some (.cells #[(.slice bB aC.length aU)] 24 (0,0)))∧a0A (w'.heap[aD]? = some (.cells #[.int .i64 aY,.string bT,.string bU,.string bC,(.slice dL aQ.length cI),(.slice cJ bD.length cK),(.slice cL bK.length cM),(.slice cN bM.length cO)] 46 (0,0)))∧a0A (Below w.heap.size w w'))
    case atStart =>exact ⟨(0),(by first | rfl | (simp;done) | (simp [*];done)),H',⟨Nat.le_refl _⟩,⟨by (with_reducible repeat (first | refine a0L ?_ _ | refine a0M ?_ | refine a0K ?_ _));exact aK.out⟩,⟨by (with_reducible repeat (first | refine a0L ?_ _ | refine a0M ?_ | refine a0K ?_ _));exact aA.out⟩,⟨by repeat (first | (with_reducible first | exact HB.out | apply a0D | apply a0B | apply a0E | refine a0I ?_ cC.out | refine a0I ?_ cG.out) | exact HB.out)⟩⟩
    case round =>
     clear H'
     try clear c1
     try clear p2
     try clear c3
     try clear c6
     try clear c6b0
     try clear c6b1
     try clear c8
     try clear c10
     try clear c12
     try clear gR
     try clear gS
     try clear gT
     try clear gU
     try clear gV
     try clear gW
     try clear gX
     try clear gY
     try clear jI
     try clear jJ
     try clear jK
     try clear jL
     try clear jM
     try clear jN
     try clear jO
     try clear jP
     try clear gZ
     try clear iA
     try clear iB
     try clear iC
     try clear iD
     try clear iE
     try clear iF
     try clear iG
     try clear jQ
     try clear jR
     try clear jS
     try clear jT
     try clear jU
     try clear jV
     try clear jW
     try clear jX
     try clear p2
     obtain ⟨aT,rfl,HA,HK2,aK,aA,HB⟩:=hrel
     cases gk with
     | zero =>exact absurd HA.out (by simp [r05_stmt.l0])
     | succ k2 =>
      have H:=HA.out
      clear HA
      simp only [r05_stmt.l0] at H
      by_cases c13:aT < (aQ.length:Int)
      ·rw [if_pos c13] at H
       have c13b0:decide (aT < (aQ.length:Int)) = true:=decide_eq_true c13
       clear c13
       by_cases c14:0≤aT
       ·rw [if_pos c14] at H
        have c14b0:decide (0≤aT) = true:=decide_eq_true c14
        clear c14
        by_cases c15:((a1R aQ aT).f0) = 3
        ·rw [if_pos c15] at H
         have c15b0:(((a1R aQ aT).f0) == 3) = true:=beq_iff_eq.mpr c15
         have c15b1:(((a1R aQ aT).f0) != 3) = false:=bne_eq_false_iff_eq.mpr c15
         clear c15
         replace H:=Option.bind_eq_some_iff.mp H
         obtain ⟨t264,A160,H⟩:=H
         replace H:(if t264 < 0 then (some 51) else (r05_stmt.l0 k2 (wrap64 (aT + 1)) aC aY bT bU bC aQ bD bK bM)) = some r:=H
         have A16:=a0A.mk A160
         clear A160
         by_cases c17:t264 < 0
         ·rw [if_pos c17] at H
          have c17b0:decide (t264 < 0) = true:=decide_eq_true c17
          clear c17
          obtain rfl:=Option.some.inj H
          have hnb18:=bW.out
          have hnc18:=bV.out
          have fQ:wr.cell? ⟨aD,0,none⟩ = some (.int .i64 aY):=(a0G aA.out 0).trans rfl
          have fR:wr.cell? ⟨aD,1,none⟩ = some (.string bT):=(a0G aA.out 1).trans rfl
          have fS:wr.cell? ⟨aD,2,none⟩ = some (.string bU):=(a0G aA.out 2).trans rfl
          have mC:wr.cell? ⟨aD,3,none⟩ = some (.string bC):=(a0G aA.out 3).trans rfl
          have mD:wr.cell? ⟨aD,4,none⟩ = some (.slice dL aQ.length cI):=(a0G aA.out 4).trans rfl
          have mE:wr.cell? ⟨aD,5,none⟩ = some (.slice cJ bD.length cK):=(a0G aA.out 5).trans rfl
          have mF:wr.cell? ⟨aD,6,none⟩ = some (.slice cL bK.length cM):=(a0G aA.out 6).trans rfl
          have mG:wr.cell? ⟨aD,7,none⟩ = some (.slice cN bM.length cO):=(a0G aA.out 7).trans rfl
          have fT:=a0F aA.out 0
          have fU:=a0F aA.out 1
          have fV:=a0F aA.out 2
          have mH:=a0F aA.out 3
          have mI:=a0F aA.out 4
          have mJ:=a0F aA.out 5
          have mK:=a0F aA.out 6
          have mL:=a0F aA.out 7
          try go_wp2
          have bN:=a0A.mk (a0M aK.out)
          have bO:=a0A.mk (a0M aA.out)
          have bP:=a0A.mk (a0E HB.out)
          clear aK
          clear aA
          clear HB
          have aK:=bN
          have aA:=bO
          have HB:=bP
          clear bN bO bP
          have p262:0≤(aT:Int):=of_decide_eq_true (by first | (with_reducible assumption) | assumption)
          have q262:aT < (aQ.length:Int):=of_decide_eq_true (by first | (with_reducible assumption) | assumption)
          obtain ⟨ad262,e262,bQ,bR,bS⟩:=a6T gH.out aT p262 q262
          have dM:=bS
          have dN:=bR
          have dO:=bQ
          cases e262
          replace bQ:=a0C HB.out bQ
          replace bR:=a0C HB.out bR
          replace bS:=a0C HB.out bS
          replace p262:=eq_true p262
          replace q262:=eq_true q262
          have p263:0≤(aT:Int):=of_decide_eq_true (by first | (with_reducible assumption) | assumption)
          have q263:aT < (aQ.length:Int):=of_decide_eq_true (by first | (with_reducible assumption) | assumption)
          obtain ⟨ad263,e263,cR,cS,cT⟩:=a6T gH.out aT p263 q263
          have eE:=cT
          have eF:=cS
          have eG:=cR
          obtain rfl:ad262 = ad263:=(by injection e263)
          replace cR:=a0C HB.out cR
          replace cS:=a0C HB.out cS
          replace cT:=a0C HB.out cT
          replace p263:=eq_true p263
          replace q263:=eq_true q263
          refine a4L (n:=18) (S:=fun w' =>w'.cell? ⟨aD,0,none⟩ = some (.int .i64 aY)∧w'.cell? ⟨aD,1,none⟩ = some (.string bT)∧w'.cell? ⟨aD,2,none⟩ = some (.string bU)∧w'.cell? ⟨aD,3,none⟩ = some (.string bC)∧w'.cell? ⟨aD,4,none⟩ = some (.slice (some ad262) aQ.length cI)∧w'.cell? ⟨aD,5,none⟩ = some (.slice cJ bD.length cK)∧w'.cell? ⟨aD,6,none⟩ = some (.slice cL bK.length cM)∧w'.cell? ⟨aD,7,none⟩ = some (.slice cN bM.length cO)∧w'.cell? ⟨bY,0,none⟩ = some (.slice bB aC.length aU)∧w'.cell? (ad262.add ((aT).toNat * 3)) = some (.int .i64 ((a1R aQ aT).f0))∧w'.cell? ⟨(ad262.add ((aT).toNat * 3)).block,(ad262.add ((aT).toNat * 3)).off + 1,none⟩ = some (.int .i64 ((a1R aQ aT).f1))∧w'.cell? ⟨(ad262.add ((aT).toNat * 3)).block,(ad262.add ((aT).toNat * 3)).off + 2,none⟩ = some (.string ((a1R aQ aT).f2))∧w'.cell? (ad262.add ((aT).toNat * 3)) = some (.int .i64 ((a1R aQ aT).f0))∧w'.cell? ⟨(ad262.add ((aT).toNat * 3)).block,(ad262.add ((aT).toNat * 3)).off + 1,none⟩ = some (.int .i64 ((a1R aQ aT).f1))∧w'.cell? ⟨(ad262.add ((aT).toNat * 3)).block,(ad262.add ((aT).toNat * 3)).off + 2,none⟩ = some (.string ((a1R aQ aT).f2))) (ds:=[]) #[false,false,false,false,false,false,false,false,false,false,false,false,false,false,false,false,false,false] (by kernel_rfl) rfl rfl ⟨(a0G aA.out 0).trans rfl,(a0G aA.out 1).trans rfl,(a0G aA.out 2).trans rfl,(a0G aA.out 3).trans rfl,(a0G aA.out 4).trans rfl,(a0G aA.out 5).trans rfl,(a0G aA.out 6).trans rfl,(a0G aA.out 7).trans rfl,(a0G aK.out 0).trans rfl,(a0C HB.out dO),(a0C HB.out dN),(a0C HB.out dM),(a0C HB.out eG),(a0C HB.out eF),(a0C HB.out eE)⟩ (fun hHeld =>?_);refine a2R r05_stmt.tab6 r05_stmt.b4D (fun HT_ HW_ =>?_)
          generalize wr.drew = w20 at aK aA HB bQ bR bS cR cS cT hHeld ⊢
          refine a1E (i:=0) (N:=some 22) (v:=?_) (a':=?_) #[true,false,false,false,false,false,false,false,false,false,false,false,false,false,false,false,false,false] rfl rfl (a0Z HT_.out (by kernel_rfl)) (fun _ _ _ h =>h) (Or.inl ⟨by rfl,?_⟩) ?_ ?_
          rotate_left
          ·intro w'
           go_simp
           with_reducible rfl
          rotate_left
          ·simp only [Act.put,List.setIfInBounds_toArray,List.set_cons_zero,List.set_cons_succ,a0X,a0Y]
           rfl
          refine a1E (i:=2) (N:=some 24) (v:=?_) (a':=?_) #[true,false,true,false,false,false,false,false,false,false,false,false,false,false,false,false,false,false] rfl rfl (a0Z HT_.out (by kernel_rfl)) (fun _ _ _ h =>h) (Or.inl ⟨by rfl,?_⟩) ?_ ?_
          rotate_left
          ·intro w'
           go_simp
           with_reducible rfl
          rotate_left
          ·simp only [Act.put,List.setIfInBounds_toArray,List.set_cons_zero,List.set_cons_succ,a0X,a0Y]
           rfl
          refine a2M (i:=1) (N:=some 23) (v:=?_) (a':=?_) #[true,true,true,false,false,false,false,false,false,false,false,false,false,false,false,false,false,false] rfl rfl (a1O HT_.out HW_.out (by kernel_rfl)) (fun _ _ _ h =>h) (Or.inl ⟨by rfl,?_⟩) hHeld ?_ ?_
          rotate_left
          ·rintro w' ⟨s0,s1,s2,s3,s4,s5,s6,s7,s8,s9,s10,s11,s12,s13,s14⟩
           go_simp
           with_reducible rfl
          rotate_left
          ·simp only [Act.put,List.setIfInBounds_toArray,List.set_cons_zero,List.set_cons_succ,a0X,a0Y]
           rfl
          refine a1E (i:=3) (N:=some 25) (v:=?_) (a':=?_) #[true,true,true,true,false,false,false,false,false,false,false,false,false,false,false,false,false,false] rfl rfl (a0Z HT_.out (by kernel_rfl)) (fun _ _ _ h =>h) (Or.inl ⟨by rfl,?_⟩) ?_ ?_
          rotate_left
          ·intro w'
           go_simp
           with_reducible rfl
          rotate_left
          ·simp only [Act.put,List.setIfInBounds_toArray,List.set_cons_zero,List.set_cons_succ,a0X,a0Y]
           rfl
          refine a1E (i:=4) (N:=some 26) (v:=?_) (a':=?_) #[true,true,true,true,true,false,false,false,false,false,false,false,false,false,false,false,false,false] rfl rfl (a0Z HT_.out (by kernel_rfl)) (fun _ _ _ h =>h) (Or.inl ⟨by rfl,?_⟩) ?_ ?_
          rotate_left
          ·intro w'
           go_simp
           with_reducible rfl
          rotate_left
          ·simp only [Act.put,List.setIfInBounds_toArray,List.set_cons_zero,List.set_cons_succ,a0X,a0Y]
           rfl
          refine a2M (i:=5) (N:=some 27) (v:=?_) (a':=?_) #[true,true,true,true,true,true,false,false,false,false,false,false,false,false,false,false,false,false] rfl rfl (a1O HT_.out HW_.out (by kernel_rfl)) (fun _ _ _ h =>h) (Or.inl ⟨by rfl,?_⟩) hHeld ?_ ?_
          rotate_left
          ·rintro w' ⟨s0,s1,s2,s3,s4,s5,s6,s7,s8,s9,s10,s11,s12,s13,s14⟩
           go_simp
           with_reducible rfl
          rotate_left
          ·simp only [Act.put,List.setIfInBounds_toArray,List.set_cons_zero,List.set_cons_succ,a0X,a0Y]
           rfl
          refine a1E (i:=6) (N:=some 28) (v:=?_) (a':=?_) #[true,true,true,true,true,true,true,false,false,false,false,false,false,false,false,false,false,false] rfl rfl (a0Z HT_.out (by kernel_rfl)) (fun _ _ _ h =>h) (Or.inl ⟨by rfl,?_⟩) ?_ ?_
          rotate_left
          ·intro w'
           go_simp
           with_reducible rfl
          rotate_left
          ·simp only [Act.put,List.setIfInBounds_toArray,List.set_cons_zero,List.set_cons_succ,a0X,a0Y]
           rfl
          refine a1E (i:=7) (N:=some 29) (v:=?_) (a':=?_) #[true,true,true,true,true,true,true,true,false,false,false,false,false,false,false,false,false,false] rfl rfl (a0Z HT_.out (by kernel_rfl)) (fun _ _ _ h =>h) (Or.inl ⟨by rfl,?_⟩) ?_ ?_
          rotate_left
          ·intro w'
           go_simp
           with_reducible rfl
          rotate_left
          ·simp only [Act.put,List.setIfInBounds_toArray,List.set_cons_zero,List.set_cons_succ,a0X,a0Y]
           rfl
          refine a1E (i:=9) (N:=some 31) (v:=?_) (a':=?_) #[true,true,true,true,true,true,true,true,false,true,false,false,false,false,false,false,false,false] rfl rfl (a0Z HT_.out (by kernel_rfl)) (fun _ _ _ h =>h) (Or.inl ⟨by rfl,?_⟩) ?_ ?_
          rotate_left
          ·intro w'
           go_simp
           with_reducible rfl
          rotate_left
          ·simp only [Act.put,List.setIfInBounds_toArray,List.set_cons_zero,List.set_cons_succ,a0X,a0Y]
           rfl
          refine a1E (i:=11) (N:=some 33) (v:=?_) (a':=?_) #[true,true,true,true,true,true,true,true,false,true,false,true,false,false,false,false,false,false] rfl rfl (a0Z HT_.out (by kernel_rfl)) (fun _ _ _ h =>h) (Or.inl ⟨by rfl,?_⟩) ?_ ?_
          rotate_left
          ·intro w'
           go_simp
           with_reducible rfl
          rotate_left
          ·simp only [Act.put,List.setIfInBounds_toArray,List.set_cons_zero,List.set_cons_succ,a0X,a0Y]
           rfl
          refine a2M (i:=8) (N:=some 30) (v:=?_) (a':=?_) #[true,true,true,true,true,true,true,true,true,true,false,true,false,false,false,false,false,false] rfl rfl (a1O HT_.out HW_.out (by kernel_rfl)) (fun _ _ _ h =>h) (Or.inl ⟨by rfl,?_⟩) hHeld ?_ ?_
          rotate_left
          ·rintro w' ⟨s0,s1,s2,s3,s4,s5,s6,s7,s8,s9,s10,s11,s12,s13,s14⟩
           go_simp
           with_reducible rfl
          rotate_left
          ·simp only [Act.put,List.setIfInBounds_toArray,List.set_cons_zero,List.set_cons_succ,a0X,a0Y]
           rfl
          refine a2M (i:=10) (N:=some 32) (v:=?_) (a':=?_) #[true,true,true,true,true,true,true,true,true,true,true,true,false,false,false,false,false,false] rfl rfl (a1O HT_.out HW_.out (by kernel_rfl)) (fun _ _ _ h =>h) (Or.inl ⟨by rfl,?_⟩) hHeld ?_ ?_
          rotate_left
          ·rintro w' ⟨s0,s1,s2,s3,s4,s5,s6,s7,s8,s9,s10,s11,s12,s13,s14⟩
           go_simp
           with_reducible rfl
          rotate_left
          ·simp only [Act.put,List.setIfInBounds_toArray,List.set_cons_zero,List.set_cons_succ,a0X,a0Y]
           rfl
          refine a1E (i:=12) (N:=some 34) (v:=?_) (a':=?_) #[true,true,true,true,true,true,true,true,true,true,true,true,true,false,false,false,false,false] rfl rfl (a0Z HT_.out (by kernel_rfl)) (fun _ _ _ h =>h) (Or.inl ⟨by rfl,?_⟩) ?_ ?_
          rotate_left
          ·intro w'
           go_simp
           with_reducible rfl
          rotate_left
          ·simp only [Act.put,List.setIfInBounds_toArray,List.set_cons_zero,List.set_cons_succ,a0X,a0Y]
           rfl
          refine a1E (i:=13) (N:=some 35) (v:=?_) (a':=?_) #[true,true,true,true,true,true,true,true,true,true,true,true,true,true,false,false,false,false] rfl rfl (a0Z HT_.out (by kernel_rfl)) (fun _ _ _ h =>h) (Or.inl ⟨by rfl,?_⟩) ?_ ?_
          rotate_left
          ·intro w'
           go_simp
           with_reducible rfl
          rotate_left
          ·simp only [Act.put,List.setIfInBounds_toArray,List.set_cons_zero,List.set_cons_succ,a0X,a0Y]
           rfl
          refine a2M (i:=14) (N:=some 36) (v:=?_) (a':=?_) #[true,true,true,true,true,true,true,true,true,true,true,true,true,true,true,false,false,false] rfl rfl (a1O HT_.out HW_.out (by kernel_rfl)) (fun _ _ _ h =>h) (Or.inl ⟨by rfl,?_⟩) hHeld ?_ ?_
          rotate_left
          ·rintro w' ⟨s0,s1,s2,s3,s4,s5,s6,s7,s8,s9,s10,s11,s12,s13,s14⟩
           go_simp
           with_reducible rfl
          rotate_left
          ·simp only [Act.put,List.setIfInBounds_toArray,List.set_cons_zero,List.set_cons_succ,a0X,a0Y]
           rfl
          refine one_ (i:=15) (N:=some 37) #[true,true,true,true,true,true,true,true,true,true,true,true,true,true,true,true,false,false] rfl rfl (a2O HT_.out (by kernel_rfl)) (by decide) (fun K hK =>?_)
          refine a3K Try.func16 (by kernel_rfl) rfl #[.agg #[.slice bB aC.length aU],.string ((a1R aQ aT).f2)] (by rfl) rfl rfl (by (try simp only [List.map_toArray,List.map_cons,List.map_nil]);first | done | rfl | (simp only [List.length_drop,List.length_take];rfl)) ?_
          with_reducible refine (r05_Fun.calls k2 _ _ aC ((a1R aQ aT).f2) t264 _ ?side1 ?side2 A16.out).mono ?_
          (case side1 =>repeat (first | exact (Kd.a0N cD.out HB.out) | (with_reducible refine Kd.a0R ?_ _) | (with_reducible refine Kd.a0Q ?_ _) | (with_reducible refine Kd.a1B ?_)))
          (case side2 =>exact dK.out)
          rintro e w21 ⟨rfl,hb⟩
          refine ⟨_,rfl,?_⟩
          have bN:=a0A.mk (a0U (g:=bY) (o:=.cells #[.slice bB aC.length aU] 24 (0,0)) (by (with_reducible repeat (first | refine a0L ?_ _ | refine a0M ?_ | refine a0K ?_ _));exact aK.out) hb)
          have bO:=a0A.mk (a0U (g:=aD) (o:=.cells #[.int .i64 aY,.string bT,.string bU,.string bC,.slice (some ad262) aQ.length cI,.slice cJ bD.length cK,.slice cL bK.length cM,.slice cN bM.length cO] 46 (0,0)) (by (with_reducible repeat (first | refine a0L ?_ _ | refine a0M ?_ | refine a0K ?_ _));exact aA.out) hb)
          have bP:=a0A.mk (a0H (by repeat (first | (with_reducible first | exact HB.out | apply a0D | apply a0B | apply a0E | refine a0I ?_ cC.out | refine a0I ?_ cG.out) | exact HB.out)) hb)
          clear aK
          clear aA
          clear HB
          have aK:=bN
          have aA:=bO
          have HB:=bP
          clear bN bO bP
          (try clear hb)
          (try clear hb2)
          (try clear hk)
          (try clear hi)
          refine hK.out _ _ ⟨(a0G aA.out 0).trans rfl,(a0G aA.out 1).trans rfl,(a0G aA.out 2).trans rfl,(a0G aA.out 3).trans rfl,(a0G aA.out 4).trans rfl,(a0G aA.out 5).trans rfl,(a0G aA.out 6).trans rfl,(a0G aA.out 7).trans rfl,(a0G aK.out 0).trans rfl,(a0C HB.out dO),(a0C HB.out dN),(a0C HB.out dM),(a0C HB.out eG),(a0C HB.out eF),(a0C HB.out eE)⟩ (fun hHeld =>?_)
          clear hK K
          refine a3J (a':=?_) ?_ ?_
          rotate_left
          ·show Act.put _ (some 37) _ = _
           simp only [Act.put,List.setIfInBounds_toArray,List.set_cons_zero,List.set_cons_succ,a0X,a0Y]
           rfl
          refine a1E (i:=16) (N:=some 38) (v:=?_) (a':=?_) #[true,true,true,true,true,true,true,true,true,true,true,true,true,true,true,true,true,false] rfl rfl (a0Z HT_.out (by kernel_rfl)) (fun _ _ _ h =>h) (Or.inl ⟨by rfl,?_⟩) ?_ ?_
          rotate_left
          ·intro w'
           go_simp
           with_reducible rfl
          rotate_left
          ·simp only [Act.put,List.setIfInBounds_toArray,List.set_cons_zero,List.set_cons_succ,a0X,a0Y]
           rfl
          refine a1E (i:=17) (N:=some 39) (v:=?_) (a':=?_) #[true,true,true,true,true,true,true,true,true,true,true,true,true,true,true,true,true,true] rfl rfl (a0Z HT_.out (by kernel_rfl)) (fun _ _ _ h =>h) (Or.inl ⟨by rfl,?_⟩) ?_ ?_
          rotate_left
          ·intro w'
           go_simp
           with_reducible rfl
          rotate_left
          ·simp only [Act.put,List.setIfInBounds_toArray,List.set_cons_zero,List.set_cons_succ,a0X,a0Y]
           rfl
          refine a6F (a3S HT_.out (by kernel_rfl)) ?_
          try go_wp2
          go_ret
          exact ⟨by first | rfl | (simp [a0T,a0S] <;> rfl) | (simp [*,a0T,a0S] <;> rfl),by repeat (first | (with_reducible first | exact HB.out | apply a0D | apply a0B | apply a0E | refine a0I ?_ cC.out | refine a0I ?_ cG.out) | exact HB.out)⟩
         ·rw [if_neg c17] at H
          have c17b0:decide (t264 < 0) = false:=decide_eq_false c17
          clear c17
          have H':=a0A.mk H
          clear H
          have hnb22:=bW.out
          have hnc22:=bV.out
          have mM:wr.cell? ⟨aD,0,none⟩ = some (.int .i64 aY):=(a0G aA.out 0).trans rfl
          have mN:wr.cell? ⟨aD,1,none⟩ = some (.string bT):=(a0G aA.out 1).trans rfl
          have mO:wr.cell? ⟨aD,2,none⟩ = some (.string bU):=(a0G aA.out 2).trans rfl
          have mP:wr.cell? ⟨aD,3,none⟩ = some (.string bC):=(a0G aA.out 3).trans rfl
          have mQ:wr.cell? ⟨aD,4,none⟩ = some (.slice dL aQ.length cI):=(a0G aA.out 4).trans rfl
          have mR:wr.cell? ⟨aD,5,none⟩ = some (.slice cJ bD.length cK):=(a0G aA.out 5).trans rfl
          have mS:wr.cell? ⟨aD,6,none⟩ = some (.slice cL bK.length cM):=(a0G aA.out 6).trans rfl
          have mT:wr.cell? ⟨aD,7,none⟩ = some (.slice cN bM.length cO):=(a0G aA.out 7).trans rfl
          have mU:=a0F aA.out 0
          have mV:=a0F aA.out 1
          have mW:=a0F aA.out 2
          have mX:=a0F aA.out 3
          have mY:=a0F aA.out 4
          have mZ:=a0F aA.out 5
          have nA:=a0F aA.out 6
          have nB:=a0F aA.out 7
          try go_wp2
          have bN:=a0A.mk (a0M aK.out)
          have bO:=a0A.mk (a0M aA.out)
          have bP:=a0A.mk (a0E HB.out)
          clear aK
          clear aA
          clear HB
          have aK:=bN
          have aA:=bO
          have HB:=bP
          clear bN bO bP
          have p262:0≤(aT:Int):=of_decide_eq_true (by first | (with_reducible assumption) | assumption)
          have q262:aT < (aQ.length:Int):=of_decide_eq_true (by first | (with_reducible assumption) | assumption)
          obtain ⟨ad262,e262,bQ,bR,bS⟩:=a6T gH.out aT p262 q262
          have dM:=bS
          have dN:=bR
          have dO:=bQ
          cases e262
          replace bQ:=a0C HB.out bQ
          replace bR:=a0C HB.out bR
          replace bS:=a0C HB.out bS
          replace p262:=eq_true p262
          replace q262:=eq_true q262
          have p263:0≤(aT:Int):=of_decide_eq_true (by first | (with_reducible assumption) | assumption)
          have q263:aT < (aQ.length:Int):=of_decide_eq_true (by first | (with_reducible assumption) | assumption)
          obtain ⟨ad263,e263,cR,cS,cT⟩:=a6T gH.out aT p263 q263
          have eE:=cT
          have eF:=cS
          have eG:=cR
          obtain rfl:ad262 = ad263:=(by injection e263)
          replace cR:=a0C HB.out cR
          replace cS:=a0C HB.out cS
          replace cT:=a0C HB.out cT
          replace p263:=eq_true p263
          replace q263:=eq_true q263
          refine a4L (n:=18) (S:=fun w' =>w'.cell? ⟨aD,0,none⟩ = some (.int .i64 aY)∧w'.cell? ⟨aD,1,none⟩ = some (.string bT)∧w'.cell? ⟨aD,2,none⟩ = some (.string bU)∧w'.cell? ⟨aD,3,none⟩ = some (.string bC)∧w'.cell? ⟨aD,4,none⟩ = some (.slice (some ad262) aQ.length cI)∧w'.cell? ⟨aD,5,none⟩ = some (.slice cJ bD.length cK)∧w'.cell? ⟨aD,6,none⟩ = some (.slice cL bK.length cM)∧w'.cell? ⟨aD,7,none⟩ = some (.slice cN bM.length cO)∧w'.cell? ⟨bY,0,none⟩ = some (.slice bB aC.length aU)∧w'.cell? (ad262.add ((aT).toNat * 3)) = some (.int .i64 ((a1R aQ aT).f0))∧w'.cell? ⟨(ad262.add ((aT).toNat * 3)).block,(ad262.add ((aT).toNat * 3)).off + 1,none⟩ = some (.int .i64 ((a1R aQ aT).f1))∧w'.cell? ⟨(ad262.add ((aT).toNat * 3)).block,(ad262.add ((aT).toNat * 3)).off + 2,none⟩ = some (.string ((a1R aQ aT).f2))∧w'.cell? (ad262.add ((aT).toNat * 3)) = some (.int .i64 ((a1R aQ aT).f0))∧w'.cell? ⟨(ad262.add ((aT).toNat * 3)).block,(ad262.add ((aT).toNat * 3)).off + 1,none⟩ = some (.int .i64 ((a1R aQ aT).f1))∧w'.cell? ⟨(ad262.add ((aT).toNat * 3)).block,(ad262.add ((aT).toNat * 3)).off + 2,none⟩ = some (.string ((a1R aQ aT).f2))) (ds:=[]) #[false,false,false,false,false,false,false,false,false,false,false,false,false,false,false,false,false,false] (by kernel_rfl) rfl rfl ⟨(a0G aA.out 0).trans rfl,(a0G aA.out 1).trans rfl,(a0G aA.out 2).trans rfl,(a0G aA.out 3).trans rfl,(a0G aA.out 4).trans rfl,(a0G aA.out 5).trans rfl,(a0G aA.out 6).trans rfl,(a0G aA.out 7).trans rfl,(a0G aK.out 0).trans rfl,(a0C HB.out dO),(a0C HB.out dN),(a0C HB.out dM),(a0C HB.out eG),(a0C HB.out eF),(a0C HB.out eE)⟩ (fun hHeld =>?_);refine a2R r05_stmt.tab6 r05_stmt.b4D (fun HT_ HW_ =>?_)
          generalize wr.drew = w24 at aK aA HB bQ bR bS cR cS cT hHeld ⊢
          refine a1E (i:=0) (N:=some 22) (v:=?_) (a':=?_) #[true,false,false,false,false,false,false,false,false,false,false,false,false,false,false,false,false,false] rfl rfl (a0Z HT_.out (by kernel_rfl)) (fun _ _ _ h =>h) (Or.inl ⟨by rfl,?_⟩) ?_ ?_
          rotate_left
          ·intro w'
           go_simp
           with_reducible rfl
          rotate_left
          ·simp only [Act.put,List.setIfInBounds_toArray,List.set_cons_zero,List.set_cons_succ,a0X,a0Y]
           rfl
          refine a1E (i:=2) (N:=some 24) (v:=?_) (a':=?_) #[true,false,true,false,false,false,false,false,false,false,false,false,false,false,false,false,false,false] rfl rfl (a0Z HT_.out (by kernel_rfl)) (fun _ _ _ h =>h) (Or.inl ⟨by rfl,?_⟩) ?_ ?_
          rotate_left
          ·intro w'
           go_simp
           with_reducible rfl
          rotate_left
          ·simp only [Act.put,List.setIfInBounds_toArray,List.set_cons_zero,List.set_cons_succ,a0X,a0Y]
           rfl
          refine a2M (i:=1) (N:=some 23) (v:=?_) (a':=?_) #[true,true,true,false,false,false,false,false,false,false,false,false,false,false,false,false,false,false] rfl rfl (a1O HT_.out HW_.out (by kernel_rfl)) (fun _ _ _ h =>h) (Or.inl ⟨by rfl,?_⟩) hHeld ?_ ?_
          rotate_left
          ·rintro w' ⟨s0,s1,s2,s3,s4,s5,s6,s7,s8,s9,s10,s11,s12,s13,s14⟩
           go_simp
           with_reducible rfl
          rotate_left
          ·simp only [Act.put,List.setIfInBounds_toArray,List.set_cons_zero,List.set_cons_succ,a0X,a0Y]
           rfl
          refine a1E (i:=3) (N:=some 25) (v:=?_) (a':=?_) #[true,true,true,true,false,false,false,false,false,false,false,false,false,false,false,false,false,false] rfl rfl (a0Z HT_.out (by kernel_rfl)) (fun _ _ _ h =>h) (Or.inl ⟨by rfl,?_⟩) ?_ ?_
          rotate_left
          ·intro w'
           go_simp
           with_reducible rfl
          rotate_left
          ·simp only [Act.put,List.setIfInBounds_toArray,List.set_cons_zero,List.set_cons_succ,a0X,a0Y]
           rfl
          refine a1E (i:=4) (N:=some 26) (v:=?_) (a':=?_) #[true,true,true,true,true,false,false,false,false,false,false,false,false,false,false,false,false,false] rfl rfl (a0Z HT_.out (by kernel_rfl)) (fun _ _ _ h =>h) (Or.inl ⟨by rfl,?_⟩) ?_ ?_
          rotate_left
          ·intro w'
           go_simp
           with_reducible rfl
          rotate_left
          ·simp only [Act.put,List.setIfInBounds_toArray,List.set_cons_zero,List.set_cons_succ,a0X,a0Y]
           rfl
          refine a2M (i:=5) (N:=some 27) (v:=?_) (a':=?_) #[true,true,true,true,true,true,false,false,false,false,false,false,false,false,false,false,false,false] rfl rfl (a1O HT_.out HW_.out (by kernel_rfl)) (fun _ _ _ h =>h) (Or.inl ⟨by rfl,?_⟩) hHeld ?_ ?_
          rotate_left
          ·rintro w' ⟨s0,s1,s2,s3,s4,s5,s6,s7,s8,s9,s10,s11,s12,s13,s14⟩
           go_simp
           with_reducible rfl
          rotate_left
          ·simp only [Act.put,List.setIfInBounds_toArray,List.set_cons_zero,List.set_cons_succ,a0X,a0Y]
           rfl
          refine a1E (i:=6) (N:=some 28) (v:=?_) (a':=?_) #[true,true,true,true,true,true,true,false,false,false,false,false,false,false,false,false,false,false] rfl rfl (a0Z HT_.out (by kernel_rfl)) (fun _ _ _ h =>h) (Or.inl ⟨by rfl,?_⟩) ?_ ?_
          rotate_left
          ·intro w'
           go_simp
           with_reducible rfl
          rotate_left
          ·simp only [Act.put,List.setIfInBounds_toArray,List.set_cons_zero,List.set_cons_succ,a0X,a0Y]
           rfl
          refine a1E (i:=7) (N:=some 29) (v:=?_) (a':=?_) #[true,true,true,true,true,true,true,true,false,false,false,false,false,false,false,false,false,false] rfl rfl (a0Z HT_.out (by kernel_rfl)) (fun _ _ _ h =>h) (Or.inl ⟨by rfl,?_⟩) ?_ ?_
          rotate_left
          ·intro w'
           go_simp
           with_reducible rfl
          rotate_left
          ·simp only [Act.put,List.setIfInBounds_toArray,List.set_cons_zero,List.set_cons_succ,a0X,a0Y]
           rfl
          refine a1E (i:=9) (N:=some 31) (v:=?_) (a':=?_) #[true,true,true,true,true,true,true,true,false,true,false,false,false,false,false,false,false,false] rfl rfl (a0Z HT_.out (by kernel_rfl)) (fun _ _ _ h =>h) (Or.inl ⟨by rfl,?_⟩) ?_ ?_
          rotate_left
          ·intro w'
           go_simp
           with_reducible rfl
          rotate_left
          ·simp only [Act.put,List.setIfInBounds_toArray,List.set_cons_zero,List.set_cons_succ,a0X,a0Y]
           rfl
          refine a1E (i:=11) (N:=some 33) (v:=?_) (a':=?_) #[true,true,true,true,true,true,true,true,false,true,false,true,false,false,false,false,false,false] rfl rfl (a0Z HT_.out (by kernel_rfl)) (fun _ _ _ h =>h) (Or.inl ⟨by rfl,?_⟩) ?_ ?_
          rotate_left
          ·intro w'
           go_simp
           with_reducible rfl
          rotate_left
          ·simp only [Act.put,List.setIfInBounds_toArray,List.set_cons_zero,List.set_cons_succ,a0X,a0Y]
           rfl
          refine a2M (i:=8) (N:=some 30) (v:=?_) (a':=?_) #[true,true,true,true,true,true,true,true,true,true,false,true,false,false,false,false,false,false] rfl rfl (a1O HT_.out HW_.out (by kernel_rfl)) (fun _ _ _ h =>h) (Or.inl ⟨by rfl,?_⟩) hHeld ?_ ?_
          rotate_left
          ·rintro w' ⟨s0,s1,s2,s3,s4,s5,s6,s7,s8,s9,s10,s11,s12,s13,s14⟩
           go_simp
           with_reducible rfl
          rotate_left
          ·simp only [Act.put,List.setIfInBounds_toArray,List.set_cons_zero,List.set_cons_succ,a0X,a0Y]
           rfl
          refine a2M (i:=10) (N:=some 32) (v:=?_) (a':=?_) #[true,true,true,true,true,true,true,true,true,true,true,true,false,false,false,false,false,false] rfl rfl (a1O HT_.out HW_.out (by kernel_rfl)) (fun _ _ _ h =>h) (Or.inl ⟨by rfl,?_⟩) hHeld ?_ ?_
          rotate_left
          ·rintro w' ⟨s0,s1,s2,s3,s4,s5,s6,s7,s8,s9,s10,s11,s12,s13,s14⟩
           go_simp
           with_reducible rfl
          rotate_left
          ·simp only [Act.put,List.setIfInBounds_toArray,List.set_cons_zero,List.set_cons_succ,a0X,a0Y]
           rfl
          refine a1E (i:=12) (N:=some 34) (v:=?_) (a':=?_) #[true,true,true,true,true,true,true,true,true,true,true,true,true,false,false,false,false,false] rfl rfl (a0Z HT_.out (by kernel_rfl)) (fun _ _ _ h =>h) (Or.inl ⟨by rfl,?_⟩) ?_ ?_
          rotate_left
          ·intro w'
           go_simp
           with_reducible rfl
          rotate_left
          ·simp only [Act.put,List.setIfInBounds_toArray,List.set_cons_zero,List.set_cons_succ,a0X,a0Y]
           rfl
          refine a1E (i:=13) (N:=some 35) (v:=?_) (a':=?_) #[true,true,true,true,true,true,true,true,true,true,true,true,true,true,false,false,false,false] rfl rfl (a0Z HT_.out (by kernel_rfl)) (fun _ _ _ h =>h) (Or.inl ⟨by rfl,?_⟩) ?_ ?_
          rotate_left
          ·intro w'
           go_simp
           with_reducible rfl
          rotate_left
          ·simp only [Act.put,List.setIfInBounds_toArray,List.set_cons_zero,List.set_cons_succ,a0X,a0Y]
           rfl
          refine a2M (i:=14) (N:=some 36) (v:=?_) (a':=?_) #[true,true,true,true,true,true,true,true,true,true,true,true,true,true,true,false,false,false] rfl rfl (a1O HT_.out HW_.out (by kernel_rfl)) (fun _ _ _ h =>h) (Or.inl ⟨by rfl,?_⟩) hHeld ?_ ?_
          rotate_left
          ·rintro w' ⟨s0,s1,s2,s3,s4,s5,s6,s7,s8,s9,s10,s11,s12,s13,s14⟩
           go_simp
           with_reducible rfl
          rotate_left
          ·simp only [Act.put,List.setIfInBounds_toArray,List.set_cons_zero,List.set_cons_succ,a0X,a0Y]
           rfl
          refine one_ (i:=15) (N:=some 37) #[true,true,true,true,true,true,true,true,true,true,true,true,true,true,true,true,false,false] rfl rfl (a2O HT_.out (by kernel_rfl)) (by decide) (fun K hK =>?_)
          refine a3K Try.func16 (by kernel_rfl) rfl #[.agg #[.slice bB aC.length aU],.string ((a1R aQ aT).f2)] (by rfl) rfl rfl (by (try simp only [List.map_toArray,List.map_cons,List.map_nil]);first | done | rfl | (simp only [List.length_drop,List.length_take];rfl)) ?_
          with_reducible refine (r05_Fun.calls k2 _ _ aC ((a1R aQ aT).f2) t264 _ ?side1 ?side2 A16.out).mono ?_
          (case side1 =>repeat (first | exact (Kd.a0N cD.out HB.out) | (with_reducible refine Kd.a0R ?_ _) | (with_reducible refine Kd.a0Q ?_ _) | (with_reducible refine Kd.a1B ?_)))
          (case side2 =>exact dK.out)
          rintro e w25 ⟨rfl,hb⟩
          refine ⟨_,rfl,?_⟩
          have bN:=a0A.mk (a0U (g:=bY) (o:=.cells #[.slice bB aC.length aU] 24 (0,0)) (by (with_reducible repeat (first | refine a0L ?_ _ | refine a0M ?_ | refine a0K ?_ _));exact aK.out) hb)
          have bO:=a0A.mk (a0U (g:=aD) (o:=.cells #[.int .i64 aY,.string bT,.string bU,.string bC,.slice (some ad262) aQ.length cI,.slice cJ bD.length cK,.slice cL bK.length cM,.slice cN bM.length cO] 46 (0,0)) (by (with_reducible repeat (first | refine a0L ?_ _ | refine a0M ?_ | refine a0K ?_ _));exact aA.out) hb)
          have bP:=a0A.mk (a0H (by repeat (first | (with_reducible first | exact HB.out | apply a0D | apply a0B | apply a0E | refine a0I ?_ cC.out | refine a0I ?_ cG.out) | exact HB.out)) hb)
          clear aK
          clear aA
          clear HB
          have aK:=bN
          have aA:=bO
          have HB:=bP
          clear bN bO bP
          (try clear hb)
          (try clear hb2)
          (try clear hk)
          (try clear hi)
          refine hK.out _ _ ⟨(a0G aA.out 0).trans rfl,(a0G aA.out 1).trans rfl,(a0G aA.out 2).trans rfl,(a0G aA.out 3).trans rfl,(a0G aA.out 4).trans rfl,(a0G aA.out 5).trans rfl,(a0G aA.out 6).trans rfl,(a0G aA.out 7).trans rfl,(a0G aK.out 0).trans rfl,(a0C HB.out dO),(a0C HB.out dN),(a0C HB.out dM),(a0C HB.out eG),(a0C HB.out eF),(a0C HB.out eE)⟩ (fun hHeld =>?_)
          clear hK K
          refine a3J (a':=?_) ?_ ?_
          rotate_left
          ·show Act.put _ (some 37) _ = _
           simp only [Act.put,List.setIfInBounds_toArray,List.set_cons_zero,List.set_cons_succ,a0X,a0Y]
           rfl
          refine a1E (i:=16) (N:=some 38) (v:=?_) (a':=?_) #[true,true,true,true,true,true,true,true,true,true,true,true,true,true,true,true,true,false] rfl rfl (a0Z HT_.out (by kernel_rfl)) (fun _ _ _ h =>h) (Or.inl ⟨by rfl,?_⟩) ?_ ?_
          rotate_left
          ·intro w'
           go_simp
           with_reducible rfl
          rotate_left
          ·simp only [Act.put,List.setIfInBounds_toArray,List.set_cons_zero,List.set_cons_succ,a0X,a0Y]
           rfl
          refine a1E (i:=17) (N:=some 39) (v:=?_) (a':=?_) #[true,true,true,true,true,true,true,true,true,true,true,true,true,true,true,true,true,true] rfl rfl (a0Z HT_.out (by kernel_rfl)) (fun _ _ _ h =>h) (Or.inl ⟨by rfl,?_⟩) ?_ ?_
          rotate_left
          ·intro w'
           go_simp
           with_reducible rfl
          rotate_left
          ·simp only [Act.put,List.setIfInBounds_toArray,List.set_cons_zero,List.set_cons_succ,a0X,a0Y]
           rfl
          refine a6F (a3S HT_.out (by kernel_rfl)) ?_
          try go_wp2
          go_roundg k2
          case measure =>have:=HJ2.out;have:=HK2.out;omega
          case rel =>exact ⟨(wrap64 (aT + 1)),(by first | rfl | (simp;done) | (simp [*];done)),H',⟨by have:=HJ2.out;have:=HK2.out;omega⟩,⟨by (with_reducible repeat (first | refine a0L ?_ _ | refine a0M ?_ | refine a0K ?_ _));exact aK.out⟩,⟨by (with_reducible repeat (first | refine a0L ?_ _ | refine a0M ?_ | refine a0K ?_ _));exact aA.out⟩,⟨by repeat (first | (with_reducible first | exact HB.out | apply a0D | apply a0B | apply a0E | refine a0I ?_ cC.out | refine a0I ?_ cG.out) | exact HB.out)⟩⟩
        ·rw [if_neg c15] at H
         have c15b0:(((a1R aQ aT).f0) == 3) = false:=beq_eq_false_iff_ne.mpr c15
         have c15b1:(((a1R aQ aT).f0) != 3) = true:=bne_iff_ne.mpr c15
         have H':=a0A.mk H
         clear H
         have hnb26:=bW.out
         have hnc26:=bV.out
         have nC:wr.cell? ⟨aD,0,none⟩ = some (.int .i64 aY):=(a0G aA.out 0).trans rfl
         have nD:wr.cell? ⟨aD,1,none⟩ = some (.string bT):=(a0G aA.out 1).trans rfl
         have nE:wr.cell? ⟨aD,2,none⟩ = some (.string bU):=(a0G aA.out 2).trans rfl
         have nG:wr.cell? ⟨aD,3,none⟩ = some (.string bC):=(a0G aA.out 3).trans rfl
         have nH:wr.cell? ⟨aD,4,none⟩ = some (.slice dL aQ.length cI):=(a0G aA.out 4).trans rfl
         have nI:wr.cell? ⟨aD,5,none⟩ = some (.slice cJ bD.length cK):=(a0G aA.out 5).trans rfl
         have nJ:wr.cell? ⟨aD,6,none⟩ = some (.slice cL bK.length cM):=(a0G aA.out 6).trans rfl
         have nK:wr.cell? ⟨aD,7,none⟩ = some (.slice cN bM.length cO):=(a0G aA.out 7).trans rfl
         have nL:=a0F aA.out 0
         have nM:=a0F aA.out 1
         have nN:=a0F aA.out 2
         have nO:=a0F aA.out 3
         have nP:=a0F aA.out 4
         have nQ:=a0F aA.out 5
         have nR:=a0F aA.out 6
         have nS:=a0F aA.out 7
         try go_wp2
         have bN:=a0A.mk (a0M aK.out)
         have bO:=a0A.mk (a0M aA.out)
         have bP:=a0A.mk (a0E HB.out)
         clear aK
         clear aA
         clear HB
         have aK:=bN
         have aA:=bO
         have HB:=bP
         clear bN bO bP
         have p262:0≤(aT:Int):=of_decide_eq_true (by first | (with_reducible assumption) | assumption)
         have q262:aT < (aQ.length:Int):=of_decide_eq_true (by first | (with_reducible assumption) | assumption)
         obtain ⟨ad262,e262,bQ,bR,bS⟩:=a6T gH.out aT p262 q262
         have dM:=bS
         have dN:=bR
         have dO:=bQ
         cases e262
         replace bQ:=a0C HB.out bQ
         replace bR:=a0C HB.out bR
         replace bS:=a0C HB.out bS
         replace p262:=eq_true p262
         replace q262:=eq_true q262
         refine a4L (n:=18) (S:=fun w' =>w'.cell? ⟨aD,0,none⟩ = some (.int .i64 aY)∧w'.cell? ⟨aD,1,none⟩ = some (.string bT)∧w'.cell? ⟨aD,2,none⟩ = some (.string bU)∧w'.cell? ⟨aD,3,none⟩ = some (.string bC)∧w'.cell? ⟨aD,4,none⟩ = some (.slice (some ad262) aQ.length cI)∧w'.cell? ⟨aD,5,none⟩ = some (.slice cJ bD.length cK)∧w'.cell? ⟨aD,6,none⟩ = some (.slice cL bK.length cM)∧w'.cell? ⟨aD,7,none⟩ = some (.slice cN bM.length cO)∧w'.cell? (ad262.add ((aT).toNat * 3)) = some (.int .i64 ((a1R aQ aT).f0))∧w'.cell? ⟨(ad262.add ((aT).toNat * 3)).block,(ad262.add ((aT).toNat * 3)).off + 1,none⟩ = some (.int .i64 ((a1R aQ aT).f1))∧w'.cell? ⟨(ad262.add ((aT).toNat * 3)).block,(ad262.add ((aT).toNat * 3)).off + 2,none⟩ = some (.string ((a1R aQ aT).f2))) (ds:=[]) #[false,false,false,false,false,false,false,false,false,false,false,false,false,false,false,false,false,false] (by kernel_rfl) rfl rfl ⟨(a0G aA.out 0).trans rfl,(a0G aA.out 1).trans rfl,(a0G aA.out 2).trans rfl,(a0G aA.out 3).trans rfl,(a0G aA.out 4).trans rfl,(a0G aA.out 5).trans rfl,(a0G aA.out 6).trans rfl,(a0G aA.out 7).trans rfl,(a0C HB.out dO),(a0C HB.out dN),(a0C HB.out dM)⟩ (fun hHeld =>?_);refine a2R r05_stmt.tab6 r05_stmt.b4D (fun HT_ HW_ =>?_)
         generalize wr.drew = w28 at aK aA HB bQ bR bS hHeld ⊢
         refine a1E (i:=0) (N:=some 22) (v:=?_) (a':=?_) #[true,false,false,false,false,false,false,false,false,false,false,false,false,false,false,false,false,false] rfl rfl (a0Z HT_.out (by kernel_rfl)) (fun _ _ _ h =>h) (Or.inl ⟨by rfl,?_⟩) ?_ ?_
         rotate_left
         ·intro w'
          go_simp
          with_reducible rfl
         rotate_left
         ·simp only [Act.put,List.setIfInBounds_toArray,List.set_cons_zero,List.set_cons_succ,a0X,a0Y]
          rfl
         refine a1E (i:=2) (N:=some 24) (v:=?_) (a':=?_) #[true,false,true,false,false,false,false,false,false,false,false,false,false,false,false,false,false,false] rfl rfl (a0Z HT_.out (by kernel_rfl)) (fun _ _ _ h =>h) (Or.inl ⟨by rfl,?_⟩) ?_ ?_
         rotate_left
         ·intro w'
          go_simp
          with_reducible rfl
         rotate_left
         ·simp only [Act.put,List.setIfInBounds_toArray,List.set_cons_zero,List.set_cons_succ,a0X,a0Y]
          rfl
         refine a2M (i:=1) (N:=some 23) (v:=?_) (a':=?_) #[true,true,true,false,false,false,false,false,false,false,false,false,false,false,false,false,false,false] rfl rfl (a1O HT_.out HW_.out (by kernel_rfl)) (fun _ _ _ h =>h) (Or.inl ⟨by rfl,?_⟩) hHeld ?_ ?_
         rotate_left
         ·rintro w' ⟨s0,s1,s2,s3,s4,s5,s6,s7,s8,s9,s10⟩
          go_simp
          with_reducible rfl
         rotate_left
         ·simp only [Act.put,List.setIfInBounds_toArray,List.set_cons_zero,List.set_cons_succ,a0X,a0Y]
          rfl
         refine a1E (i:=3) (N:=some 25) (v:=?_) (a':=?_) #[true,true,true,true,false,false,false,false,false,false,false,false,false,false,false,false,false,false] rfl rfl (a0Z HT_.out (by kernel_rfl)) (fun _ _ _ h =>h) (Or.inl ⟨by rfl,?_⟩) ?_ ?_
         rotate_left
         ·intro w'
          go_simp
          with_reducible rfl
         rotate_left
         ·simp only [Act.put,List.setIfInBounds_toArray,List.set_cons_zero,List.set_cons_succ,a0X,a0Y]
          rfl
         refine a1E (i:=4) (N:=some 26) (v:=?_) (a':=?_) #[true,true,true,true,true,false,false,false,false,false,false,false,false,false,false,false,false,false] rfl rfl (a0Z HT_.out (by kernel_rfl)) (fun _ _ _ h =>h) (Or.inl ⟨by rfl,?_⟩) ?_ ?_
         rotate_left
         ·intro w'
          go_simp
          with_reducible rfl
         rotate_left
         ·simp only [Act.put,List.setIfInBounds_toArray,List.set_cons_zero,List.set_cons_succ,a0X,a0Y]
          rfl
         refine a2M (i:=5) (N:=some 27) (v:=?_) (a':=?_) #[true,true,true,true,true,true,false,false,false,false,false,false,false,false,false,false,false,false] rfl rfl (a1O HT_.out HW_.out (by kernel_rfl)) (fun _ _ _ h =>h) (Or.inl ⟨by rfl,?_⟩) hHeld ?_ ?_
         rotate_left
         ·rintro w' ⟨s0,s1,s2,s3,s4,s5,s6,s7,s8,s9,s10⟩
          go_simp
          with_reducible rfl
         rotate_left
         ·simp only [Act.put,List.setIfInBounds_toArray,List.set_cons_zero,List.set_cons_succ,a0X,a0Y]
          rfl
         refine a1E (i:=6) (N:=some 28) (v:=?_) (a':=?_) #[true,true,true,true,true,true,true,false,false,false,false,false,false,false,false,false,false,false] rfl rfl (a0Z HT_.out (by kernel_rfl)) (fun _ _ _ h =>h) (Or.inl ⟨by rfl,?_⟩) ?_ ?_
         rotate_left
         ·intro w'
          go_simp
          with_reducible rfl
         rotate_left
         ·simp only [Act.put,List.setIfInBounds_toArray,List.set_cons_zero,List.set_cons_succ,a0X,a0Y]
          rfl
         refine a1E (i:=7) (N:=some 29) (v:=?_) (a':=?_) #[true,true,true,true,true,true,true,true,false,false,false,false,false,false,false,false,false,false] rfl rfl (a0Z HT_.out (by kernel_rfl)) (fun _ _ _ h =>h) (Or.inl ⟨by rfl,?_⟩) ?_ ?_
         rotate_left
         ·intro w'
          go_simp
          with_reducible rfl
         rotate_left
         ·simp only [Act.put,List.setIfInBounds_toArray,List.set_cons_zero,List.set_cons_succ,a0X,a0Y]
          rfl
         refine a1E (i:=8) (N:=some 30) (v:=undef) (a':=?_) #[true,true,true,true,true,true,true,true,true,false,false,false,false,false,false,false,false,false] rfl rfl (a0Z HT_.out (by kernel_rfl)) (fun _ _ _ h =>h) (Or.inr ⟨by rfl,rfl⟩) ?_ ?_
         rotate_left
         ·simp only [Act.put,List.setIfInBounds_toArray,List.set_cons_zero,List.set_cons_succ,a0X,a0Y]
          rfl
         refine a1E (i:=9) (N:=some 31) (v:=undef) (a':=?_) #[true,true,true,true,true,true,true,true,true,true,false,false,false,false,false,false,false,false] rfl rfl (a0Z HT_.out (by kernel_rfl)) (fun _ _ _ h =>h) (Or.inr ⟨by rfl,rfl⟩) ?_ ?_
         rotate_left
         ·simp only [Act.put,List.setIfInBounds_toArray,List.set_cons_zero,List.set_cons_succ,a0X,a0Y]
          rfl
         refine a1E (i:=10) (N:=some 32) (v:=undef) (a':=?_) #[true,true,true,true,true,true,true,true,true,true,true,false,false,false,false,false,false,false] rfl rfl (a0Z HT_.out (by kernel_rfl)) (fun _ _ _ h =>h) (Or.inr ⟨by rfl,rfl⟩) ?_ ?_
         rotate_left
         ·simp only [Act.put,List.setIfInBounds_toArray,List.set_cons_zero,List.set_cons_succ,a0X,a0Y]
          rfl
         refine a1E (i:=11) (N:=some 33) (v:=undef) (a':=?_) #[true,true,true,true,true,true,true,true,true,true,true,true,false,false,false,false,false,false] rfl rfl (a0Z HT_.out (by kernel_rfl)) (fun _ _ _ h =>h) (Or.inr ⟨by rfl,rfl⟩) ?_ ?_
         rotate_left
         ·simp only [Act.put,List.setIfInBounds_toArray,List.set_cons_zero,List.set_cons_succ,a0X,a0Y]
          rfl
         refine a1E (i:=12) (N:=some 34) (v:=undef) (a':=?_) #[true,true,true,true,true,true,true,true,true,true,true,true,true,false,false,false,false,false] rfl rfl (a0Z HT_.out (by kernel_rfl)) (fun _ _ _ h =>h) (Or.inr ⟨by rfl,rfl⟩) ?_ ?_
         rotate_left
         ·simp only [Act.put,List.setIfInBounds_toArray,List.set_cons_zero,List.set_cons_succ,a0X,a0Y]
          rfl
         refine a1E (i:=13) (N:=some 35) (v:=undef) (a':=?_) #[true,true,true,true,true,true,true,true,true,true,true,true,true,true,false,false,false,false] rfl rfl (a0Z HT_.out (by kernel_rfl)) (fun _ _ _ h =>h) (Or.inr ⟨by rfl,rfl⟩) ?_ ?_
         rotate_left
         ·simp only [Act.put,List.setIfInBounds_toArray,List.set_cons_zero,List.set_cons_succ,a0X,a0Y]
          rfl
         refine a1E (i:=14) (N:=some 36) (v:=undef) (a':=?_) #[true,true,true,true,true,true,true,true,true,true,true,true,true,true,true,false,false,false] rfl rfl (a0Z HT_.out (by kernel_rfl)) (fun _ _ _ h =>h) (Or.inr ⟨by rfl,rfl⟩) ?_ ?_
         rotate_left
         ·simp only [Act.put,List.setIfInBounds_toArray,List.set_cons_zero,List.set_cons_succ,a0X,a0Y]
          rfl
         refine a1E (i:=15) (N:=some 37) (v:=undef) (a':=?_) #[true,true,true,true,true,true,true,true,true,true,true,true,true,true,true,true,false,false] rfl rfl (a0Z HT_.out (by kernel_rfl)) (fun _ _ _ h =>h) (Or.inr ⟨by rfl,rfl⟩) ?_ ?_
         rotate_left
         ·simp only [Act.put,List.setIfInBounds_toArray,List.set_cons_zero,List.set_cons_succ,a0X,a0Y]
          rfl
         refine a1E (i:=16) (N:=some 38) (v:=undef) (a':=?_) #[true,true,true,true,true,true,true,true,true,true,true,true,true,true,true,true,true,false] rfl rfl (a0Z HT_.out (by kernel_rfl)) (fun _ _ _ h =>h) (Or.inr ⟨by rfl,rfl⟩) ?_ ?_
         rotate_left
         ·simp only [Act.put,List.setIfInBounds_toArray,List.set_cons_zero,List.set_cons_succ,a0X,a0Y]
          rfl
         refine a1E (i:=17) (N:=some 39) (v:=?_) (a':=?_) #[true,true,true,true,true,true,true,true,true,true,true,true,true,true,true,true,true,true] rfl rfl (a0Z HT_.out (by kernel_rfl)) (fun _ _ _ h =>h) (Or.inl ⟨by rfl,?_⟩) ?_ ?_
         rotate_left
         ·intro w'
          go_simp
          with_reducible rfl
         rotate_left
         ·simp only [Act.put,List.setIfInBounds_toArray,List.set_cons_zero,List.set_cons_succ,a0X,a0Y]
          rfl
         refine a6F (a3S HT_.out (by kernel_rfl)) ?_
         try go_wp2
         go_roundg k2
         case measure =>have:=HJ2.out;have:=HK2.out;omega
         case rel =>exact ⟨(wrap64 (aT + 1)),(by first | rfl | (simp;done) | (simp [*];done)),H',⟨by have:=HJ2.out;have:=HK2.out;omega⟩,⟨by (with_reducible repeat (first | refine a0L ?_ _ | refine a0M ?_ | refine a0K ?_ _));exact aK.out⟩,⟨by (with_reducible repeat (first | refine a0L ?_ _ | refine a0M ?_ | refine a0K ?_ _));exact aA.out⟩,⟨by repeat (first | (with_reducible first | exact HB.out | apply a0D | apply a0B | apply a0E | refine a0I ?_ cC.out | refine a0I ?_ cG.out) | exact HB.out)⟩⟩
       ·rw [if_neg c14] at H
        exact absurd H (by simp)
      ·rw [if_neg c13] at H
       have c13b0:decide (aT < (aQ.length:Int)) = false:=decide_eq_false c13
       clear c13
       by_cases c29:aY = 5
       ·rw [if_pos c29] at H
        have c29b0:(aY == 5) = true:=beq_iff_eq.mpr c29
        have c29b1:(aY != 5) = false:=bne_eq_false_iff_eq.mpr c29
        clear c29
        replace H:=Option.bind_eq_some_iff.mp H
        obtain ⟨t265,A300,H⟩:=H
        replace H:(if t265 < 0 then (some 51) else (if 0≤t265 then (if t265 < (aC.length:Int) then (if (((a0P aC t265).f1).length:Int) = (aQ.length:Int) then (some 0) else (some 52)) else (none)) else (none))) = some r:=H
        have A30:=a0A.mk A300
        clear A300
        by_cases c31:t265 < 0
        ·rw [if_pos c31] at H
         have c31b0:decide (t265 < 0) = true:=decide_eq_true c31
         clear c31
         obtain rfl:=Option.some.inj H
         have hnb32:=bW.out
         have hnc32:=bV.out
         have nT:wr.cell? ⟨aD,0,none⟩ = some (.int .i64 aY):=(a0G aA.out 0).trans rfl
         have nU:wr.cell? ⟨aD,1,none⟩ = some (.string bT):=(a0G aA.out 1).trans rfl
         have nV:wr.cell? ⟨aD,2,none⟩ = some (.string bU):=(a0G aA.out 2).trans rfl
         have nW:wr.cell? ⟨aD,3,none⟩ = some (.string bC):=(a0G aA.out 3).trans rfl
         have nX:wr.cell? ⟨aD,4,none⟩ = some (.slice dL aQ.length cI):=(a0G aA.out 4).trans rfl
         have nY:wr.cell? ⟨aD,5,none⟩ = some (.slice cJ bD.length cK):=(a0G aA.out 5).trans rfl
         have nZ:wr.cell? ⟨aD,6,none⟩ = some (.slice cL bK.length cM):=(a0G aA.out 6).trans rfl
         have oA:wr.cell? ⟨aD,7,none⟩ = some (.slice cN bM.length cO):=(a0G aA.out 7).trans rfl
         have oB:=a0F aA.out 0
         have oC:=a0F aA.out 1
         have oD:=a0F aA.out 2
         have oE:=a0F aA.out 3
         have oF:=a0F aA.out 4
         have oG:=a0F aA.out 5
         have oH:=a0F aA.out 6
         have oI:=a0F aA.out 7
         have oJ:wr.cell? ⟨bY,0,none⟩ = some (.slice bB aC.length aU):=(a0G aK.out 0).trans rfl
         have oK:=a0F aK.out 0
         go_wp2_with (first | ((with_reducible refine a1H (f:=16) rfl ?_);refine a2G (some 46) rfl rfl Try.func16 (by kernel_rfl) rfl #[.agg #[.slice bB aC.length aU],.string bC] rfl (by (try simp only [List.map_toArray,List.map_cons,List.map_nil]);first | done | rfl | (simp only [List.length_drop,List.length_take];rfl)) ?_;(with_reducible refine (r05_Fun.calls k2 _ _ aC bC t265 _ ?side1 ?side2 A30.out).mono ?_);(case side1 =>repeat (first | exact (Kd.a0N cD.out HB.out) | (with_reducible refine Kd.a0R ?_ _) | (with_reducible refine Kd.a0Q ?_ _) | (with_reducible refine Kd.a1B ?_)));(case side2 =>exact dK.out);rintro e w35 ⟨rfl,hb⟩;refine ⟨_,rfl,?_⟩;have bN:=a0A.mk (a0U (g:=bY) (o:=.cells #[.slice bB aC.length aU] 24 (0,0)) (by (with_reducible repeat (first | refine a0L ?_ _ | refine a0M ?_ | refine a0K ?_ _));exact aK.out) hb);have bO:=a0A.mk (a0U (g:=aD) (o:=.cells #[.int .i64 aY,.string bT,.string bU,.string bC,.slice dL aQ.length cI,.slice cJ bD.length cK,.slice cL bK.length cM,.slice cN bM.length cO] 46 (0,0)) (by (with_reducible repeat (first | refine a0L ?_ _ | refine a0M ?_ | refine a0K ?_ _));exact aA.out) hb);have bP:=a0A.mk (a0H (by repeat (first | (with_reducible first | exact HB.out | apply a0D | apply a0B | apply a0E | refine a0I ?_ cC.out | refine a0I ?_ cG.out) | exact HB.out)) hb);clear aK;clear aA;clear HB;have aK:=bN;have aA:=bO;have HB:=bP;clear bN bO bP;(try clear hb);(try clear hb2);(try clear hk);(try clear hi)))
         go_ret
         exact ⟨by first | rfl | (simp [a0T,a0S] <;> rfl) | (simp [*,a0T,a0S] <;> rfl),by repeat (first | (with_reducible first | exact HB.out | apply a0D | apply a0B | apply a0E | refine a0I ?_ cC.out | refine a0I ?_ cG.out) | exact HB.out)⟩
        ·rw [if_neg c31] at H
         have c31b0:decide (t265 < 0) = false:=decide_eq_false c31
         clear c31
         by_cases c36:0≤t265
         ·rw [if_pos c36] at H
          have c36b0:decide (0≤t265) = true:=decide_eq_true c36
          clear c36
          by_cases c37:t265 < (aC.length:Int)
          ·rw [if_pos c37] at H
           have c37b0:decide (t265 < (aC.length:Int)) = true:=decide_eq_true c37
           clear c37
           by_cases c38:(((a0P aC t265).f1).length:Int) = (aQ.length:Int)
           ·rw [if_pos c38] at H
            have c38b0:((((a0P aC t265).f1).length:Int) == (aQ.length:Int)) = true:=beq_iff_eq.mpr c38
            have c38b1:((((a0P aC t265).f1).length:Int) != (aQ.length:Int)) = false:=bne_eq_false_iff_eq.mpr c38
            have c38b2:(((a0P aC t265).f1).length == aQ.length) = true:=by first | simpa using c38 | (simp at c38 ⊢;omega)
            clear c38
            obtain rfl:=Option.some.inj H
            have hnb39:=bW.out
            have hnc39:=bV.out
            have oL:wr.cell? ⟨aD,0,none⟩ = some (.int .i64 aY):=(a0G aA.out 0).trans rfl
            have oM:wr.cell? ⟨aD,1,none⟩ = some (.string bT):=(a0G aA.out 1).trans rfl
            have oN:wr.cell? ⟨aD,2,none⟩ = some (.string bU):=(a0G aA.out 2).trans rfl
            have oO:wr.cell? ⟨aD,3,none⟩ = some (.string bC):=(a0G aA.out 3).trans rfl
            have oP:wr.cell? ⟨aD,4,none⟩ = some (.slice dL aQ.length cI):=(a0G aA.out 4).trans rfl
            have oQ:wr.cell? ⟨aD,5,none⟩ = some (.slice cJ bD.length cK):=(a0G aA.out 5).trans rfl
            have oR:wr.cell? ⟨aD,6,none⟩ = some (.slice cL bK.length cM):=(a0G aA.out 6).trans rfl
            have oS:wr.cell? ⟨aD,7,none⟩ = some (.slice cN bM.length cO):=(a0G aA.out 7).trans rfl
            have oT:=a0F aA.out 0
            have oU:=a0F aA.out 1
            have oV:=a0F aA.out 2
            have oW:=a0F aA.out 3
            have oX:=a0F aA.out 4
            have oY:=a0F aA.out 5
            have oZ:=a0F aA.out 6
            have pA:=a0F aA.out 7
            have pB:wr.cell? ⟨bY,0,none⟩ = some (.slice bB aC.length aU):=(a0G aK.out 0).trans rfl
            have pC:=a0F aK.out 0
            try go_wp2_with (first | ((with_reducible refine a1H (f:=16) rfl ?_);refine a2G (some 46) rfl rfl Try.func16 (by kernel_rfl) rfl #[.agg #[.slice bB aC.length aU],.string bC] rfl (by (try simp only [List.map_toArray,List.map_cons,List.map_nil]);first | done | rfl | (simp only [List.length_drop,List.length_take];rfl)) ?_;(with_reducible refine (r05_Fun.calls k2 _ _ aC bC t265 _ ?side1 ?side2 A30.out).mono ?_);(case side1 =>repeat (first | exact (Kd.a0N cD.out HB.out) | (with_reducible refine Kd.a0R ?_ _) | (with_reducible refine Kd.a0Q ?_ _) | (with_reducible refine Kd.a1B ?_)));(case side2 =>exact dK.out);rintro e w42 ⟨rfl,hb⟩;refine ⟨_,rfl,?_⟩;have bN:=a0A.mk (a0U (g:=bY) (o:=.cells #[.slice bB aC.length aU] 24 (0,0)) (by (with_reducible repeat (first | refine a0L ?_ _ | refine a0M ?_ | refine a0K ?_ _));exact aK.out) hb);have bO:=a0A.mk (a0U (g:=aD) (o:=.cells #[.int .i64 aY,.string bT,.string bU,.string bC,.slice dL aQ.length cI,.slice cJ bD.length cK,.slice cL bK.length cM,.slice cN bM.length cO] 46 (0,0)) (by (with_reducible repeat (first | refine a0L ?_ _ | refine a0M ?_ | refine a0K ?_ _));exact aA.out) hb);have bP:=a0A.mk (a0H (by repeat (first | (with_reducible first | exact HB.out | apply a0D | apply a0B | apply a0E | refine a0I ?_ cC.out | refine a0I ?_ cG.out) | exact HB.out)) hb);clear aK;clear aA;clear HB;have aK:=bN;have aA:=bO;have HB:=bP;clear bN bO bP;(try clear hb);(try clear hb2);(try clear hk);(try clear hi)))
            have bN:=a0A.mk (a0M aK.out)
            have bO:=a0A.mk (a0M aA.out)
            have bP:=a0A.mk (a0E HB.out)
            clear aK
            clear aA
            clear HB
            have aK:=bN
            have aA:=bO
            have HB:=bP
            clear bN bO bP
            have p266:0≤(t265:Int):=of_decide_eq_true (by first | (with_reducible assumption) | assumption)
            have q266:t265 < (aC.length:Int):=of_decide_eq_true (by first | (with_reducible assumption) | assumption)
            obtain ⟨ad266,gI,gJ,gK,gL,e266,cU,cV,cW,eH,eI,eJ,eK⟩:=a3N cD.out t265 p266 q266
            have fW:=cW
            have fX:=cV
            have fY:=cU
            cases e266
            replace cU:=a0C HB.out cU
            replace cV:=a0C HB.out cV
            replace cW:=a0C HB.out cW
            have fZ:=a0A.mk eI
            have kD:=a0A.mk eH
            clear eI eH
            have gA:=a0A.mk eK
            have kE:=a0A.mk eJ
            clear eK eJ
            replace p266:=eq_true p266
            replace q266:=eq_true q266
            refine a4L (n:=11) (S:=fun w' =>w'.cell? ⟨bY,0,none⟩ = some (.slice (some ad266) aC.length aU)∧w'.cell? ⟨aD,0,none⟩ = some (.int .i64 aY)∧w'.cell? ⟨aD,1,none⟩ = some (.string bT)∧w'.cell? ⟨aD,2,none⟩ = some (.string bU)∧w'.cell? ⟨aD,3,none⟩ = some (.string bC)∧w'.cell? ⟨aD,4,none⟩ = some (.slice dL aQ.length cI)∧w'.cell? ⟨aD,5,none⟩ = some (.slice cJ bD.length cK)∧w'.cell? ⟨aD,6,none⟩ = some (.slice cL bK.length cM)∧w'.cell? ⟨aD,7,none⟩ = some (.slice cN bM.length cO)∧w'.cell? (ad266.add ((t265).toNat * 3)) = some (.string ((a0P aC t265).f0))∧w'.cell? ⟨(ad266.add ((t265).toNat * 3)).block,(ad266.add ((t265).toNat * 3)).off + 1,none⟩ = some (.slice gI ((a0P aC t265).f1).length gJ)∧w'.cell? ⟨(ad266.add ((t265).toNat * 3)).block,(ad266.add ((t265).toNat * 3)).off + 2,none⟩ = some (.slice gK ((a0P aC t265).f2).length gL)) (ds:=[]) #[false,false,false,false,false,false,false,false,false,false,false] (by kernel_rfl) rfl rfl ⟨(a0G aK.out 0).trans rfl,(a0G aA.out 0).trans rfl,(a0G aA.out 1).trans rfl,(a0G aA.out 2).trans rfl,(a0G aA.out 3).trans rfl,(a0G aA.out 4).trans rfl,(a0G aA.out 5).trans rfl,(a0G aA.out 6).trans rfl,(a0G aA.out 7).trans rfl,(a0C HB.out fY),(a0C HB.out fX),(a0C HB.out fW)⟩ (fun hHeld =>?_);refine a2R r05_stmt.tab12 r05_stmt.bits12 (fun HT_ HW_ =>?_)
            generalize w42.drew = w43 at aK aA HB fZ gA cU cV cW hHeld ⊢
            refine a1E (i:=0) (N:=some 49) (v:=?_) (a':=?_) #[true,false,false,false,false,false,false,false,false,false,false] rfl rfl (a0Z HT_.out (by kernel_rfl)) (fun _ _ _ h =>h) (Or.inl ⟨by rfl,?_⟩) ?_ ?_
            rotate_left
            ·intro w'
             go_simp
             with_reducible rfl
            rotate_left
            ·simp only [Act.put,List.setIfInBounds_toArray,List.set_cons_zero,List.set_cons_succ,a0X,a0Y]
             rfl
            refine a1E (i:=2) (N:=some 51) (v:=?_) (a':=?_) #[true,false,true,false,false,false,false,false,false,false,false] rfl rfl (a0Z HT_.out (by kernel_rfl)) (fun _ _ _ h =>h) (Or.inl ⟨by rfl,?_⟩) ?_ ?_
            rotate_left
            ·intro w'
             go_simp
             with_reducible rfl
            rotate_left
            ·simp only [Act.put,List.setIfInBounds_toArray,List.set_cons_zero,List.set_cons_succ,a0X,a0Y]
             rfl
            refine a1E (i:=7) (N:=some 56) (v:=?_) (a':=?_) #[true,false,true,false,false,false,false,true,false,false,false] rfl rfl (a0Z HT_.out (by kernel_rfl)) (fun _ _ _ h =>h) (Or.inl ⟨by rfl,?_⟩) ?_ ?_
            rotate_left
            ·intro w'
             go_simp
             with_reducible rfl
            rotate_left
            ·simp only [Act.put,List.setIfInBounds_toArray,List.set_cons_zero,List.set_cons_succ,a0X,a0Y]
             rfl
            refine a2M (i:=1) (N:=some 50) (v:=?_) (a':=?_) #[true,true,true,false,false,false,false,true,false,false,false] rfl rfl (a1O HT_.out HW_.out (by kernel_rfl)) (fun _ _ _ h =>h) (Or.inl ⟨by rfl,?_⟩) hHeld ?_ ?_
            rotate_left
            ·rintro w' ⟨s0,s1,s2,s3,s4,s5,s6,s7,s8,s9,s10,s11⟩
             go_simp
             with_reducible rfl
            rotate_left
            ·simp only [Act.put,List.setIfInBounds_toArray,List.set_cons_zero,List.set_cons_succ,a0X,a0Y]
             rfl
            refine a1E (i:=3) (N:=some 52) (v:=?_) (a':=?_) #[true,true,true,true,false,false,false,true,false,false,false] rfl rfl (a0Z HT_.out (by kernel_rfl)) (fun _ _ _ h =>h) (Or.inl ⟨by rfl,?_⟩) ?_ ?_
            rotate_left
            ·intro w'
             go_simp
             with_reducible rfl
            rotate_left
            ·simp only [Act.put,List.setIfInBounds_toArray,List.set_cons_zero,List.set_cons_succ,a0X,a0Y]
             rfl
            refine a1E (i:=4) (N:=some 53) (v:=?_) (a':=?_) #[true,true,true,true,true,false,false,true,false,false,false] rfl rfl (a0Z HT_.out (by kernel_rfl)) (fun _ _ _ h =>h) (Or.inl ⟨by rfl,?_⟩) ?_ ?_
            rotate_left
            ·intro w'
             go_simp
             with_reducible rfl
            rotate_left
            ·simp only [Act.put,List.setIfInBounds_toArray,List.set_cons_zero,List.set_cons_succ,a0X,a0Y]
             rfl
            refine a2M (i:=5) (N:=some 54) (v:=?_) (a':=?_) #[true,true,true,true,true,true,false,true,false,false,false] rfl rfl (a1O HT_.out HW_.out (by kernel_rfl)) (fun _ _ _ h =>h) (Or.inl ⟨by rfl,?_⟩) hHeld ?_ ?_
            rotate_left
            ·rintro w' ⟨s0,s1,s2,s3,s4,s5,s6,s7,s8,s9,s10,s11⟩
             go_simp
             with_reducible rfl
            rotate_left
            ·simp only [Act.put,List.setIfInBounds_toArray,List.set_cons_zero,List.set_cons_succ,a0X,a0Y]
             rfl
            refine a1E (i:=6) (N:=some 55) (v:=?_) (a':=?_) #[true,true,true,true,true,true,true,true,false,false,false] rfl rfl (a0Z HT_.out (by kernel_rfl)) (fun _ _ _ h =>h) (Or.inl ⟨by rfl,?_⟩) ?_ ?_
            rotate_left
            ·intro w'
             go_simp
             with_reducible rfl
            rotate_left
            ·simp only [Act.put,List.setIfInBounds_toArray,List.set_cons_zero,List.set_cons_succ,a0X,a0Y]
             rfl
            refine a2M (i:=8) (N:=some 57) (v:=?_) (a':=?_) #[true,true,true,true,true,true,true,true,true,false,false] rfl rfl (a1O HT_.out HW_.out (by kernel_rfl)) (fun _ _ _ h =>h) (Or.inl ⟨by rfl,?_⟩) hHeld ?_ ?_
            rotate_left
            ·rintro w' ⟨s0,s1,s2,s3,s4,s5,s6,s7,s8,s9,s10,s11⟩
             go_simp
             with_reducible rfl
            rotate_left
            ·simp only [Act.put,List.setIfInBounds_toArray,List.set_cons_zero,List.set_cons_succ,a0X,a0Y]
             rfl
            refine a1E (i:=9) (N:=some 58) (v:=?_) (a':=?_) #[true,true,true,true,true,true,true,true,true,true,false] rfl rfl (a0Z HT_.out (by kernel_rfl)) (fun _ _ _ h =>h) (Or.inl ⟨by rfl,?_⟩) ?_ ?_
            rotate_left
            ·intro w'
             go_simp
             with_reducible rfl
            rotate_left
            ·simp only [Act.put,List.setIfInBounds_toArray,List.set_cons_zero,List.set_cons_succ,a0X,a0Y]
             rfl
            refine a1E (i:=10) (N:=some 59) (v:=?_) (a':=?_) #[true,true,true,true,true,true,true,true,true,true,true] rfl rfl (a0Z HT_.out (by kernel_rfl)) (fun _ _ _ h =>h) (Or.inl ⟨by rfl,?_⟩) ?_ ?_
            rotate_left
            ·intro w'
             go_simp
             with_reducible rfl
            rotate_left
            ·simp only [Act.put,List.setIfInBounds_toArray,List.set_cons_zero,List.set_cons_succ,a0X,a0Y]
             rfl
            refine a6F (a3S HT_.out (by kernel_rfl)) ?_
            try go_wp2
            go_ret
            exact ⟨by first | rfl | (simp [a0T,a0S] <;> rfl) | (simp [*,a0T,a0S] <;> rfl),by repeat (first | (with_reducible first | exact HB.out | apply a0D | apply a0B | apply a0E | refine a0I ?_ cC.out | refine a0I ?_ cG.out) | exact HB.out)⟩
           ·rw [if_neg c38] at H
            have c38b0:((((a0P aC t265).f1).length:Int) == (aQ.length:Int)) = false:=beq_eq_false_iff_ne.mpr c38
            have c38b1:((((a0P aC t265).f1).length:Int) != (aQ.length:Int)) = true:=bne_iff_ne.mpr c38
            have c38b2:(((a0P aC t265).f1).length == aQ.length) = false:=by first | simpa using c38 | (simp at c38 ⊢;omega)
            obtain rfl:=Option.some.inj H
            have hnb44:=bW.out
            have hnc44:=bV.out
            have pD:wr.cell? ⟨aD,0,none⟩ = some (.int .i64 aY):=(a0G aA.out 0).trans rfl
            have pE:wr.cell? ⟨aD,1,none⟩ = some (.string bT):=(a0G aA.out 1).trans rfl
            have pF:wr.cell? ⟨aD,2,none⟩ = some (.string bU):=(a0G aA.out 2).trans rfl
            have pG:wr.cell? ⟨aD,3,none⟩ = some (.string bC):=(a0G aA.out 3).trans rfl
            have pH:wr.cell? ⟨aD,4,none⟩ = some (.slice dL aQ.length cI):=(a0G aA.out 4).trans rfl
            have pI:wr.cell? ⟨aD,5,none⟩ = some (.slice cJ bD.length cK):=(a0G aA.out 5).trans rfl
            have pJ:wr.cell? ⟨aD,6,none⟩ = some (.slice cL bK.length cM):=(a0G aA.out 6).trans rfl
            have pK:wr.cell? ⟨aD,7,none⟩ = some (.slice cN bM.length cO):=(a0G aA.out 7).trans rfl
            have pL:=a0F aA.out 0
            have pM:=a0F aA.out 1
            have pN:=a0F aA.out 2
            have pO:=a0F aA.out 3
            have pP:=a0F aA.out 4
            have pQ:=a0F aA.out 5
            have pR:=a0F aA.out 6
            have pS:=a0F aA.out 7
            have pT:wr.cell? ⟨bY,0,none⟩ = some (.slice bB aC.length aU):=(a0G aK.out 0).trans rfl
            have pU:=a0F aK.out 0
            try go_wp2_with (first | ((with_reducible refine a1H (f:=16) rfl ?_);refine a2G (some 46) rfl rfl Try.func16 (by kernel_rfl) rfl #[.agg #[.slice bB aC.length aU],.string bC] rfl (by (try simp only [List.map_toArray,List.map_cons,List.map_nil]);first | done | rfl | (simp only [List.length_drop,List.length_take];rfl)) ?_;(with_reducible refine (r05_Fun.calls k2 _ _ aC bC t265 _ ?side1 ?side2 A30.out).mono ?_);(case side1 =>repeat (first | exact (Kd.a0N cD.out HB.out) | (with_reducible refine Kd.a0R ?_ _) | (with_reducible refine Kd.a0Q ?_ _) | (with_reducible refine Kd.a1B ?_)));(case side2 =>exact dK.out);rintro e w47 ⟨rfl,hb⟩;refine ⟨_,rfl,?_⟩;have bN:=a0A.mk (a0U (g:=bY) (o:=.cells #[.slice bB aC.length aU] 24 (0,0)) (by (with_reducible repeat (first | refine a0L ?_ _ | refine a0M ?_ | refine a0K ?_ _));exact aK.out) hb);have bO:=a0A.mk (a0U (g:=aD) (o:=.cells #[.int .i64 aY,.string bT,.string bU,.string bC,.slice dL aQ.length cI,.slice cJ bD.length cK,.slice cL bK.length cM,.slice cN bM.length cO] 46 (0,0)) (by (with_reducible repeat (first | refine a0L ?_ _ | refine a0M ?_ | refine a0K ?_ _));exact aA.out) hb);have bP:=a0A.mk (a0H (by repeat (first | (with_reducible first | exact HB.out | apply a0D | apply a0B | apply a0E | refine a0I ?_ cC.out | refine a0I ?_ cG.out) | exact HB.out)) hb);clear aK;clear aA;clear HB;have aK:=bN;have aA:=bO;have HB:=bP;clear bN bO bP;(try clear hb);(try clear hb2);(try clear hk);(try clear hi)))
            have bN:=a0A.mk (a0M aK.out)
            have bO:=a0A.mk (a0M aA.out)
            have bP:=a0A.mk (a0E HB.out)
            clear aK
            clear aA
            clear HB
            have aK:=bN
            have aA:=bO
            have HB:=bP
            clear bN bO bP
            have p266:0≤(t265:Int):=of_decide_eq_true (by first | (with_reducible assumption) | assumption)
            have q266:t265 < (aC.length:Int):=of_decide_eq_true (by first | (with_reducible assumption) | assumption)
            obtain ⟨ad266,gI,gJ,gK,gL,e266,cU,cV,cW,eH,eI,eJ,eK⟩:=a3N cD.out t265 p266 q266
            have fW:=cW
            have fX:=cV
            have fY:=cU
            cases e266
            replace cU:=a0C HB.out cU
            replace cV:=a0C HB.out cV
            replace cW:=a0C HB.out cW
            have fZ:=a0A.mk eI
            have kD:=a0A.mk eH
            clear eI eH
            have gA:=a0A.mk eK
            have kE:=a0A.mk eJ
            clear eK eJ
            replace p266:=eq_true p266
            replace q266:=eq_true q266
            refine a4L (n:=11) (S:=fun w' =>w'.cell? ⟨bY,0,none⟩ = some (.slice (some ad266) aC.length aU)∧w'.cell? ⟨aD,0,none⟩ = some (.int .i64 aY)∧w'.cell? ⟨aD,1,none⟩ = some (.string bT)∧w'.cell? ⟨aD,2,none⟩ = some (.string bU)∧w'.cell? ⟨aD,3,none⟩ = some (.string bC)∧w'.cell? ⟨aD,4,none⟩ = some (.slice dL aQ.length cI)∧w'.cell? ⟨aD,5,none⟩ = some (.slice cJ bD.length cK)∧w'.cell? ⟨aD,6,none⟩ = some (.slice cL bK.length cM)∧w'.cell? ⟨aD,7,none⟩ = some (.slice cN bM.length cO)∧w'.cell? (ad266.add ((t265).toNat * 3)) = some (.string ((a0P aC t265).f0))∧w'.cell? ⟨(ad266.add ((t265).toNat * 3)).block,(ad266.add ((t265).toNat * 3)).off + 1,none⟩ = some (.slice gI ((a0P aC t265).f1).length gJ)∧w'.cell? ⟨(ad266.add ((t265).toNat * 3)).block,(ad266.add ((t265).toNat * 3)).off + 2,none⟩ = some (.slice gK ((a0P aC t265).f2).length gL)) (ds:=[]) #[false,false,false,false,false,false,false,false,false,false,false] (by kernel_rfl) rfl rfl ⟨(a0G aK.out 0).trans rfl,(a0G aA.out 0).trans rfl,(a0G aA.out 1).trans rfl,(a0G aA.out 2).trans rfl,(a0G aA.out 3).trans rfl,(a0G aA.out 4).trans rfl,(a0G aA.out 5).trans rfl,(a0G aA.out 6).trans rfl,(a0G aA.out 7).trans rfl,(a0C HB.out fY),(a0C HB.out fX),(a0C HB.out fW)⟩ (fun hHeld =>?_);refine a2R r05_stmt.tab12 r05_stmt.bits12 (fun HT_ HW_ =>?_)
            generalize w47.drew = w48 at aK aA HB fZ gA cU cV cW hHeld ⊢
            refine a1E (i:=0) (N:=some 49) (v:=?_) (a':=?_) #[true,false,false,false,false,false,false,false,false,false,false] rfl rfl (a0Z HT_.out (by kernel_rfl)) (fun _ _ _ h =>h) (Or.inl ⟨by rfl,?_⟩) ?_ ?_
            rotate_left
            ·intro w'
             go_simp
             with_reducible rfl
            rotate_left
            ·simp only [Act.put,List.setIfInBounds_toArray,List.set_cons_zero,List.set_cons_succ,a0X,a0Y]
             rfl
            refine a1E (i:=2) (N:=some 51) (v:=?_) (a':=?_) #[true,false,true,false,false,false,false,false,false,false,false] rfl rfl (a0Z HT_.out (by kernel_rfl)) (fun _ _ _ h =>h) (Or.inl ⟨by rfl,?_⟩) ?_ ?_
            rotate_left
            ·intro w'
             go_simp
             with_reducible rfl
            rotate_left
            ·simp only [Act.put,List.setIfInBounds_toArray,List.set_cons_zero,List.set_cons_succ,a0X,a0Y]
             rfl
            refine a1E (i:=7) (N:=some 56) (v:=?_) (a':=?_) #[true,false,true,false,false,false,false,true,false,false,false] rfl rfl (a0Z HT_.out (by kernel_rfl)) (fun _ _ _ h =>h) (Or.inl ⟨by rfl,?_⟩) ?_ ?_
            rotate_left
            ·intro w'
             go_simp
             with_reducible rfl
            rotate_left
            ·simp only [Act.put,List.setIfInBounds_toArray,List.set_cons_zero,List.set_cons_succ,a0X,a0Y]
             rfl
            refine a2M (i:=1) (N:=some 50) (v:=?_) (a':=?_) #[true,true,true,false,false,false,false,true,false,false,false] rfl rfl (a1O HT_.out HW_.out (by kernel_rfl)) (fun _ _ _ h =>h) (Or.inl ⟨by rfl,?_⟩) hHeld ?_ ?_
            rotate_left
            ·rintro w' ⟨s0,s1,s2,s3,s4,s5,s6,s7,s8,s9,s10,s11⟩
             go_simp
             with_reducible rfl
            rotate_left
            ·simp only [Act.put,List.setIfInBounds_toArray,List.set_cons_zero,List.set_cons_succ,a0X,a0Y]
             rfl
            refine a1E (i:=3) (N:=some 52) (v:=?_) (a':=?_) #[true,true,true,true,false,false,false,true,false,false,false] rfl rfl (a0Z HT_.out (by kernel_rfl)) (fun _ _ _ h =>h) (Or.inl ⟨by rfl,?_⟩) ?_ ?_
            rotate_left
            ·intro w'
             go_simp
             with_reducible rfl
            rotate_left
            ·simp only [Act.put,List.setIfInBounds_toArray,List.set_cons_zero,List.set_cons_succ,a0X,a0Y]
             rfl
            refine a1E (i:=4) (N:=some 53) (v:=?_) (a':=?_) #[true,true,true,true,true,false,false,true,false,false,false] rfl rfl (a0Z HT_.out (by kernel_rfl)) (fun _ _ _ h =>h) (Or.inl ⟨by rfl,?_⟩) ?_ ?_
            rotate_left
            ·intro w'
             go_simp
             with_reducible rfl
            rotate_left
            ·simp only [Act.put,List.setIfInBounds_toArray,List.set_cons_zero,List.set_cons_succ,a0X,a0Y]
             rfl
            refine a2M (i:=5) (N:=some 54) (v:=?_) (a':=?_) #[true,true,true,true,true,true,false,true,false,false,false] rfl rfl (a1O HT_.out HW_.out (by kernel_rfl)) (fun _ _ _ h =>h) (Or.inl ⟨by rfl,?_⟩) hHeld ?_ ?_
            rotate_left
            ·rintro w' ⟨s0,s1,s2,s3,s4,s5,s6,s7,s8,s9,s10,s11⟩
             go_simp
             with_reducible rfl
            rotate_left
            ·simp only [Act.put,List.setIfInBounds_toArray,List.set_cons_zero,List.set_cons_succ,a0X,a0Y]
             rfl
            refine a1E (i:=6) (N:=some 55) (v:=?_) (a':=?_) #[true,true,true,true,true,true,true,true,false,false,false] rfl rfl (a0Z HT_.out (by kernel_rfl)) (fun _ _ _ h =>h) (Or.inl ⟨by rfl,?_⟩) ?_ ?_
            rotate_left
            ·intro w'
             go_simp
             with_reducible rfl
            rotate_left
            ·simp only [Act.put,List.setIfInBounds_toArray,List.set_cons_zero,List.set_cons_succ,a0X,a0Y]
             rfl
            refine a2M (i:=8) (N:=some 57) (v:=?_) (a':=?_) #[true,true,true,true,true,true,true,true,true,false,false] rfl rfl (a1O HT_.out HW_.out (by kernel_rfl)) (fun _ _ _ h =>h) (Or.inl ⟨by rfl,?_⟩) hHeld ?_ ?_
            rotate_left
            ·rintro w' ⟨s0,s1,s2,s3,s4,s5,s6,s7,s8,s9,s10,s11⟩
             go_simp
             with_reducible rfl
            rotate_left
            ·simp only [Act.put,List.setIfInBounds_toArray,List.set_cons_zero,List.set_cons_succ,a0X,a0Y]
             rfl
            refine a1E (i:=9) (N:=some 58) (v:=?_) (a':=?_) #[true,true,true,true,true,true,true,true,true,true,false] rfl rfl (a0Z HT_.out (by kernel_rfl)) (fun _ _ _ h =>h) (Or.inl ⟨by rfl,?_⟩) ?_ ?_
            rotate_left
            ·intro w'
             go_simp
             with_reducible rfl
            rotate_left
            ·simp only [Act.put,List.setIfInBounds_toArray,List.set_cons_zero,List.set_cons_succ,a0X,a0Y]
             rfl
            refine a1E (i:=10) (N:=some 59) (v:=?_) (a':=?_) #[true,true,true,true,true,true,true,true,true,true,true] rfl rfl (a0Z HT_.out (by kernel_rfl)) (fun _ _ _ h =>h) (Or.inl ⟨by rfl,?_⟩) ?_ ?_
            rotate_left
            ·intro w'
             go_simp
             with_reducible rfl
            rotate_left
            ·simp only [Act.put,List.setIfInBounds_toArray,List.set_cons_zero,List.set_cons_succ,a0X,a0Y]
             rfl
            refine a6F (a3S HT_.out (by kernel_rfl)) ?_
            try go_wp2
            go_ret
            exact ⟨by first | rfl | (simp [a0T,a0S] <;> rfl) | (simp [*,a0T,a0S] <;> rfl),by repeat (first | (with_reducible first | exact HB.out | apply a0D | apply a0B | apply a0E | refine a0I ?_ cC.out | refine a0I ?_ cG.out) | exact HB.out)⟩
          ·rw [if_neg c37] at H
           exact absurd H (by simp)
         ·rw [if_neg c36] at H
          exact absurd H (by simp)
       ·rw [if_neg c29] at H
        have c29b0:(aY == 5) = false:=beq_eq_false_iff_ne.mpr c29
        have c29b1:(aY != 5) = true:=bne_iff_ne.mpr c29
        obtain rfl:=Option.some.inj H
        have hnb49:=bW.out
        have hnc49:=bV.out
        have kF:wr.cell? ⟨aD,0,none⟩ = some (.int .i64 aY):=(a0G aA.out 0).trans rfl
        have kG:wr.cell? ⟨aD,1,none⟩ = some (.string bT):=(a0G aA.out 1).trans rfl
        have pV:wr.cell? ⟨aD,2,none⟩ = some (.string bU):=(a0G aA.out 2).trans rfl
        have pW:wr.cell? ⟨aD,3,none⟩ = some (.string bC):=(a0G aA.out 3).trans rfl
        have pX:wr.cell? ⟨aD,4,none⟩ = some (.slice dL aQ.length cI):=(a0G aA.out 4).trans rfl
        have pY:wr.cell? ⟨aD,5,none⟩ = some (.slice cJ bD.length cK):=(a0G aA.out 5).trans rfl
        have pZ:wr.cell? ⟨aD,6,none⟩ = some (.slice cL bK.length cM):=(a0G aA.out 6).trans rfl
        have qA:wr.cell? ⟨aD,7,none⟩ = some (.slice cN bM.length cO):=(a0G aA.out 7).trans rfl
        have kH:=a0F aA.out 0
        have kI:=a0F aA.out 1
        have qB:=a0F aA.out 2
        have qC:=a0F aA.out 3
        have qD:=a0F aA.out 4
        have qE:=a0F aA.out 5
        have qF:=a0F aA.out 6
        have qG:=a0F aA.out 7
        go_wp2
        go_ret
        exact ⟨by first | rfl | (simp [a0T,a0S] <;> rfl) | (simp [*,a0T,a0S] <;> rfl),by repeat (first | (with_reducible first | exact HB.out | apply a0D | apply a0B | apply a0E | refine a0I ?_ cC.out | refine a0I ?_ cG.out) | exact HB.out)⟩
mutual
def r05_Check.l0:Nat→Int→List (S32)→Option (Int × Int)
 | 0,_,_ =>none
 | k + 1,x3,x268000 =>if x3 < (x268000.length:Int) then (if 0≤x3 then ((r05_Fun.f k x268000 ((a0P x268000 x3).f0)).bind fun t271 =>(if t271 < x3 then (r05_Check.j1 k x3 true x268000 ((a0P x268000 x3).f0) ((a0P x268000 x3).f1) ((a0P x268000 x3).f2)) else ((r05_Twice.f k ((a0P x268000 x3).f1)).bind fun t272 =>(r05_Check.j1 k x3 t272 x268000 ((a0P x268000 x3).f0) ((a0P x268000 x3).f1) ((a0P x268000 x3).f2))))) else (none)) else ((r05_Fun.f k x268000 (⟨#[109,97,105,110]⟩:ByteArray)).bind fun t278 =>(if t278 < 0 then (some (53,(-1))) else (if 0≤t278 then (if t278 < (x268000.length:Int) then (if (((a0P x268000 t278).f1).length:Int) > 0 then (some (53,(-1))) else (some (0,0))) else (none)) else (none))))
def r05_Check.j1:Nat→Int→Bool→List (S32)→ByteArray→List ByteArray→List (S46)→Option (Int × Int)
 | 0,_,_,_,_,_,_ =>none
 | k + 1,x3,x31,x268000,x271000,x271001,x271002 =>if x31 = true then (some (50,wrap64 (10000 * x3))) else ((r04_List.f k x271002).bind fun t273 =>(r05_Check.l1 k x3 t273 0 x268000))
def r05_Check.l1:Nat→Int→List (S46)→Int→List (S32)→Option (Int × Int)
 | 0,_,_,_,_ =>none
 | k + 1,x3,x5,x6,x268000 =>if x6 < (x5.length:Int) then (if 0≤x6 then ((r05_stmt.f k x268000 ((a0J x5 x6).f0) ((a0J x5 x6).f1) ((a0J x5 x6).f2) ((a0J x5 x6).f3) ((a0J x5 x6).f4) ((a0J x5 x6).f5) ((a0J x5 x6).f6) ((a0J x5 x6).f7)).bind fun t277 =>(if t277 = 0 then (r05_Check.l1 k x3 x5 (wrap64 (x6 + 1)) x268000) else (some (t277,wrap64 ((wrap64 ((wrap64 (10000 * x3)) + x6)) + 1))))) else (none)) else (r05_Check.l0 k (wrap64 (x3 + 1)) x268000)
end
def r05_Check.f (k:Nat) (aC:List (S32)):Option (Int × Int):=r05_Check.l0 k 0 aC
theorem r05_Check.a3E:∀ k,(∀ y0 y1,LeO (r05_Check.l0 k y0 y1) (r05_Check.l0 (k + 1) y0 y1))∧(∀ y0 y1 y2 y3 y4 y5,LeO (r05_Check.j1 k y0 y1 y2 y3 y4 y5) (r05_Check.j1 (k + 1) y0 y1 y2 y3 y4 y5))∧(∀ y0 y1 y2 y3,LeO (r05_Check.l1 k y0 y1 y2 y3) (r05_Check.l1 (k + 1) y0 y1 y2 y3))
 | 0 =>⟨fun _ _ r h =>by simp [r05_Check.l0] at h,fun _ _ _ _ _ _ r h =>by simp [r05_Check.j1] at h,fun _ _ _ _ r h =>by simp [r05_Check.l1] at h⟩
 | k + 1 =>by
  obtain ⟨ih0,ih1,ih2⟩:=r05_Check.a3E k
  refine ⟨?_,?_,?_⟩
  ·intro y0 y1
   unfold r05_Check.l0
   repeat' first
   | (with_reducible exact ih0 _ _)
   | (with_reducible exact ih1 _ _ _ _ _ _)
   | (with_reducible exact ih2 _ _ _ _)
   | (with_reducible exact r04_List.mono _ _)
   | (with_reducible exact r05_Fun.mono _ _ _)
   | (with_reducible exact r05_Twice.mono _ _)
   | (with_reducible exact r05_stmt.mono _ _ _ _ _ _ _ _ _ _)
   | (with_reducible exact LeO.refl _)
   | (with_reducible exact LeO.none _)
   | (with_reducible refine LeO.ite ?_ ?_)
   | (with_reducible refine LeO.bind ?_ (fun _ =>?_))
   | exact ih0 _ _
   | exact ih1 _ _ _ _ _ _
   | exact ih2 _ _ _ _
   | exact r04_List.mono _ _
   | exact r05_Fun.mono _ _ _
   | exact r05_Twice.mono _ _
   | exact r05_stmt.mono _ _ _ _ _ _ _ _ _ _
   | exact LeO.none _
   | refine LeO.ite ?_ ?_
   | refine LeO.bind ?_ (fun _ =>?_)
  ·intro y0 y1 y2 y3 y4 y5
   unfold r05_Check.j1
   repeat' first
   | (with_reducible exact ih0 _ _)
   | (with_reducible exact ih1 _ _ _ _ _ _)
   | (with_reducible exact ih2 _ _ _ _)
   | (with_reducible exact r04_List.mono _ _)
   | (with_reducible exact r05_Fun.mono _ _ _)
   | (with_reducible exact r05_Twice.mono _ _)
   | (with_reducible exact r05_stmt.mono _ _ _ _ _ _ _ _ _ _)
   | (with_reducible exact LeO.refl _)
   | (with_reducible exact LeO.none _)
   | (with_reducible refine LeO.ite ?_ ?_)
   | (with_reducible refine LeO.bind ?_ (fun _ =>?_))
   | exact ih0 _ _
   | exact ih1 _ _ _ _ _ _
   | exact ih2 _ _ _ _
   | exact r04_List.mono _ _
   | exact r05_Fun.mono _ _ _
   | exact r05_Twice.mono _ _
   | exact r05_stmt.mono _ _ _ _ _ _ _ _ _ _
   | exact LeO.none _
   | refine LeO.ite ?_ ?_
   | refine LeO.bind ?_ (fun _ =>?_)
  ·intro y0 y1 y2 y3
   unfold r05_Check.l1
   repeat' first
   | (with_reducible exact ih0 _ _)
   | (with_reducible exact ih1 _ _ _ _ _ _)
   | (with_reducible exact ih2 _ _ _ _)
   | (with_reducible exact r04_List.mono _ _)
   | (with_reducible exact r05_Fun.mono _ _ _)
   | (with_reducible exact r05_Twice.mono _ _)
   | (with_reducible exact r05_stmt.mono _ _ _ _ _ _ _ _ _ _)
   | (with_reducible exact LeO.refl _)
   | (with_reducible exact LeO.none _)
   | (with_reducible refine LeO.ite ?_ ?_)
   | (with_reducible refine LeO.bind ?_ (fun _ =>?_))
   | exact ih0 _ _
   | exact ih1 _ _ _ _ _ _
   | exact ih2 _ _ _ _
   | exact r04_List.mono _ _
   | exact r05_Fun.mono _ _ _
   | exact r05_Twice.mono _ _
   | exact r05_stmt.mono _ _ _ _ _ _ _ _ _ _
   | exact LeO.none _
   | refine LeO.ite ?_ ?_
   | refine LeO.bind ?_ (fun _ =>?_)
theorem r05_Check.mono:∀ a0 k,LeO (r05_Check.f k a0) (r05_Check.f (k + 1) a0):=by
 intro a0 k
 obtain ⟨ih0,ih1,ih2⟩:=r05_Check.a3E k
 unfold r05_Check.f
 repeat' first
   | (with_reducible exact ih0 _ _)
   | (with_reducible exact ih1 _ _ _ _ _ _)
   | (with_reducible exact ih2 _ _ _ _)
   | (with_reducible exact r04_List.mono _ _)
   | (with_reducible exact r05_Fun.mono _ _ _)
   | (with_reducible exact r05_Twice.mono _ _)
   | (with_reducible exact r05_stmt.mono _ _ _ _ _ _ _ _ _ _)
   | (with_reducible exact LeO.refl _)
   | (with_reducible exact LeO.none _)
   | (with_reducible refine LeO.ite ?_ ?_)
   | (with_reducible refine LeO.bind ?_ (fun _ =>?_))
   | exact ih0 _ _
   | exact ih1 _ _ _ _ _ _
   | exact ih2 _ _ _ _
   | exact r04_List.mono _ _
   | exact r05_Fun.mono _ _ _
   | exact r05_Twice.mono _ _
   | exact r05_stmt.mono _ _ _ _ _ _ _ _ _ _
   | exact LeO.none _
   | refine LeO.ite ?_ ?_
   | refine LeO.bind ?_ (fun _ =>?_)
set_option maxHeartbeats 8000000 in
set_option maxRecDepth 100000 in
theorem r05_Check.calls (k:Nat) (bB:Option Addr) (aU:Nat) (aC:List (S32)) (r1:Int) (r2:Int) (w:World) (gF:Kd.C k32 w bB aC.length aC) (gG:aC.length≤aU) (h:r05_Check.f k aC = some (r1,r2)) :
    Calls Try.prog 14 #[.agg #[.slice bB aC.length aU]] w fun e w' =>e = .returned (.agg #[.int .i64 r1,.int .i64 r2])∧Below w.heap.size w w':=by
 have hu24:=Try.underlying24
 have hu35:=Try.underlying35
 have hu32:=Try.underlying32
 have hu46:=Try.underlying46
 have cD:=a0A.mk gF
 have dK:=a0A.mk gG
 clear gF gG
 have HB:=a0A.mk (Below.refl w.heap.size w)
 have H:(r05_Check.l0 k 0 aC) = some (r1,r2):=h
 clear h
 have H':=a0A.mk H
 clear H
 go_enter Try.func14,Try.ntmps14
 go_wp2_with (first | ((with_reducible refine a1C (N:=1) rfl ?_);refine a1A ?hg (N:=1) ?hd (cs:=#[.slice bB aC.length aU]) (t:=24) ?hr ?_;(case hd =>rfl);(case hg =>rfl);(case hr =>first | (go_simp;done) | (go_simp;rfl));intro aW hg w2 hbox hb;have bN:=a0A.mk (a0H (by repeat (first | (with_reducible first | exact HB.out | apply a0D | apply a0B | apply a0E) | exact HB.out)) hb);have bO:=a0A.mk (hbox);have bP:=a0A.mk ((by rw [hg];exact (a0V (by repeat (first | (with_reducible first | exact HB.out | apply a0D | apply a0B | apply a0E) | exact HB.out))):w.heap.size≤aW));have eC:=a0A.mk ((by rw [hg];exact (a0V (by repeat (first | (with_reducible first | exact HB.out | apply a0D | apply a0B | apply a0E) | exact HB.out))):w.heap.size≤aW));clear HB;have HB:=bN;have aE:=bO;have GW267:=bP;have bA:=eC;clear bN bO bP eC;clear hb hbox hg) | ((with_reducible refine a1C (N:=2) rfl ?_);refine a1A ?hg (N:=2) ?hd (cs:=#[.int .i64 0,.int .i64 0]) (t:=35) ?hr ?_;(case hd =>rfl);(case hg =>rfl);(case hr =>first | (go_simp;done) | (go_simp;rfl));intro aV hg w3 hbox hb;have bN:=a0A.mk (a0U (g:=aW) (o:=.cells #[.slice bB aC.length aU] 24 (0,0)) (by (with_reducible repeat (first | refine a0L ?_ _ | refine a0M ?_ | refine a0K ?_ _));exact aE.out) hb);have bO:=a0A.mk (a0H (by repeat (first | (with_reducible first | exact HB.out | apply a0D | apply a0B | apply a0E | refine a0I ?_ bA.out) | exact HB.out)) hb);have bP:=a0A.mk (hbox);have eC:=a0A.mk ((by rw [hg];exact (a0V (by repeat (first | (with_reducible first | exact HB.out | apply a0D | apply a0B | apply a0E | refine a0I ?_ bA.out) | exact HB.out))):w.heap.size≤aV));have fH:=a0A.mk ((by rw [hg];exact (a0V (by repeat (first | (with_reducible first | exact HB.out | apply a0D | apply a0B | apply a0E | refine a0I ?_ bA.out) | exact HB.out))):w.heap.size≤aV));have gO:=a0A.mk ((by rw [hg];exact Nat.ne_of_lt (a2B (g:=aW) (o:=.cells #[.slice bB aC.length aU] 24 (0,0)) (by (with_reducible repeat (first | refine a0L ?_ _ | refine a0M ?_ | refine a0K ?_ _));exact aE.out)):aW≠aV));have gP:=a0A.mk ((by rw [hg];exact Nat.ne_of_gt (a2B (g:=aW) (o:=.cells #[.slice bB aC.length aU] 24 (0,0)) (by (with_reducible repeat (first | refine a0L ?_ _ | refine a0M ?_ | refine a0K ?_ _));exact aE.out)):aV≠aW));clear aE;clear HB;have aE:=bN;have HB:=bO;have aG:=bP;have GW268:=eC;have bE:=fH;have bZ:=gO;have cA:=gP;clear bN bO bP eC fH gO gP;clear hb hbox hg))
 go_loopg [3] k (fun kq v3 w' =>∃ (aM:Int) (aN:Int) (aI:Int),v3 = .int .i64 aM∧a0A (r05_Check.l0 kq aM aC = some (r1,r2))∧a0A (kq≤k)∧a0A (w'.heap[aW]? = some (.cells #[(.slice bB aC.length aU)] 24 (0,0)))∧a0A (w'.heap[aV]? = some (.cells #[.int .i64 aN,.int .i64 aI] 35 (0,0)))∧a0A (Below w.heap.size w w'))
 case atStart =>exact ⟨(0),(0),(0),(by first | rfl | (simp;done) | (simp [*];done)),H',⟨Nat.le_refl _⟩,⟨by (with_reducible repeat (first | refine a0L ?_ _ | refine a0M ?_ | refine a0K ?_ _));exact aE.out⟩,⟨by (with_reducible repeat (first | refine a0L ?_ _ | refine a0M ?_ | refine a0K ?_ _));exact aG.out⟩,⟨by repeat (first | (with_reducible first | exact HB.out | apply a0D | apply a0B | apply a0E | refine a0I ?_ bA.out | refine a0I ?_ bE.out) | exact HB.out)⟩⟩
 case round =>
  clear H'
  try clear c1
  try clear p2
  obtain ⟨aM,aN,aI,rfl,HA,HK1,aE,aG,HB⟩:=hrel
  cases gk with
  | zero =>exact absurd HA.out (by simp [r05_Check.l0])
  | succ k1 =>
   have H:=HA.out
   clear HA
   simp only [r05_Check.l0] at H
   by_cases c4:aM < (aC.length:Int)
   ·rw [if_pos c4] at H
    have c4b0:decide (aM < (aC.length:Int)) = true:=decide_eq_true c4
    clear c4
    by_cases c5:0≤aM
    ·rw [if_pos c5] at H
     have c5b0:decide (0≤aM) = true:=decide_eq_true c5
     clear c5
     have HC6:=a0A.mk H
     clear H
     have hnb7:=bZ.out
     have hnc7:=cA.out
     have jY:wr.cell? ⟨aW,0,none⟩ = some (.slice bB aC.length aU):=(a0G aE.out 0).trans rfl
     have jZ:=a0F aE.out 0
     have p269:0≤(aM:Int):=of_decide_eq_true (by first | (with_reducible assumption) | assumption)
     have q269:aM < (aC.length:Int):=of_decide_eq_true (by first | (with_reducible assumption) | assumption)
     obtain ⟨ad269,cE,cF,dH,dI,e269,fE,fF,fG,iH,iI,iJ,iK⟩:=a3N cD.out aM p269 q269
     cases e269
     replace fE:=a0C HB.out fE
     replace fF:=a0C HB.out fF
     replace fG:=a0C HB.out fG
     have kJ:=a0A.mk iI
     have kK:=a0A.mk iH
     clear iI iH
     have kL:=a0A.mk iK
     have kM:=a0A.mk iJ
     clear iK iJ
     replace p269:=eq_true p269
     replace q269:=eq_true q269
     go_upto_region 5 with (first | ((with_reducible refine a1C (N:=4) rfl ?_);refine a1A ?hg (N:=4) ?hd (cs:=#[.string (⟨#[]⟩:ByteArray),.slice none 0 0,.slice none 0 0]) (t:=32) ?hr ?_;(case hd =>rfl);(case hg =>rfl);(case hr =>first | (go_simp;done) | (go_simp;rfl));intro aX hg w9 hbox hb;have bN:=a0A.mk (a0U (g:=aW) (o:=.cells #[.slice (some ad269) aC.length aU] 24 (0,0)) (by (with_reducible repeat (first | refine a0L ?_ _ | refine a0M ?_ | refine a0K ?_ _));exact aE.out) hb);have bO:=a0A.mk (a0U (g:=aV) (o:=.cells #[.int .i64 aN,.int .i64 aI] 35 (0,0)) (by (with_reducible repeat (first | refine a0L ?_ _ | refine a0M ?_ | refine a0K ?_ _));exact aG.out) hb);have bP:=a0A.mk (a0H (by repeat (first | (with_reducible first | exact HB.out | apply a0D | apply a0B | apply a0E | refine a0I ?_ bA.out | refine a0I ?_ bE.out) | exact HB.out)) hb);have eC:=a0A.mk (hbox);have fH:=a0A.mk ((by rw [hg];exact (a0V (by repeat (first | (with_reducible first | exact HB.out | apply a0D | apply a0B | apply a0E | refine a0I ?_ bA.out | refine a0I ?_ bE.out) | exact HB.out))):w.heap.size≤aX));have gO:=a0A.mk ((by rw [hg];exact (a0V (by repeat (first | (with_reducible first | exact HB.out | apply a0D | apply a0B | apply a0E | refine a0I ?_ bA.out | refine a0I ?_ bE.out) | exact HB.out))):w.heap.size≤aX));have gP:=a0A.mk ((by rw [hg];exact Nat.ne_of_lt (a2B (g:=aW) (o:=.cells #[.slice (some ad269) aC.length aU] 24 (0,0)) (by (with_reducible repeat (first | refine a0L ?_ _ | refine a0M ?_ | refine a0K ?_ _));exact aE.out)):aW≠aX));have lR:=a0A.mk ((by rw [hg];exact Nat.ne_of_gt (a2B (g:=aW) (o:=.cells #[.slice (some ad269) aC.length aU] 24 (0,0)) (by (with_reducible repeat (first | refine a0L ?_ _ | refine a0M ?_ | refine a0K ?_ _));exact aE.out)):aX≠aW));have lS:=a0A.mk ((by rw [hg];exact Nat.ne_of_lt (a2B (g:=aV) (o:=.cells #[.int .i64 aN,.int .i64 aI] 35 (0,0)) (by (with_reducible repeat (first | refine a0L ?_ _ | refine a0M ?_ | refine a0K ?_ _));exact aG.out)):aV≠aX));have lT:=a0A.mk ((by rw [hg];exact Nat.ne_of_gt (a2B (g:=aV) (o:=.cells #[.int .i64 aN,.int .i64 aI] 35 (0,0)) (by (with_reducible repeat (first | refine a0L ?_ _ | refine a0M ?_ | refine a0K ?_ _));exact aG.out)):aX≠aV));clear aE;clear aG;clear HB;have aE:=bN;have aG:=bO;have HB:=bP;have aJ:=eC;have GW270:=fH;have cH:=gO;have bJ:=gP;have eD:=lR;have aZ:=lS;have dG:=lT;clear bN bO bP eC fH gO gP lR lS lT;clear hb hbox hg;have hnb10:=eD.out;have hnc10:=bJ.out;have hnb11:=dG.out;have hnc11:=aZ.out;have iL:w9.cell? ⟨aX,0,none⟩ = some (.string (⟨#[]⟩:ByteArray)):=(a0G aJ.out 0).trans rfl;have iM:w9.cell? ⟨aX,1,none⟩ = some (.slice none 0 0):=(a0G aJ.out 1).trans rfl;have iN:w9.cell? ⟨aX,2,none⟩ = some (.slice none 0 0):=(a0G aJ.out 2).trans rfl;have iO:=a0F aJ.out 0;have iP:=a0F aJ.out 1;have iQ:=a0F aJ.out 2))
     (try simp only [Act.put,List.setIfInBounds_toArray,List.set_cons_zero,List.set_cons_succ])
     go_cut [31] (fun v31 wc =>∃ (kq:Nat) (iR:Bool),v31 = .bool iR∧a0A (r05_Check.j1 kq aM iR aC ((a0P aC aM).f0) ((a0P aC aM).f1) ((a0P aC aM).f2) = some (r1,r2))∧a0A (kq≤k1)∧a0A (wc.heap[aW]? = some (.cells #[(.slice (some ad269) aC.length aU)] 24 (0,0)))∧a0A (wc.heap[aV]? = some (.cells #[.int .i64 aN,.int .i64 aI] 35 (0,0)))∧a0A (wc.heap[aX]? = some (.cells #[.string ((a0P aC aM).f0),(.slice cE ((a0P aC aM).f1).length cF),(.slice dH ((a0P aC aM).f2).length dI)] 32 (0,0)))∧a0A (Below w.heap.size w wc))
     case first =>
      have H:=HC6.out
      clear HC6
      replace H:=Option.bind_eq_some_iff.mp H
      obtain ⟨t271,A130,H⟩:=H
      replace H:(if t271 < aM then (r05_Check.j1 k1 aM true aC ((a0P aC aM).f0) ((a0P aC aM).f1) ((a0P aC aM).f2)) else ((r05_Twice.f k1 ((a0P aC aM).f1)).bind fun t272 =>(r05_Check.j1 k1 aM t272 aC ((a0P aC aM).f0) ((a0P aC aM).f1) ((a0P aC aM).f2)))) = some (r1,r2):=H
      have A13:=a0A.mk A130
      clear A130
      by_cases c14:t271 < aM
      ·rw [if_pos c14] at H
       have c14b0:decide (t271 < aM) = true:=decide_eq_true c14
       clear c14
       (first | rw [c14b0] | (simp only [a0X,a0Y];rw [c14b0]) | skip)
       have H':=a0A.mk H
       clear H
       have hnb15:=bZ.out
       have hnc15:=cA.out
       have hnb16:=bJ.out
       have hnc16:=eD.out
       have iS:w9.cell? ⟨aW,0,none⟩ = some (.slice (some ad269) aC.length aU):=(a0G aE.out 0).trans rfl
       have iT:=a0F aE.out 0
       have hnb18:=dG.out
       have hnc18:=aZ.out
       have fQ:w9.cell? ⟨aX,0,none⟩ = some (.string (⟨#[]⟩:ByteArray)):=(a0G aJ.out 0).trans rfl
       have fR:w9.cell? ⟨aX,1,none⟩ = some (.slice none 0 0):=(a0G aJ.out 1).trans rfl
       have fS:w9.cell? ⟨aX,2,none⟩ = some (.slice none 0 0):=(a0G aJ.out 2).trans rfl
       have fT:=a0F aJ.out 0
       have fU:=a0F aJ.out 1
       have fV:=a0F aJ.out 2
       go_wp2_with (first | ((with_reducible refine a1H (f:=16) rfl ?_);refine a2G (some 24) rfl rfl Try.func16 (by kernel_rfl) rfl #[.agg #[.slice (some ad269) aC.length aU],.string ((a0P aC aM).f0)] rfl (by (try simp only [List.map_toArray,List.map_cons,List.map_nil]);first | done | rfl | (simp only [List.length_drop,List.length_take];rfl)) ?_;(with_reducible refine (r05_Fun.calls k1 _ _ aC ((a0P aC aM).f0) t271 _ ?side1 ?side2 A13.out).mono ?_);(case side1 =>exact Kd.a0N cD.out (by repeat (first | (with_reducible first | exact HB.out | apply a0D | apply a0B | apply a0E | refine a0I ?_ bA.out | refine a0I ?_ bE.out | refine a0I ?_ cH.out) | exact HB.out)));(case side2 =>exact dK.out);rintro e w20 ⟨rfl,hb⟩;refine ⟨_,rfl,?_⟩;have bN:=a0A.mk (a0U (g:=aW) (o:=.cells #[.slice (some ad269) aC.length aU] 24 (0,0)) (by (with_reducible repeat (first | refine a0L ?_ _ | refine a0M ?_ | refine a0K ?_ _));refine a4F ?_ bJ.out _;(with_reducible repeat (first | refine a0L ?_ _ | refine a0M ?_ | refine a0K ?_ _));refine a4F ?_ bJ.out _;(with_reducible repeat (first | refine a0L ?_ _ | refine a0M ?_ | refine a0K ?_ _));refine a4F ?_ bJ.out _;(with_reducible repeat (first | refine a0L ?_ _ | refine a0M ?_ | refine a0K ?_ _));exact aE.out) hb);have bO:=a0A.mk (a0U (g:=aV) (o:=.cells #[.int .i64 aN,.int .i64 aI] 35 (0,0)) (by (with_reducible repeat (first | refine a0L ?_ _ | refine a0M ?_ | refine a0K ?_ _));refine a4F ?_ aZ.out _;(with_reducible repeat (first | refine a0L ?_ _ | refine a0M ?_ | refine a0K ?_ _));refine a4F ?_ aZ.out _;(with_reducible repeat (first | refine a0L ?_ _ | refine a0M ?_ | refine a0K ?_ _));refine a4F ?_ aZ.out _;(with_reducible repeat (first | refine a0L ?_ _ | refine a0M ?_ | refine a0K ?_ _));exact aG.out) hb);have bP:=a0A.mk (a0U (g:=aX) (o:=.cells #[.string ((a0P aC aM).f0),.slice cE ((a0P aC aM).f1).length cF,.slice dH ((a0P aC aM).f2).length dI] 32 (0,0)) (by (with_reducible repeat (first | refine a0L ?_ _ | refine a0M ?_ | refine a0K ?_ _));refine a2N (cs:=#[.string ((a0P aC aM).f0),.slice cE ((a0P aC aM).f1).length cF,.slice none 0 0]) ?_ 2 _ rfl;(with_reducible repeat (first | refine a0L ?_ _ | refine a0M ?_ | refine a0K ?_ _));refine a2N (cs:=#[.string ((a0P aC aM).f0),.slice none 0 0,.slice none 0 0]) ?_ 1 _ rfl;(with_reducible repeat (first | refine a0L ?_ _ | refine a0M ?_ | refine a0K ?_ _));refine a2N (cs:=#[.string (⟨#[]⟩:ByteArray),.slice none 0 0,.slice none 0 0]) ?_ 0 _ rfl;(with_reducible repeat (first | refine a0L ?_ _ | refine a0M ?_ | refine a0K ?_ _));exact aJ.out) hb);have eC:=a0A.mk (a0H (by repeat (first | (with_reducible first | exact HB.out | apply a0D | apply a0B | apply a0E | refine a0I ?_ bA.out | refine a0I ?_ bE.out | refine a0I ?_ cH.out) | exact HB.out)) hb);clear aE;clear aG;clear aJ;clear HB;have aE:=bN;have aG:=bO;have aJ:=bP;have HB:=eC;clear bN bO bP eC;(try clear hb);(try clear hb2);(try clear hk);(try clear hi)))
       go_meet
       case rel =>exact ⟨_,(true),(by first | rfl | (simp;done) | (simp [*];done)),H',⟨by have:=HK1.out;first | omega | exact Nat.le_refl _⟩,⟨by (with_reducible repeat (first | refine a0L ?_ _ | refine a0M ?_ | refine a0K ?_ _));exact aE.out⟩,⟨by (with_reducible repeat (first | refine a0L ?_ _ | refine a0M ?_ | refine a0K ?_ _));exact aG.out⟩,⟨by (with_reducible repeat (first | refine a0L ?_ _ | refine a0M ?_ | refine a0K ?_ _));exact aJ.out⟩,⟨by repeat (first | (with_reducible first | exact HB.out | apply a0D | apply a0B | apply a0E | refine a0I ?_ bA.out | refine a0I ?_ bE.out | refine a0I ?_ cH.out) | exact HB.out)⟩⟩
      ·rw [if_neg c14] at H
       have c14b0:decide (t271 < aM) = false:=decide_eq_false c14
       clear c14
       (first | rw [c14b0] | (simp only [a0X,a0Y];rw [c14b0]) | skip)
       replace H:=Option.bind_eq_some_iff.mp H
       obtain ⟨t272,A210,H⟩:=H
       replace H:(r05_Check.j1 k1 aM t272 aC ((a0P aC aM).f0) ((a0P aC aM).f1) ((a0P aC aM).f2)) = some (r1,r2):=H
       have A21:=a0A.mk A210
       clear A210
       have H':=a0A.mk H
       clear H
       have hnb22:=bZ.out
       have hnc22:=cA.out
       have hnb23:=bJ.out
       have hnc23:=eD.out
       have iU:w9.cell? ⟨aW,0,none⟩ = some (.slice (some ad269) aC.length aU):=(a0G aE.out 0).trans rfl
       have iV:=a0F aE.out 0
       have hnb25:=dG.out
       have hnc25:=aZ.out
       have iW:w9.cell? ⟨aX,0,none⟩ = some (.string (⟨#[]⟩:ByteArray)):=(a0G aJ.out 0).trans rfl
       have iX:w9.cell? ⟨aX,1,none⟩ = some (.slice none 0 0):=(a0G aJ.out 1).trans rfl
       have iY:w9.cell? ⟨aX,2,none⟩ = some (.slice none 0 0):=(a0G aJ.out 2).trans rfl
       have iZ:=a0F aJ.out 0
       have jA:=a0F aJ.out 1
       have jB:=a0F aJ.out 2
       go_wp2_with (first | ((with_reducible refine a1H (f:=16) rfl ?_);refine a2G (some 24) rfl rfl Try.func16 (by kernel_rfl) rfl #[.agg #[.slice (some ad269) aC.length aU],.string ((a0P aC aM).f0)] rfl (by (try simp only [List.map_toArray,List.map_cons,List.map_nil]);first | done | rfl | (simp only [List.length_drop,List.length_take];rfl)) ?_;(with_reducible refine (r05_Fun.calls k1 _ _ aC ((a0P aC aM).f0) t271 _ ?side1 ?side2 A13.out).mono ?_);(case side1 =>exact Kd.a0N cD.out (by repeat (first | (with_reducible first | exact HB.out | apply a0D | apply a0B | apply a0E | refine a0I ?_ bA.out | refine a0I ?_ bE.out | refine a0I ?_ cH.out) | exact HB.out)));(case side2 =>exact dK.out);rintro e w27 ⟨rfl,hb⟩;refine ⟨_,rfl,?_⟩;have bN:=a0A.mk (a0U (g:=aW) (o:=.cells #[.slice (some ad269) aC.length aU] 24 (0,0)) (by (with_reducible repeat (first | refine a0L ?_ _ | refine a0M ?_ | refine a0K ?_ _));refine a4F ?_ bJ.out _;(with_reducible repeat (first | refine a0L ?_ _ | refine a0M ?_ | refine a0K ?_ _));refine a4F ?_ bJ.out _;(with_reducible repeat (first | refine a0L ?_ _ | refine a0M ?_ | refine a0K ?_ _));refine a4F ?_ bJ.out _;(with_reducible repeat (first | refine a0L ?_ _ | refine a0M ?_ | refine a0K ?_ _));exact aE.out) hb);have bO:=a0A.mk (a0U (g:=aV) (o:=.cells #[.int .i64 aN,.int .i64 aI] 35 (0,0)) (by (with_reducible repeat (first | refine a0L ?_ _ | refine a0M ?_ | refine a0K ?_ _));refine a4F ?_ aZ.out _;(with_reducible repeat (first | refine a0L ?_ _ | refine a0M ?_ | refine a0K ?_ _));refine a4F ?_ aZ.out _;(with_reducible repeat (first | refine a0L ?_ _ | refine a0M ?_ | refine a0K ?_ _));refine a4F ?_ aZ.out _;(with_reducible repeat (first | refine a0L ?_ _ | refine a0M ?_ | refine a0K ?_ _));exact aG.out) hb);have bP:=a0A.mk (a0U (g:=aX) (o:=.cells #[.string ((a0P aC aM).f0),.slice cE ((a0P aC aM).f1).length cF,.slice dH ((a0P aC aM).f2).length dI] 32 (0,0)) (by (with_reducible repeat (first | refine a0L ?_ _ | refine a0M ?_ | refine a0K ?_ _));refine a2N (cs:=#[.string ((a0P aC aM).f0),.slice cE ((a0P aC aM).f1).length cF,.slice none 0 0]) ?_ 2 _ rfl;(with_reducible repeat (first | refine a0L ?_ _ | refine a0M ?_ | refine a0K ?_ _));refine a2N (cs:=#[.string ((a0P aC aM).f0),.slice none 0 0,.slice none 0 0]) ?_ 1 _ rfl;(with_reducible repeat (first | refine a0L ?_ _ | refine a0M ?_ | refine a0K ?_ _));refine a2N (cs:=#[.string (⟨#[]⟩:ByteArray),.slice none 0 0,.slice none 0 0]) ?_ 0 _ rfl;(with_reducible repeat (first | refine a0L ?_ _ | refine a0M ?_ | refine a0K ?_ _));exact aJ.out) hb);have eC:=a0A.mk (a0H (by repeat (first | (with_reducible first | exact HB.out | apply a0D | apply a0B | apply a0E | refine a0I ?_ bA.out | refine a0I ?_ bE.out | refine a0I ?_ cH.out) | exact HB.out)) hb);clear aE;clear aG;clear aJ;clear HB;have aE:=bN;have aG:=bO;have aJ:=bP;have HB:=eC;clear bN bO bP eC;(try clear hb);(try clear hb2);(try clear hk);(try clear hi);have jC:w27.cell? ⟨aX,0,none⟩ = some (.string ((a0P aC aM).f0)):=(a0G aJ.out 0).trans rfl;have jD:w27.cell? ⟨aX,1,none⟩ = some (.slice cE ((a0P aC aM).f1).length cF):=(a0G aJ.out 1).trans rfl;have jE:w27.cell? ⟨aX,2,none⟩ = some (.slice dH ((a0P aC aM).f2).length dI):=(a0G aJ.out 2).trans rfl;have jF:=a0F aJ.out 0;have jG:=a0F aJ.out 1;have jH:=a0F aJ.out 2) | (go_at_call 31;(with_reducible refine (r05_Twice.calls k1 _ _ ((a0P aC aM).f1) t272 _ ?side1 ?side2 A21.out).mono ?_);(case side1 =>repeat (first | exact (Kd.a0N kJ.out HB.out) | (with_reducible refine Kd.a0R ?_ _) | (with_reducible refine Kd.a0Q ?_ _) | (with_reducible refine Kd.a1B ?_)));(case side2 =>exact kK.out);rintro e w' ⟨rfl,⟨nd,rfl⟩⟩))
       go_meet
       case rel =>exact ⟨_,(t272),(by first | rfl | (simp;done) | (simp [*];done)),H',⟨by have:=HK1.out;first | omega | exact Nat.le_refl _⟩,⟨by (with_reducible repeat (first | refine a0L ?_ _ | refine a0M ?_ | refine a0K ?_ _));exact aE.out⟩,⟨by (with_reducible repeat (first | refine a0L ?_ _ | refine a0M ?_ | refine a0K ?_ _));exact aG.out⟩,⟨by (with_reducible repeat (first | refine a0L ?_ _ | refine a0M ?_ | refine a0K ?_ _));exact aJ.out⟩,⟨by repeat (first | (with_reducible first | exact HB.out | apply a0D | apply a0B | apply a0E | refine a0I ?_ bA.out | refine a0I ?_ bE.out | refine a0I ?_ cH.out) | exact HB.out)⟩⟩
     case rest =>
      clear HC6
      try clear c1
      try clear c2
      try clear p2
      try clear q2
      try clear hx2
      try clear c4
      try clear c4b0
      try clear c5
      try clear c5b0
      try clear c7
      try clear c10
      try clear c11
      try clear c14
      try clear c14b0
      try clear c15
      try clear c16
      try clear c18
      try clear c22
      try clear c23
      try clear c25
      try clear c26
      try clear p26
      try clear q26
      try clear hx26
      try clear iL
      try clear iM
      try clear iN
      try clear iS
      try clear fQ
      try clear fR
      try clear fS
      try clear iU
      try clear iW
      try clear iX
      try clear iY
      try clear jC
      try clear jD
      try clear jE
      try clear jY
      try clear iO
      try clear iP
      try clear iQ
      try clear iT
      try clear fT
      try clear fU
      try clear fV
      try clear iV
      try clear iZ
      try clear jA
      try clear jB
      try clear jF
      try clear jG
      try clear jH
      try clear jZ
      try clear fE
      try clear fF
      try clear fG
      try clear p2
      try clear p269
      try clear q269
      obtain ⟨kq,iR,rfl,HA,HJ5,aE,aG,aJ,HB⟩:=hcut
      cases kq with
      | zero =>exact absurd HA.out (by simp [r05_Check.j1])
      | succ kj5 =>
       have H:=HA.out
       clear HA
       simp only [r05_Check.j1] at H
       by_cases c29:iR = true
       ·subst c29
        have H1:(some (50,wrap64 (10000 * aM))) = some (r1,r2):=by rw [if_pos rfl] at H;exact H
        clear H
        have H:=H1
        clear H1
        simp only [Option.some.injEq,Prod.mk.injEq] at H
        obtain ⟨rfl,rfl⟩:=H
        have hnb30:=cA.out
        have hnc30:=bZ.out
        have hnb31:=aZ.out
        have hnc31:=dG.out
        have kN:wc.cell? ⟨aV,0,none⟩ = some (.int .i64 aN):=(a0G aG.out 0).trans rfl
        have kO:wc.cell? ⟨aV,1,none⟩ = some (.int .i64 aI):=(a0G aG.out 1).trans rfl
        have kP:=a0F aG.out 0
        have kQ:=a0F aG.out 1
        go_wp2
        refine bodyPost_ret (results_cell_row rfl _ _ aV 35 #[.int .i64 50,.int .i64 (wrap64 (10000 * aM))] (0,0) _ rfl (by (with_reducible repeat (first | refine a0L ?_ _ | refine a0M ?_ | refine a0K ?_ _));refine a2N (cs:=#[.int .i64 50,.int .i64 aI]) ?_ 1 _ rfl;(with_reducible repeat (first | refine a0L ?_ _ | refine a0M ?_ | refine a0K ?_ _));refine a2N (cs:=#[.int .i64 aN,.int .i64 aI]) ?_ 0 _ rfl;(with_reducible repeat (first | refine a0L ?_ _ | refine a0M ?_ | refine a0K ?_ _));exact aG.out) Try.underlying35 rfl (by kernel_rfl)) rfl ?_
        exact ⟨by first | rfl | (simp [a0T,a0S] <;> rfl) | (simp [*,a0T,a0S] <;> rfl),by repeat (first | (with_reducible first | exact HB.out | apply a0D | apply a0B | apply a0E | refine a0I ?_ bA.out | refine a0I ?_ bE.out | refine a0I ?_ cH.out) | exact HB.out)⟩
       ·replace c29:=Bool.eq_false_iff.mpr c29
        subst c29
        have H1:((r04_List.f kj5 ((a0P aC aM).f2)).bind fun t273 =>(r05_Check.l1 kj5 aM t273 0 aC)) = some (r1,r2):=by rw [if_neg (show ¬ (false = true) by decide)] at H;exact H
        clear H
        have H:=H1
        clear H1
        replace H:=Option.bind_eq_some_iff.mp H
        obtain ⟨t273,A330,H⟩:=H
        replace H:(r05_Check.l1 kj5 aM t273 0 aC) = some (r1,r2):=H
        have A33:=a0A.mk A330
        clear A330
        have H':=a0A.mk H
        clear H
        have hnb34:=eD.out
        have hnc34:=bJ.out
        have hnb35:=dG.out
        have hnc35:=aZ.out
        have kR:wc.cell? ⟨aX,0,none⟩ = some (.string ((a0P aC aM).f0)):=(a0G aJ.out 0).trans rfl
        have kS:wc.cell? ⟨aX,1,none⟩ = some (.slice cE ((a0P aC aM).f1).length cF):=(a0G aJ.out 1).trans rfl
        have kT:wc.cell? ⟨aX,2,none⟩ = some (.slice dH ((a0P aC aM).f2).length dI):=(a0G aJ.out 2).trans rfl
        have kU:=a0F aJ.out 0
        have kV:=a0F aJ.out 1
        have kW:=a0F aJ.out 2
        go_wp2_with (first | ((with_reducible refine a1H (f:=28) rfl ?_);refine a2G (some 37) rfl rfl Try.func28 (by kernel_rfl) rfl #[.slice dH ((a0P aC aM).f2).length dI] rfl (by (try simp only [List.map_toArray,List.map_cons,List.map_nil]);first | done | rfl | (simp only [List.length_drop,List.length_take];rfl)) ?_;(with_reducible refine (r04_List.calls kj5 (fun k_ =>k_ < w.heap.size) _ _ ((a0P aC aM).f2) t273 _ ?side1 A33.out).mono ?_);(case side1 =>exact Kd.V_mk kM.out (Kd.a1W (Kd.C_F a6M kL.out) (by repeat (first | (with_reducible first | exact HB.out | apply a0D | apply a0B | apply a0E | refine a0I ?_ bA.out | refine a0I ?_ bE.out | refine a0I ?_ cH.out) | exact HB.out))));rintro e w37 ⟨v274,rfl,ho0,hb⟩;refine ⟨_,rfl,?_⟩;have bN:=a0A.mk (Kd.a7P (Kd.a3P (ok':=fun k_ =>k_≠aW∧k_≠aV∧k_≠aX) ho0 (fun k_ hk_ =>⟨Or.elim hk_ (fun hs_ =>fun e_ =>Nat.not_le.2 hs_ (by rw [e_];exact GW267.out)) (fun hn_ =>(Kd.freshB (g:=aW) (o:=.cells #[.slice (some ad269) aC.length aU] 24 (0,0)) (by (with_reducible repeat (first | refine a0L ?_ _ | refine a0M ?_ | refine a0K ?_ _));exact aE.out) k_ hn_)),Or.elim hk_ (fun hs_ =>fun e_ =>Nat.not_le.2 hs_ (by rw [e_];exact GW268.out)) (fun hn_ =>(Kd.freshB (g:=aV) (o:=.cells #[.int .i64 aN,.int .i64 aI] 35 (0,0)) (by (with_reducible repeat (first | refine a0L ?_ _ | refine a0M ?_ | refine a0K ?_ _));exact aG.out) k_ hn_)),Or.elim hk_ (fun hs_ =>fun e_ =>Nat.not_le.2 hs_ (by rw [e_];exact GW270.out)) (fun hn_ =>(Kd.freshB (g:=aX) (o:=.cells #[.string ((a0P aC aM).f0),.slice cE ((a0P aC aM).f1).length cF,.slice dH ((a0P aC aM).f2).length dI] 32 (0,0)) (by (with_reducible repeat (first | refine a0L ?_ _ | refine a0M ?_ | refine a0K ?_ _));exact aJ.out) k_ hn_))⟩)) (a0V (by repeat (first | (with_reducible first | exact HB.out | apply a0D | apply a0B | apply a0E | refine a0I ?_ bA.out | refine a0I ?_ bE.out | refine a0I ?_ cH.out) | exact HB.out))));have bO:=a0A.mk (a0U (g:=aW) (o:=.cells #[.slice (some ad269) aC.length aU] 24 (0,0)) (by (with_reducible repeat (first | refine a0L ?_ _ | refine a0M ?_ | refine a0K ?_ _));exact aE.out) hb);have bP:=a0A.mk (a0U (g:=aV) (o:=.cells #[.int .i64 aN,.int .i64 aI] 35 (0,0)) (by (with_reducible repeat (first | refine a0L ?_ _ | refine a0M ?_ | refine a0K ?_ _));exact aG.out) hb);have eC:=a0A.mk (a0U (g:=aX) (o:=.cells #[.string ((a0P aC aM).f0),.slice cE ((a0P aC aM).f1).length cF,.slice dH ((a0P aC aM).f2).length dI] 32 (0,0)) (by (with_reducible repeat (first | refine a0L ?_ _ | refine a0M ?_ | refine a0K ?_ _));exact aJ.out) hb);have fH:=a0A.mk (a0H (by repeat (first | (with_reducible first | exact HB.out | apply a0D | apply a0B | apply a0E | refine a0I ?_ bA.out | refine a0I ?_ bE.out | refine a0I ?_ cH.out) | exact HB.out)) hb);clear aE;clear aG;clear aJ;clear HB;have HO275:=bN;have aE:=bO;have aG:=bP;have aJ:=eC;have HB:=fH;clear bN bO bP eC fH;(try clear hb);(try clear hb2);(try clear hk);(try clear hi);(try clear ho0)))
        go_loopg [6] kj5 (fun kq v6 w' =>∃ (aH:Int) (cB:Int) (bX:Int),v6 = .int .i64 aH∧a0A (r05_Check.l1 kq aM t273 aH aC = some (r1,r2))∧a0A (kq≤kj5)∧a0A (Kd.N k46 46 w' w.heap.size (fun k_ =>k_≠aW∧k_≠aV∧k_≠aX) v274 t273)∧a0A (w'.heap[aW]? = some (.cells #[(.slice (some ad269) aC.length aU)] 24 (0,0)))∧a0A (w'.heap[aV]? = some (.cells #[.int .i64 cB,.int .i64 bX] 35 (0,0)))∧a0A (w'.heap[aX]? = some (.cells #[.string ((a0P aC aM).f0),(.slice cE ((a0P aC aM).f1).length cF),(.slice dH ((a0P aC aM).f2).length dI)] 32 (0,0)))∧a0A (Below w.heap.size w w'))
        case atStart =>exact ⟨(0),(aN),(aI),(by first | rfl | (simp;done) | (simp [*];done)),H',⟨Nat.le_refl _⟩,⟨by (with_reducible repeat (first | apply Kd.a2A | apply Kd.a1Z | apply Kd.a2I));exact HO275.out⟩,⟨by (with_reducible repeat (first | refine a0L ?_ _ | refine a0M ?_ | refine a0K ?_ _));exact aE.out⟩,⟨by (with_reducible repeat (first | refine a0L ?_ _ | refine a0M ?_ | refine a0K ?_ _));exact aG.out⟩,⟨by (with_reducible repeat (first | refine a0L ?_ _ | refine a0M ?_ | refine a0K ?_ _));exact aJ.out⟩,⟨by repeat (first | (with_reducible first | exact HB.out | apply a0D | apply a0B | apply a0E | refine a0I ?_ bA.out | refine a0I ?_ bE.out | refine a0I ?_ cH.out) | exact HB.out)⟩⟩
        case round =>
         clear H'
         try clear c1
         try clear c2
         try clear p2
         try clear q2
         try clear hx2
         try clear c3
         try clear c4
         try clear c4b0
         try clear c5
         try clear c5b0
         try clear p6
         try clear c7
         try clear c10
         try clear c11
         try clear c14
         try clear c14b0
         try clear c15
         try clear c16
         try clear c18
         try clear c22
         try clear c23
         try clear c25
         try clear c26
         try clear p26
         try clear q26
         try clear hx26
         try clear c28
         try clear c29
         try clear c30
         try clear c31
         try clear c34
         try clear c35
         try clear iL
         try clear iM
         try clear iN
         try clear iS
         try clear fQ
         try clear fR
         try clear fS
         try clear iU
         try clear iW
         try clear iX
         try clear iY
         try clear jC
         try clear jD
         try clear jE
         try clear kN
         try clear kO
         try clear kR
         try clear kS
         try clear kT
         try clear jY
         try clear iO
         try clear iP
         try clear iQ
         try clear iT
         try clear fT
         try clear fU
         try clear fV
         try clear iV
         try clear iZ
         try clear jA
         try clear jB
         try clear jF
         try clear jG
         try clear jH
         try clear kP
         try clear kQ
         try clear kU
         try clear kV
         try clear kW
         try clear jZ
         try clear fE
         try clear fF
         try clear fG
         try clear p2
         try clear p26
         try clear p269
         try clear q2
         try clear q26
         try clear q269
         obtain ⟨aH,cB,bX,rfl,HA,HK3,cX,aE,aG,aJ,HB⟩:=hrel
         cases gk with
         | zero =>exact absurd HA.out (by simp [r05_Check.l1])
         | succ k3 =>
          have H:=HA.out
          clear HA
          simp only [r05_Check.l1] at H
          by_cases c38:aH < (t273.length:Int)
          ·rw [if_pos c38] at H
           have c38b0:decide (aH < (t273.length:Int)) = true:=decide_eq_true c38
           clear c38
           by_cases c39:0≤aH
           ·rw [if_pos c39] at H
            have c39b0:decide (0≤aH) = true:=decide_eq_true c39
            clear c39
            replace H:=Option.bind_eq_some_iff.mp H
            obtain ⟨t277,A400,H⟩:=H
            replace H:(if t277 = 0 then (r05_Check.l1 k3 aM t273 (wrap64 (aH + 1)) aC) else (some (t277,wrap64 ((wrap64 ((wrap64 (10000 * aM)) + aH)) + 1)))) = some (r1,r2):=H
            have A40:=a0A.mk A400
            clear A400
            by_cases c41:t277 = 0
            ·rw [if_pos c41] at H
             have c41b0:(t277 == 0) = true:=beq_iff_eq.mpr c41
             have c41b1:(t277 != 0) = false:=bne_eq_false_iff_eq.mpr c41
             clear c41
             have H':=a0A.mk H
             clear H
             obtain ⟨Ao42,co42,eo42⟩:=Kd.a5B cX.out
             subst eo42
             try go_wp2
             have bN:=a0A.mk (Kd.a2I cX.out)
             have bO:=a0A.mk (a0M aE.out)
             have bP:=a0A.mk (a0M aG.out)
             have eC:=a0A.mk (a0M aJ.out)
             have fH:=a0A.mk (a0E HB.out)
             clear cX
             clear aE
             clear aG
             clear aJ
             clear HB
             have cX:=bN
             have aE:=bO
             have aG:=bP
             have aJ:=eC
             have HB:=fH
             clear bN bO bP eC fH
             have p276:0≤(aH:Int):=of_decide_eq_true (by first | (with_reducible assumption) | assumption)
             have q276:aH < (t273.length:Int):=of_decide_eq_true (by first | (with_reducible assumption) | assumption)
             obtain ⟨ad276,fI,fJ,fK,fL,fM,fN,fO,fP,e276,eL,eM,eN,eO,dP,dQ,dR,dS,eP,eQ,eR,eS,eT,eU,eV,eW⟩:=a3C (Kd.a1V cX.out).2.2 aH p276 q276
             cases e276
             obtain ⟨ce276,gM,gN,dJ⟩:=Kd.a6I cX.out z46 aH p276 (by first | exact q276 | exact of_decide_eq_true (by first | (with_reducible assumption) | assumption) | (have e_:=(Kd.a1V cX.out).1;omega))
             obtain ⟨kX,kY,kZ,lA,lB,lC,lD,lE,rfl,dT,dU,dV,dW,dX,dY,dZ,eB⟩:=a2H gN
             have cY:=dJ 4 _ rfl
             rw [a0W _ _ 4 (by omega)] at cY
             replace cY:=Option.some.inj (cY.symm.trans dP)
             injection cY with hva_ hvn_ hvc_
             rw [hva_] at dU
             rw [hvc_] at dT
             have cZ:=a0A.mk (show Kd.V k56 56 _ w.heap.size _ _ ((a0J t273 aH).f4) from Kd.V_mk dT dU)
             clear hva_ hvn_ hvc_ dU dT
             have dA:=dJ 5 _ rfl
             rw [a0W _ _ 5 (by omega)] at dA
             replace dA:=Option.some.inj (dA.symm.trans dQ)
             injection dA with hva_ hvn_ hvc_
             rw [hva_] at dW
             rw [hvc_] at dV
             have dB:=a0A.mk (show Kd.V Kd.string 9 _ w.heap.size _ _ ((a0J t273 aH).f5) from Kd.V_mk dV dW)
             clear hva_ hvn_ hvc_ dW dV
             have dC:=dJ 6 _ rfl
             rw [a0W _ _ 6 (by omega)] at dC
             replace dC:=Option.some.inj (dC.symm.trans dR)
             injection dC with hva_ hvn_ hvc_
             rw [hva_] at dY
             rw [hvc_] at dX
             have dD:=a0A.mk (show Kd.V k46 46 _ w.heap.size _ _ ((a0J t273 aH).f6) from Kd.V_mk dX dY)
             clear hva_ hvn_ hvc_ dY dX
             have dE:=dJ 7 _ rfl
             rw [a0W _ _ 7 (by omega)] at dE
             replace dE:=Option.some.inj (dE.symm.trans dS)
             injection dE with hva_ hvn_ hvc_
             rw [hva_] at eB
             rw [hvc_] at dZ
             have dF:=a0A.mk (show Kd.V k46 46 _ w.heap.size _ _ ((a0J t273 aH).f7) from Kd.V_mk dZ eB)
             clear hva_ hvn_ hvc_ eB dZ
             clear dJ gM
             have bF:=a0A.mk eQ
             have gB:=a0A.mk eP
             clear eQ eP
             have bG:=a0A.mk eS
             have gC:=a0A.mk eR
             clear eS eR
             have bH:=a0A.mk eU
             have gD:=a0A.mk eT
             clear eU eT
             have bI:=a0A.mk eW
             have gE:=a0A.mk eV
             clear eW eV
             replace p276:=eq_true p276
             replace q276:=eq_true q276
             refine a4L (n:=7) (S:=fun w' =>w'.cell? ⟨aW,0,none⟩ = some (.slice (some ad269) aC.length aU)∧w'.cell? (ad276.add ((aH).toNat * 8)) = some (.int .i64 ((a0J t273 aH).f0))∧w'.cell? ⟨(ad276.add ((aH).toNat * 8)).block,(ad276.add ((aH).toNat * 8)).off + 1,none⟩ = some (.string ((a0J t273 aH).f1))∧w'.cell? ⟨(ad276.add ((aH).toNat * 8)).block,(ad276.add ((aH).toNat * 8)).off + 2,none⟩ = some (.string ((a0J t273 aH).f2))∧w'.cell? ⟨(ad276.add ((aH).toNat * 8)).block,(ad276.add ((aH).toNat * 8)).off + 3,none⟩ = some (.string ((a0J t273 aH).f3))∧w'.cell? ⟨(ad276.add ((aH).toNat * 8)).block,(ad276.add ((aH).toNat * 8)).off + 4,none⟩ = some (.slice fI ((a0J t273 aH).f4).length fJ)∧w'.cell? ⟨(ad276.add ((aH).toNat * 8)).block,(ad276.add ((aH).toNat * 8)).off + 5,none⟩ = some (.slice fK ((a0J t273 aH).f5).length fL)∧w'.cell? ⟨(ad276.add ((aH).toNat * 8)).block,(ad276.add ((aH).toNat * 8)).off + 6,none⟩ = some (.slice fM ((a0J t273 aH).f6).length fN)∧w'.cell? ⟨(ad276.add ((aH).toNat * 8)).block,(ad276.add ((aH).toNat * 8)).off + 7,none⟩ = some (.slice fO ((a0J t273 aH).f7).length fP)) (ds:=[]) #[false,false,false,false,false,false,false] (by kernel_rfl) rfl rfl ⟨(a0G aE.out 0).trans rfl,eL,eM,eN,eO,dP,dQ,dR,dS⟩ (fun hHeld =>?_)
             generalize wr.drew = w43 at cX aE aG aJ HB cZ dB dD dF bF bG bH bI eL eM eN eO dP dQ dR dS hHeld ⊢
             refine a1E (i:=1) (N:=some 45) (v:=?_) (a':=?_) #[false,true,false,false,false,false,false] rfl rfl (by kernel_rfl) (fun _ _ _ h =>h) (Or.inl ⟨by rfl,?_⟩) ?_ ?_
             rotate_left
             ·intro w'
              go_simp
              with_reducible rfl
             rotate_left
             ·simp only [Act.put,List.setIfInBounds_toArray,List.set_cons_zero,List.set_cons_succ,a0X,a0Y]
              rfl
             refine a1E (i:=2) (N:=some 46) (v:=?_) (a':=?_) #[false,true,true,false,false,false,false] rfl rfl (by kernel_rfl) (fun _ _ _ h =>h) (Or.inl ⟨by rfl,?_⟩) ?_ ?_
             rotate_left
             ·intro w'
              go_simp
              with_reducible rfl
             rotate_left
             ·simp only [Act.put,List.setIfInBounds_toArray,List.set_cons_zero,List.set_cons_succ,a0X,a0Y]
              rfl
             refine a1E (i:=3) (N:=some 47) (v:=?_) (a':=?_) #[false,true,true,true,false,false,false] rfl rfl (by kernel_rfl) (fun _ _ _ h =>h) (Or.inl ⟨by rfl,?_⟩) ?_ ?_
             rotate_left
             ·intro w'
              go_simp
              with_reducible rfl
             rotate_left
             ·simp only [Act.put,List.setIfInBounds_toArray,List.set_cons_zero,List.set_cons_succ,a0X,a0Y]
              rfl
             refine a2M (i:=0) (N:=some 44) (v:=?_) (a':=?_) #[true,true,true,true,false,false,false] rfl rfl (by kernel_rfl) (fun _ _ _ h =>h) (Or.inl ⟨by rfl,?_⟩) hHeld ?_ ?_
             rotate_left
             ·rintro w' ⟨s0,s1,s2,s3,s4,s5,s6,s7,s8⟩
              go_simp
              with_reducible rfl
             rotate_left
             ·simp only [Act.put,List.setIfInBounds_toArray,List.set_cons_zero,List.set_cons_succ,a0X,a0Y]
              rfl
             refine a2M (i:=4) (N:=some 48) (v:=?_) (a':=?_) #[true,true,true,true,true,false,false] rfl rfl (by kernel_rfl) (fun _ _ _ h =>h) (Or.inl ⟨by rfl,?_⟩) hHeld ?_ ?_
             rotate_left
             ·rintro w' ⟨s0,s1,s2,s3,s4,s5,s6,s7,s8⟩
              go_simp
              with_reducible rfl
             rotate_left
             ·simp only [Act.put,List.setIfInBounds_toArray,List.set_cons_zero,List.set_cons_succ,a0X,a0Y]
              rfl
             refine one_ (i:=5) (N:=some 49) #[true,true,true,true,true,true,false] rfl rfl (by kernel_rfl) (by decide) (fun K hK =>?_)
             refine a3K Try.func32 (by kernel_rfl) rfl #[.agg #[.slice (some ad269) aC.length aU],.agg #[.int .i64 ((a0J t273 aH).f0),.string ((a0J t273 aH).f1),.string ((a0J t273 aH).f2),.string ((a0J t273 aH).f3),.slice fI ((a0J t273 aH).f4).length fJ,.slice fK ((a0J t273 aH).f5).length fL,.slice fM ((a0J t273 aH).f6).length fN,.slice fO ((a0J t273 aH).f7).length fP]] (by rfl) rfl rfl (by (try simp only [List.map_toArray,List.map_cons,List.map_nil]);first | done | rfl | (simp only [List.length_drop,List.length_take];rfl)) ?_
             with_reducible refine (r05_stmt.calls k3 _ _ aC ((a0J t273 aH).f0) ((a0J t273 aH).f1) ((a0J t273 aH).f2) ((a0J t273 aH).f3) _ _ ((a0J t273 aH).f4) _ _ ((a0J t273 aH).f5) _ _ ((a0J t273 aH).f6) _ _ ((a0J t273 aH).f7) t277 _ ?side1 ?side2 ?side3 ?side4 ?side5 ?side6 ?side7 ?side8 ?side9 ?side10 A40.out).mono ?_
             (case side1 =>repeat (first | exact (Kd.a0N cD.out HB.out) | (with_reducible refine Kd.a0R ?_ _) | (with_reducible refine Kd.a0Q ?_ _) | (with_reducible refine Kd.a1B ?_)))
             (case side2 =>exact dK.out)
             (case side3 =>repeat (first | exact (by repeat (first | (with_reducible exact bF.out) | (with_reducible refine Kd.a0R ?_ _) | (with_reducible refine Kd.a0Q ?_ _) | (with_reducible refine Kd.a1B ?_) | exact bF.out)) | (with_reducible refine Kd.a0R ?_ _) | (with_reducible refine Kd.a0Q ?_ _) | (with_reducible refine Kd.a1B ?_)))
             (case side4 =>exact gB.out)
             (case side5 =>repeat (first | exact (by repeat (first | (with_reducible exact bG.out) | (with_reducible refine Kd.a0R ?_ _) | (with_reducible refine Kd.a0Q ?_ _) | (with_reducible refine Kd.a1B ?_) | exact bG.out)) | (with_reducible refine Kd.a0R ?_ _) | (with_reducible refine Kd.a0Q ?_ _) | (with_reducible refine Kd.a1B ?_)))
             (case side6 =>exact gC.out)
             (case side7 =>repeat (first | exact (by repeat (first | (with_reducible exact bH.out) | (with_reducible refine Kd.a0R ?_ _) | (with_reducible refine Kd.a0Q ?_ _) | (with_reducible refine Kd.a1B ?_) | exact bH.out)) | (with_reducible refine Kd.a0R ?_ _) | (with_reducible refine Kd.a0Q ?_ _) | (with_reducible refine Kd.a1B ?_)))
             (case side8 =>exact gD.out)
             (case side9 =>repeat (first | exact (by repeat (first | (with_reducible exact bI.out) | (with_reducible refine Kd.a0R ?_ _) | (with_reducible refine Kd.a0Q ?_ _) | (with_reducible refine Kd.a1B ?_) | exact bI.out)) | (with_reducible refine Kd.a0R ?_ _) | (with_reducible refine Kd.a0Q ?_ _) | (with_reducible refine Kd.a1B ?_)))
             (case side10 =>exact gE.out)
             rintro e w44 ⟨rfl,hb⟩
             have HS1_:=(hb.cell (World.block_lt_of_cell? _ _ (hHeld.2.1))).trans (hHeld.2.1)
             have HS2_:=(hb.cell (World.block_lt_of_cell? _ _ (hHeld.2.2.1))).trans (hHeld.2.2.1)
             have HS3_:=(hb.cell (World.block_lt_of_cell? _ _ (hHeld.2.2.2.1))).trans (hHeld.2.2.2.1)
             have HS4_:=(hb.cell (World.block_lt_of_cell? _ _ (hHeld.2.2.2.2.1))).trans (hHeld.2.2.2.2.1)
             have HS5_:=(hb.cell (World.block_lt_of_cell? _ _ (hHeld.2.2.2.2.2.1))).trans (hHeld.2.2.2.2.2.1)
             have HS6_:=(hb.cell (World.block_lt_of_cell? _ _ (hHeld.2.2.2.2.2.2.1))).trans (hHeld.2.2.2.2.2.2.1)
             have HS7_:=(hb.cell (World.block_lt_of_cell? _ _ (hHeld.2.2.2.2.2.2.2.1))).trans (hHeld.2.2.2.2.2.2.2.1)
             have HS8_:=(hb.cell (World.block_lt_of_cell? _ _ (hHeld.2.2.2.2.2.2.2.2))).trans (hHeld.2.2.2.2.2.2.2.2)
             refine ⟨_,rfl,?_⟩
             have bN:=a0A.mk (Kd.a2S (by (with_reducible repeat (first | apply Kd.a2A | apply Kd.a1Z | apply Kd.a2I));exact cX.out) hb)
             have bO:=a0A.mk (Kd.a6H (by (with_reducible repeat (first | apply Kd.a1G | apply Kd.a1F | apply Kd.a1J));exact cZ.out) hb)
             have bP:=a0A.mk (Kd.a6H (by (with_reducible repeat (first | apply Kd.a1G | apply Kd.a1F | apply Kd.a1J));exact dB.out) hb)
             have eC:=a0A.mk (Kd.a6H (by (with_reducible repeat (first | apply Kd.a1G | apply Kd.a1F | apply Kd.a1J));exact dD.out) hb)
             have fH:=a0A.mk (Kd.a6H (by (with_reducible repeat (first | apply Kd.a1G | apply Kd.a1F | apply Kd.a1J));exact dF.out) hb)
             have gO:=a0A.mk (a0U (g:=aW) (o:=.cells #[.slice (some ad269) aC.length aU] 24 (0,0)) (by (with_reducible repeat (first | refine a0L ?_ _ | refine a0M ?_ | refine a0K ?_ _));exact aE.out) hb)
             have gP:=a0A.mk (a0U (g:=aV) (o:=.cells #[.int .i64 cB,.int .i64 bX] 35 (0,0)) (by (with_reducible repeat (first | refine a0L ?_ _ | refine a0M ?_ | refine a0K ?_ _));exact aG.out) hb)
             have lR:=a0A.mk (a0U (g:=aX) (o:=.cells #[.string ((a0P aC aM).f0),.slice cE ((a0P aC aM).f1).length cF,.slice dH ((a0P aC aM).f2).length dI] 32 (0,0)) (by (with_reducible repeat (first | refine a0L ?_ _ | refine a0M ?_ | refine a0K ?_ _));exact aJ.out) hb)
             have lS:=a0A.mk (Kd.a0N (by repeat (first | (with_reducible exact bF.out) | (with_reducible refine Kd.a0R ?_ _) | (with_reducible refine Kd.a0Q ?_ _) | (with_reducible refine Kd.a1B ?_) | exact bF.out)) hb)
             have lT:=a0A.mk (Kd.a0N (by repeat (first | (with_reducible exact bG.out) | (with_reducible refine Kd.a0R ?_ _) | (with_reducible refine Kd.a0Q ?_ _) | (with_reducible refine Kd.a1B ?_) | exact bG.out)) hb)
             have kA:=a0A.mk (Kd.a0N (by repeat (first | (with_reducible exact bH.out) | (with_reducible refine Kd.a0R ?_ _) | (with_reducible refine Kd.a0Q ?_ _) | (with_reducible refine Kd.a1B ?_) | exact bH.out)) hb)
             have kB:=a0A.mk (Kd.a0N (by repeat (first | (with_reducible exact bI.out) | (with_reducible refine Kd.a0R ?_ _) | (with_reducible refine Kd.a0Q ?_ _) | (with_reducible refine Kd.a1B ?_) | exact bI.out)) hb)
             have kC:=a0A.mk (a0H (by repeat (first | (with_reducible first | exact HB.out | apply a0D | apply a0B | apply a0E | refine a0I ?_ bA.out | refine a0I ?_ bE.out | refine a0I ?_ cH.out) | exact HB.out)) hb)
             clear cX
             clear cZ
             clear dB
             clear dD
             clear dF
             clear aE
             clear aG
             clear aJ
             clear bF
             clear bG
             clear bH
             clear bI
             clear HB
             have cX:=bN
             have cZ:=bO
             have dB:=bP
             have dD:=eC
             have dF:=fH
             have aE:=gO
             have aG:=gP
             have aJ:=lR
             have bF:=lS
             have bG:=lT
             have bH:=kA
             have bI:=kB
             have HB:=kC
             clear bN bO bP eC fH gO gP lR lS lT kA kB kC
             (try clear hb)
             (try clear hb2)
             (try clear hk)
             (try clear hi)
             refine hK.out _ _ ⟨(a0G aE.out 0).trans rfl,HS1_,HS2_,HS3_,HS4_,HS5_,HS6_,HS7_,HS8_⟩ (fun hHeld =>?_)
             clear hK K
             refine a3J (a':=?_) ?_ ?_
             rotate_left
             ·show Act.put _ (some 49) _ = _
              simp only [Act.put,List.setIfInBounds_toArray,List.set_cons_zero,List.set_cons_succ,a0X,a0Y]
              rfl
             refine a1E (i:=6) (N:=some 7) (v:=?_) (a':=?_) #[true,true,true,true,true,true,true] rfl rfl (by kernel_rfl) (fun _ _ _ h =>h) (Or.inl ⟨by rfl,?_⟩) ?_ ?_
             rotate_left
             ·intro w'
              go_simp
              with_reducible rfl
             rotate_left
             ·simp only [Act.put,List.setIfInBounds_toArray,List.set_cons_zero,List.set_cons_succ,a0X,a0Y]
              rfl
             refine a6F (by kernel_rfl) ?_
             try go_wp2
             go_roundg k3
             case measure =>have:=HK1.out;have:=HJ5.out;have:=HK3.out;omega
             case rel =>exact ⟨(wrap64 (aH + 1)),(cB),(bX),(by first | rfl | (simp;done) | (simp [*];done)),H',⟨by have:=HK1.out;have:=HJ5.out;have:=HK3.out;omega⟩,⟨by (with_reducible repeat (first | apply Kd.a2A | apply Kd.a1Z | apply Kd.a2I));exact cX.out⟩,⟨by (with_reducible repeat (first | refine a0L ?_ _ | refine a0M ?_ | refine a0K ?_ _));exact aE.out⟩,⟨by (with_reducible repeat (first | refine a0L ?_ _ | refine a0M ?_ | refine a0K ?_ _));exact aG.out⟩,⟨by (with_reducible repeat (first | refine a0L ?_ _ | refine a0M ?_ | refine a0K ?_ _));exact aJ.out⟩,⟨by repeat (first | (with_reducible first | exact HB.out | apply a0D | apply a0B | apply a0E | refine a0I ?_ bA.out | refine a0I ?_ bE.out | refine a0I ?_ cH.out) | exact HB.out)⟩⟩
            ·rw [if_neg c41] at H
             have c41b0:(t277 == 0) = false:=beq_eq_false_iff_ne.mpr c41
             have c41b1:(t277 != 0) = true:=bne_iff_ne.mpr c41
             simp only [Option.some.injEq,Prod.mk.injEq] at H
             obtain ⟨rfl,rfl⟩:=H
             obtain ⟨Ao45,co45,eo45⟩:=Kd.a5B cX.out
             subst eo45
             try go_wp2
             have bN:=a0A.mk (Kd.a2I cX.out)
             have bO:=a0A.mk (a0M aE.out)
             have bP:=a0A.mk (a0M aG.out)
             have eC:=a0A.mk (a0M aJ.out)
             have fH:=a0A.mk (a0E HB.out)
             clear cX
             clear aE
             clear aG
             clear aJ
             clear HB
             have cX:=bN
             have aE:=bO
             have aG:=bP
             have aJ:=eC
             have HB:=fH
             clear bN bO bP eC fH
             have p276:0≤(aH:Int):=of_decide_eq_true (by first | (with_reducible assumption) | assumption)
             have q276:aH < (t273.length:Int):=of_decide_eq_true (by first | (with_reducible assumption) | assumption)
             obtain ⟨ad276,fI,fJ,fK,fL,fM,fN,fO,fP,e276,eL,eM,eN,eO,dP,dQ,dR,dS,eP,eQ,eR,eS,eT,eU,eV,eW⟩:=a3C (Kd.a1V cX.out).2.2 aH p276 q276
             cases e276
             obtain ⟨ce276,gM,gN,dJ⟩:=Kd.a6I cX.out z46 aH p276 (by first | exact q276 | exact of_decide_eq_true (by first | (with_reducible assumption) | assumption) | (have e_:=(Kd.a1V cX.out).1;omega))
             obtain ⟨kX,kY,kZ,lA,lB,lC,lD,lE,rfl,dT,dU,dV,dW,dX,dY,dZ,eB⟩:=a2H gN
             have cY:=dJ 4 _ rfl
             rw [a0W _ _ 4 (by omega)] at cY
             replace cY:=Option.some.inj (cY.symm.trans dP)
             injection cY with hva_ hvn_ hvc_
             rw [hva_] at dU
             rw [hvc_] at dT
             have cZ:=a0A.mk (show Kd.V k56 56 _ w.heap.size _ _ ((a0J t273 aH).f4) from Kd.V_mk dT dU)
             clear hva_ hvn_ hvc_ dU dT
             have dA:=dJ 5 _ rfl
             rw [a0W _ _ 5 (by omega)] at dA
             replace dA:=Option.some.inj (dA.symm.trans dQ)
             injection dA with hva_ hvn_ hvc_
             rw [hva_] at dW
             rw [hvc_] at dV
             have dB:=a0A.mk (show Kd.V Kd.string 9 _ w.heap.size _ _ ((a0J t273 aH).f5) from Kd.V_mk dV dW)
             clear hva_ hvn_ hvc_ dW dV
             have dC:=dJ 6 _ rfl
             rw [a0W _ _ 6 (by omega)] at dC
             replace dC:=Option.some.inj (dC.symm.trans dR)
             injection dC with hva_ hvn_ hvc_
             rw [hva_] at dY
             rw [hvc_] at dX
             have dD:=a0A.mk (show Kd.V k46 46 _ w.heap.size _ _ ((a0J t273 aH).f6) from Kd.V_mk dX dY)
             clear hva_ hvn_ hvc_ dY dX
             have dE:=dJ 7 _ rfl
             rw [a0W _ _ 7 (by omega)] at dE
             replace dE:=Option.some.inj (dE.symm.trans dS)
             injection dE with hva_ hvn_ hvc_
             rw [hva_] at eB
             rw [hvc_] at dZ
             have dF:=a0A.mk (show Kd.V k46 46 _ w.heap.size _ _ ((a0J t273 aH).f7) from Kd.V_mk dZ eB)
             clear hva_ hvn_ hvc_ eB dZ
             clear dJ gM
             have bF:=a0A.mk eQ
             have gB:=a0A.mk eP
             clear eQ eP
             have bG:=a0A.mk eS
             have gC:=a0A.mk eR
             clear eS eR
             have bH:=a0A.mk eU
             have gD:=a0A.mk eT
             clear eU eT
             have bI:=a0A.mk eW
             have gE:=a0A.mk eV
             clear eW eV
             replace p276:=eq_true p276
             replace q276:=eq_true q276
             refine a4L (n:=7) (S:=fun w' =>w'.cell? ⟨aW,0,none⟩ = some (.slice (some ad269) aC.length aU)∧w'.cell? (ad276.add ((aH).toNat * 8)) = some (.int .i64 ((a0J t273 aH).f0))∧w'.cell? ⟨(ad276.add ((aH).toNat * 8)).block,(ad276.add ((aH).toNat * 8)).off + 1,none⟩ = some (.string ((a0J t273 aH).f1))∧w'.cell? ⟨(ad276.add ((aH).toNat * 8)).block,(ad276.add ((aH).toNat * 8)).off + 2,none⟩ = some (.string ((a0J t273 aH).f2))∧w'.cell? ⟨(ad276.add ((aH).toNat * 8)).block,(ad276.add ((aH).toNat * 8)).off + 3,none⟩ = some (.string ((a0J t273 aH).f3))∧w'.cell? ⟨(ad276.add ((aH).toNat * 8)).block,(ad276.add ((aH).toNat * 8)).off + 4,none⟩ = some (.slice fI ((a0J t273 aH).f4).length fJ)∧w'.cell? ⟨(ad276.add ((aH).toNat * 8)).block,(ad276.add ((aH).toNat * 8)).off + 5,none⟩ = some (.slice fK ((a0J t273 aH).f5).length fL)∧w'.cell? ⟨(ad276.add ((aH).toNat * 8)).block,(ad276.add ((aH).toNat * 8)).off + 6,none⟩ = some (.slice fM ((a0J t273 aH).f6).length fN)∧w'.cell? ⟨(ad276.add ((aH).toNat * 8)).block,(ad276.add ((aH).toNat * 8)).off + 7,none⟩ = some (.slice fO ((a0J t273 aH).f7).length fP)) (ds:=[]) #[false,false,false,false,false,false,false] (by kernel_rfl) rfl rfl ⟨(a0G aE.out 0).trans rfl,eL,eM,eN,eO,dP,dQ,dR,dS⟩ (fun hHeld =>?_)
             generalize wr.drew = w46 at cX aE aG aJ HB cZ dB dD dF bF bG bH bI eL eM eN eO dP dQ dR dS hHeld ⊢
             refine a1E (i:=1) (N:=some 45) (v:=?_) (a':=?_) #[false,true,false,false,false,false,false] rfl rfl (by kernel_rfl) (fun _ _ _ h =>h) (Or.inl ⟨by rfl,?_⟩) ?_ ?_
             rotate_left
             ·intro w'
              go_simp
              with_reducible rfl
             rotate_left
             ·simp only [Act.put,List.setIfInBounds_toArray,List.set_cons_zero,List.set_cons_succ,a0X,a0Y]
              rfl
             refine a1E (i:=2) (N:=some 46) (v:=?_) (a':=?_) #[false,true,true,false,false,false,false] rfl rfl (by kernel_rfl) (fun _ _ _ h =>h) (Or.inl ⟨by rfl,?_⟩) ?_ ?_
             rotate_left
             ·intro w'
              go_simp
              with_reducible rfl
             rotate_left
             ·simp only [Act.put,List.setIfInBounds_toArray,List.set_cons_zero,List.set_cons_succ,a0X,a0Y]
              rfl
             refine a1E (i:=3) (N:=some 47) (v:=?_) (a':=?_) #[false,true,true,true,false,false,false] rfl rfl (by kernel_rfl) (fun _ _ _ h =>h) (Or.inl ⟨by rfl,?_⟩) ?_ ?_
             rotate_left
             ·intro w'
              go_simp
              with_reducible rfl
             rotate_left
             ·simp only [Act.put,List.setIfInBounds_toArray,List.set_cons_zero,List.set_cons_succ,a0X,a0Y]
              rfl
             refine a2M (i:=0) (N:=some 44) (v:=?_) (a':=?_) #[true,true,true,true,false,false,false] rfl rfl (by kernel_rfl) (fun _ _ _ h =>h) (Or.inl ⟨by rfl,?_⟩) hHeld ?_ ?_
             rotate_left
             ·rintro w' ⟨s0,s1,s2,s3,s4,s5,s6,s7,s8⟩
              go_simp
              with_reducible rfl
             rotate_left
             ·simp only [Act.put,List.setIfInBounds_toArray,List.set_cons_zero,List.set_cons_succ,a0X,a0Y]
              rfl
             refine a2M (i:=4) (N:=some 48) (v:=?_) (a':=?_) #[true,true,true,true,true,false,false] rfl rfl (by kernel_rfl) (fun _ _ _ h =>h) (Or.inl ⟨by rfl,?_⟩) hHeld ?_ ?_
             rotate_left
             ·rintro w' ⟨s0,s1,s2,s3,s4,s5,s6,s7,s8⟩
              go_simp
              with_reducible rfl
             rotate_left
             ·simp only [Act.put,List.setIfInBounds_toArray,List.set_cons_zero,List.set_cons_succ,a0X,a0Y]
              rfl
             refine one_ (i:=5) (N:=some 49) #[true,true,true,true,true,true,false] rfl rfl (by kernel_rfl) (by decide) (fun K hK =>?_)
             refine a3K Try.func32 (by kernel_rfl) rfl #[.agg #[.slice (some ad269) aC.length aU],.agg #[.int .i64 ((a0J t273 aH).f0),.string ((a0J t273 aH).f1),.string ((a0J t273 aH).f2),.string ((a0J t273 aH).f3),.slice fI ((a0J t273 aH).f4).length fJ,.slice fK ((a0J t273 aH).f5).length fL,.slice fM ((a0J t273 aH).f6).length fN,.slice fO ((a0J t273 aH).f7).length fP]] (by rfl) rfl rfl (by (try simp only [List.map_toArray,List.map_cons,List.map_nil]);first | done | rfl | (simp only [List.length_drop,List.length_take];rfl)) ?_
             with_reducible refine (r05_stmt.calls k3 _ _ aC ((a0J t273 aH).f0) ((a0J t273 aH).f1) ((a0J t273 aH).f2) ((a0J t273 aH).f3) _ _ ((a0J t273 aH).f4) _ _ ((a0J t273 aH).f5) _ _ ((a0J t273 aH).f6) _ _ ((a0J t273 aH).f7) t277 _ ?side1 ?side2 ?side3 ?side4 ?side5 ?side6 ?side7 ?side8 ?side9 ?side10 A40.out).mono ?_
             (case side1 =>repeat (first | exact (Kd.a0N cD.out HB.out) | (with_reducible refine Kd.a0R ?_ _) | (with_reducible refine Kd.a0Q ?_ _) | (with_reducible refine Kd.a1B ?_)))
             (case side2 =>exact dK.out)
             (case side3 =>repeat (first | exact (by repeat (first | (with_reducible exact bF.out) | (with_reducible refine Kd.a0R ?_ _) | (with_reducible refine Kd.a0Q ?_ _) | (with_reducible refine Kd.a1B ?_) | exact bF.out)) | (with_reducible refine Kd.a0R ?_ _) | (with_reducible refine Kd.a0Q ?_ _) | (with_reducible refine Kd.a1B ?_)))
             (case side4 =>exact gB.out)
             (case side5 =>repeat (first | exact (by repeat (first | (with_reducible exact bG.out) | (with_reducible refine Kd.a0R ?_ _) | (with_reducible refine Kd.a0Q ?_ _) | (with_reducible refine Kd.a1B ?_) | exact bG.out)) | (with_reducible refine Kd.a0R ?_ _) | (with_reducible refine Kd.a0Q ?_ _) | (with_reducible refine Kd.a1B ?_)))
             (case side6 =>exact gC.out)
             (case side7 =>repeat (first | exact (by repeat (first | (with_reducible exact bH.out) | (with_reducible refine Kd.a0R ?_ _) | (with_reducible refine Kd.a0Q ?_ _) | (with_reducible refine Kd.a1B ?_) | exact bH.out)) | (with_reducible refine Kd.a0R ?_ _) | (with_reducible refine Kd.a0Q ?_ _) | (with_reducible refine Kd.a1B ?_)))
             (case side8 =>exact gD.out)
             (case side9 =>repeat (first | exact (by repeat (first | (with_reducible exact bI.out) | (with_reducible refine Kd.a0R ?_ _) | (with_reducible refine Kd.a0Q ?_ _) | (with_reducible refine Kd.a1B ?_) | exact bI.out)) | (with_reducible refine Kd.a0R ?_ _) | (with_reducible refine Kd.a0Q ?_ _) | (with_reducible refine Kd.a1B ?_)))
             (case side10 =>exact gE.out)
             rintro e w47 ⟨rfl,hb⟩
             have HS1_:=(hb.cell (World.block_lt_of_cell? _ _ (hHeld.2.1))).trans (hHeld.2.1)
             have HS2_:=(hb.cell (World.block_lt_of_cell? _ _ (hHeld.2.2.1))).trans (hHeld.2.2.1)
             have HS3_:=(hb.cell (World.block_lt_of_cell? _ _ (hHeld.2.2.2.1))).trans (hHeld.2.2.2.1)
             have HS4_:=(hb.cell (World.block_lt_of_cell? _ _ (hHeld.2.2.2.2.1))).trans (hHeld.2.2.2.2.1)
             have HS5_:=(hb.cell (World.block_lt_of_cell? _ _ (hHeld.2.2.2.2.2.1))).trans (hHeld.2.2.2.2.2.1)
             have HS6_:=(hb.cell (World.block_lt_of_cell? _ _ (hHeld.2.2.2.2.2.2.1))).trans (hHeld.2.2.2.2.2.2.1)
             have HS7_:=(hb.cell (World.block_lt_of_cell? _ _ (hHeld.2.2.2.2.2.2.2.1))).trans (hHeld.2.2.2.2.2.2.2.1)
             have HS8_:=(hb.cell (World.block_lt_of_cell? _ _ (hHeld.2.2.2.2.2.2.2.2))).trans (hHeld.2.2.2.2.2.2.2.2)
             refine ⟨_,rfl,?_⟩
             have bN:=a0A.mk (Kd.a2S (by (with_reducible repeat (first | apply Kd.a2A | apply Kd.a1Z | apply Kd.a2I));exact cX.out) hb)
             have bO:=a0A.mk (Kd.a6H (by (with_reducible repeat (first | apply Kd.a1G | apply Kd.a1F | apply Kd.a1J));exact cZ.out) hb)
             have bP:=a0A.mk (Kd.a6H (by (with_reducible repeat (first | apply Kd.a1G | apply Kd.a1F | apply Kd.a1J));exact dB.out) hb)
             have eC:=a0A.mk (Kd.a6H (by (with_reducible repeat (first | apply Kd.a1G | apply Kd.a1F | apply Kd.a1J));exact dD.out) hb)
             have fH:=a0A.mk (Kd.a6H (by (with_reducible repeat (first | apply Kd.a1G | apply Kd.a1F | apply Kd.a1J));exact dF.out) hb)
             have gO:=a0A.mk (a0U (g:=aW) (o:=.cells #[.slice (some ad269) aC.length aU] 24 (0,0)) (by (with_reducible repeat (first | refine a0L ?_ _ | refine a0M ?_ | refine a0K ?_ _));exact aE.out) hb)
             have gP:=a0A.mk (a0U (g:=aV) (o:=.cells #[.int .i64 cB,.int .i64 bX] 35 (0,0)) (by (with_reducible repeat (first | refine a0L ?_ _ | refine a0M ?_ | refine a0K ?_ _));exact aG.out) hb)
             have lR:=a0A.mk (a0U (g:=aX) (o:=.cells #[.string ((a0P aC aM).f0),.slice cE ((a0P aC aM).f1).length cF,.slice dH ((a0P aC aM).f2).length dI] 32 (0,0)) (by (with_reducible repeat (first | refine a0L ?_ _ | refine a0M ?_ | refine a0K ?_ _));exact aJ.out) hb)
             have lS:=a0A.mk (Kd.a0N (by repeat (first | (with_reducible exact bF.out) | (with_reducible refine Kd.a0R ?_ _) | (with_reducible refine Kd.a0Q ?_ _) | (with_reducible refine Kd.a1B ?_) | exact bF.out)) hb)
             have lT:=a0A.mk (Kd.a0N (by repeat (first | (with_reducible exact bG.out) | (with_reducible refine Kd.a0R ?_ _) | (with_reducible refine Kd.a0Q ?_ _) | (with_reducible refine Kd.a1B ?_) | exact bG.out)) hb)
             have kA:=a0A.mk (Kd.a0N (by repeat (first | (with_reducible exact bH.out) | (with_reducible refine Kd.a0R ?_ _) | (with_reducible refine Kd.a0Q ?_ _) | (with_reducible refine Kd.a1B ?_) | exact bH.out)) hb)
             have kB:=a0A.mk (Kd.a0N (by repeat (first | (with_reducible exact bI.out) | (with_reducible refine Kd.a0R ?_ _) | (with_reducible refine Kd.a0Q ?_ _) | (with_reducible refine Kd.a1B ?_) | exact bI.out)) hb)
             have kC:=a0A.mk (a0H (by repeat (first | (with_reducible first | exact HB.out | apply a0D | apply a0B | apply a0E | refine a0I ?_ bA.out | refine a0I ?_ bE.out | refine a0I ?_ cH.out) | exact HB.out)) hb)
             clear cX
             clear cZ
             clear dB
             clear dD
             clear dF
             clear aE
             clear aG
             clear aJ
             clear bF
             clear bG
             clear bH
             clear bI
             clear HB
             have cX:=bN
             have cZ:=bO
             have dB:=bP
             have dD:=eC
             have dF:=fH
             have aE:=gO
             have aG:=gP
             have aJ:=lR
             have bF:=lS
             have bG:=lT
             have bH:=kA
             have bI:=kB
             have HB:=kC
             clear bN bO bP eC fH gO gP lR lS lT kA kB kC
             (try clear hb)
             (try clear hb2)
             (try clear hk)
             (try clear hi)
             refine hK.out _ _ ⟨(a0G aE.out 0).trans rfl,HS1_,HS2_,HS3_,HS4_,HS5_,HS6_,HS7_,HS8_⟩ (fun hHeld =>?_)
             clear hK K
             refine a3J (a':=?_) ?_ ?_
             rotate_left
             ·show Act.put _ (some 49) _ = _
              simp only [Act.put,List.setIfInBounds_toArray,List.set_cons_zero,List.set_cons_succ,a0X,a0Y]
              rfl
             refine a1E (i:=6) (N:=some 7) (v:=?_) (a':=?_) #[true,true,true,true,true,true,true] rfl rfl (by kernel_rfl) (fun _ _ _ h =>h) (Or.inl ⟨by rfl,?_⟩) ?_ ?_
             rotate_left
             ·intro w'
              go_simp
              with_reducible rfl
             rotate_left
             ·simp only [Act.put,List.setIfInBounds_toArray,List.set_cons_zero,List.set_cons_succ,a0X,a0Y]
              rfl
             refine a6F (by kernel_rfl) ?_
             have hnb48:=cA.out
             have hnc48:=bZ.out
             have hnb49:=aZ.out
             have hnc49:=dG.out
             have kF:w47.cell? ⟨aV,0,none⟩ = some (.int .i64 cB):=(a0G aG.out 0).trans rfl
             have kG:w47.cell? ⟨aV,1,none⟩ = some (.int .i64 bX):=(a0G aG.out 1).trans rfl
             have kH:=a0F aG.out 0
             have kI:=a0F aG.out 1
             try go_wp2
             refine bodyPost_ret (results_cell_row rfl _ _ aV 35 #[.int .i64 t277,.int .i64 (wrap64 ((wrap64 ((wrap64 (10000 * aM)) + aH)) + 1))] (0,0) _ rfl (by (with_reducible repeat (first | refine a0L ?_ _ | refine a0M ?_ | refine a0K ?_ _));refine a2N (cs:=#[.int .i64 t277,.int .i64 bX]) ?_ 1 _ rfl;(with_reducible repeat (first | refine a0L ?_ _ | refine a0M ?_ | refine a0K ?_ _));refine a2N (cs:=#[.int .i64 cB,.int .i64 bX]) ?_ 0 _ rfl;(with_reducible repeat (first | refine a0L ?_ _ | refine a0M ?_ | refine a0K ?_ _));exact aG.out) Try.underlying35 rfl (by kernel_rfl)) rfl ?_
             exact ⟨by first | rfl | (simp [a0T,a0S] <;> rfl) | (simp [*,a0T,a0S] <;> rfl),by repeat (first | (with_reducible first | exact HB.out | apply a0D | apply a0B | apply a0E | refine a0I ?_ bA.out | refine a0I ?_ bE.out | refine a0I ?_ cH.out) | exact HB.out)⟩
           ·rw [if_neg c39] at H
            exact absurd H (by simp)
          ·rw [if_neg c38] at H
           have c38b0:decide (aH < (t273.length:Int)) = false:=decide_eq_false c38
           clear c38
           have H':=a0A.mk H
           clear H
           obtain ⟨Ao51,co51,eo51⟩:=Kd.a5B cX.out
           subst eo51
           go_wp2
           go_roundg k3
           case measure =>have:=HK1.out;have:=HJ5.out;have:=HK3.out;omega
           case rel =>exact ⟨(wrap64 (aM + 1)),(cB),(bX),(by first | rfl | (simp;done) | (simp [*];done)),H',⟨by have:=HK1.out;have:=HJ5.out;have:=HK3.out;omega⟩,⟨by (with_reducible repeat (first | refine a0L ?_ _ | refine a0M ?_ | refine a0K ?_ _));exact aE.out⟩,⟨by (with_reducible repeat (first | refine a0L ?_ _ | refine a0M ?_ | refine a0K ?_ _));exact aG.out⟩,⟨by repeat (first | (with_reducible first | exact HB.out | apply a0D | apply a0B | apply a0E | refine a0I ?_ bA.out | refine a0I ?_ bE.out | refine a0I ?_ cH.out) | exact HB.out)⟩⟩
    ·rw [if_neg c5] at H
     exact absurd H (by simp)
   ·rw [if_neg c4] at H
    have c4b0:decide (aM < (aC.length:Int)) = false:=decide_eq_false c4
    clear c4
    replace H:=Option.bind_eq_some_iff.mp H
    obtain ⟨t278,A520,H⟩:=H
    replace H:(if t278 < 0 then (some (53,(-1))) else (if 0≤t278 then (if t278 < (aC.length:Int) then (if (((a0P aC t278).f1).length:Int) > 0 then (some (53,(-1))) else (some (0,0))) else (none)) else (none))) = some (r1,r2):=H
    have A52:=a0A.mk A520
    clear A520
    by_cases c53:t278 < 0
    ·rw [if_pos c53] at H
     have c53b0:decide (t278 < 0) = true:=decide_eq_true c53
     clear c53
     simp only [Option.some.injEq,Prod.mk.injEq] at H
     obtain ⟨rfl,rfl⟩:=H
     have hnb54:=bZ.out
     have hnc54:=cA.out
     have qH:wr.cell? ⟨aW,0,none⟩ = some (.slice bB aC.length aU):=(a0G aE.out 0).trans rfl
     have qI:=a0F aE.out 0
     go_wp2_with (first | ((with_reducible refine a1H (f:=16) rfl ?_);refine a2G (some 60) rfl rfl Try.func16 (by kernel_rfl) rfl #[.agg #[.slice bB aC.length aU],.string (⟨#[109,97,105,110]⟩:ByteArray)] rfl (by (try simp only [List.map_toArray,List.map_cons,List.map_nil]);first | done | rfl | (simp only [List.length_drop,List.length_take];rfl)) ?_;(with_reducible refine (r05_Fun.calls k1 _ _ aC (⟨#[109,97,105,110]⟩:ByteArray) t278 _ ?side1 ?side2 A52.out).mono ?_);(case side1 =>repeat (first | exact (Kd.a0N cD.out HB.out) | (with_reducible refine Kd.a0R ?_ _) | (with_reducible refine Kd.a0Q ?_ _) | (with_reducible refine Kd.a1B ?_)));(case side2 =>exact dK.out);rintro e w56 ⟨rfl,hb⟩;refine ⟨_,rfl,?_⟩;have bN:=a0A.mk (a0U (g:=aW) (o:=.cells #[.slice bB aC.length aU] 24 (0,0)) (by (with_reducible repeat (first | refine a0L ?_ _ | refine a0M ?_ | refine a0K ?_ _));exact aE.out) hb);have bO:=a0A.mk (a0U (g:=aV) (o:=.cells #[.int .i64 aN,.int .i64 aI] 35 (0,0)) (by (with_reducible repeat (first | refine a0L ?_ _ | refine a0M ?_ | refine a0K ?_ _));exact aG.out) hb);have bP:=a0A.mk (a0H (by repeat (first | (with_reducible first | exact HB.out | apply a0D | apply a0B | apply a0E | refine a0I ?_ bA.out | refine a0I ?_ bE.out) | exact HB.out)) hb);clear aE;clear aG;clear HB;have aE:=bN;have aG:=bO;have HB:=bP;clear bN bO bP;(try clear hb);(try clear hb2);(try clear hk);(try clear hi);have qJ:w56.cell? ⟨aV,0,none⟩ = some (.int .i64 aN):=(a0G aG.out 0).trans rfl;have qK:w56.cell? ⟨aV,1,none⟩ = some (.int .i64 aI):=(a0G aG.out 1).trans rfl;have qL:=a0F aG.out 0;have qM:=a0F aG.out 1))
     refine bodyPost_ret (results_cell_row rfl _ _ aV 35 #[.int .i64 53,.int .i64 (-1)] (0,0) _ rfl (by (with_reducible repeat (first | refine a0L ?_ _ | refine a0M ?_ | refine a0K ?_ _));refine a2N (cs:=#[.int .i64 53,.int .i64 aI]) ?_ 1 _ rfl;(with_reducible repeat (first | refine a0L ?_ _ | refine a0M ?_ | refine a0K ?_ _));refine a2N (cs:=#[.int .i64 aN,.int .i64 aI]) ?_ 0 _ rfl;(with_reducible repeat (first | refine a0L ?_ _ | refine a0M ?_ | refine a0K ?_ _));exact aG.out) Try.underlying35 rfl (by kernel_rfl)) rfl ?_
     exact ⟨by first | rfl | (simp [a0T,a0S] <;> rfl) | (simp [*,a0T,a0S] <;> rfl),by repeat (first | (with_reducible first | exact HB.out | apply a0D | apply a0B | apply a0E | refine a0I ?_ bA.out | refine a0I ?_ bE.out) | exact HB.out)⟩
    ·rw [if_neg c53] at H
     have c53b0:decide (t278 < 0) = false:=decide_eq_false c53
     clear c53
     by_cases c58:0≤t278
     ·rw [if_pos c58] at H
      have c58b0:decide (0≤t278) = true:=decide_eq_true c58
      clear c58
      by_cases c59:t278 < (aC.length:Int)
      ·rw [if_pos c59] at H
       have c59b0:decide (t278 < (aC.length:Int)) = true:=decide_eq_true c59
       clear c59
       by_cases c60:(((a0P aC t278).f1).length:Int) > 0
       ·rw [if_pos c60] at H
        have c60b0:decide (0 < (((a0P aC t278).f1).length:Int)) = true:=decide_eq_true c60
        have c60b1:decide (0 < ((a0P aC t278).f1).length) = true:=decide_eq_true (by omega)
        clear c60
        simp only [Option.some.injEq,Prod.mk.injEq] at H
        obtain ⟨rfl,rfl⟩:=H
        have hnb61:=bZ.out
        have hnc61:=cA.out
        have qN:wr.cell? ⟨aW,0,none⟩ = some (.slice bB aC.length aU):=(a0G aE.out 0).trans rfl
        have qO:=a0F aE.out 0
        go_wp2_with (first | ((with_reducible refine a1H (f:=16) rfl ?_);refine a2G (some 60) rfl rfl Try.func16 (by kernel_rfl) rfl #[.agg #[.slice bB aC.length aU],.string (⟨#[109,97,105,110]⟩:ByteArray)] rfl (by (try simp only [List.map_toArray,List.map_cons,List.map_nil]);first | done | rfl | (simp only [List.length_drop,List.length_take];rfl)) ?_;(with_reducible refine (r05_Fun.calls k1 _ _ aC (⟨#[109,97,105,110]⟩:ByteArray) t278 _ ?side1 ?side2 A52.out).mono ?_);(case side1 =>repeat (first | exact (Kd.a0N cD.out HB.out) | (with_reducible refine Kd.a0R ?_ _) | (with_reducible refine Kd.a0Q ?_ _) | (with_reducible refine Kd.a1B ?_)));(case side2 =>exact dK.out);rintro e w63 ⟨rfl,hb⟩;refine ⟨_,rfl,?_⟩;have bN:=a0A.mk (a0U (g:=aW) (o:=.cells #[.slice bB aC.length aU] 24 (0,0)) (by (with_reducible repeat (first | refine a0L ?_ _ | refine a0M ?_ | refine a0K ?_ _));exact aE.out) hb);have bO:=a0A.mk (a0U (g:=aV) (o:=.cells #[.int .i64 aN,.int .i64 aI] 35 (0,0)) (by (with_reducible repeat (first | refine a0L ?_ _ | refine a0M ?_ | refine a0K ?_ _));exact aG.out) hb);have bP:=a0A.mk (a0H (by repeat (first | (with_reducible first | exact HB.out | apply a0D | apply a0B | apply a0E | refine a0I ?_ bA.out | refine a0I ?_ bE.out) | exact HB.out)) hb);clear aE;clear aG;clear HB;have aE:=bN;have aG:=bO;have HB:=bP;clear bN bO bP;(try clear hb);(try clear hb2);(try clear hk);(try clear hi);have qP:w63.cell? ⟨aW,0,none⟩ = some (.slice bB aC.length aU):=(a0G aE.out 0).trans rfl;have qQ:=a0F aE.out 0;have p279:0≤(t278:Int):=of_decide_eq_true (by first | (with_reducible assumption) | assumption);have q279:t278 < (aC.length:Int):=of_decide_eq_true (by first | (with_reducible assumption) | assumption);obtain ⟨ad279,lU,lV,lW,lX,e279,eX,eY,eZ,fA,fB,fC,fD⟩:=a3N cD.out t278 p279 q279;cases e279;replace eX:=a0C HB.out eX;replace eY:=a0C HB.out eY;replace eZ:=a0C HB.out eZ;have lF:=a0A.mk fB;have lG:=a0A.mk fA;clear fB fA;have lH:=a0A.mk fD;have lI:=a0A.mk fC;clear fD fC;replace p279:=eq_true p279;replace q279:=eq_true q279;have qR:w63.cell? ⟨aV,0,none⟩ = some (.int .i64 aN):=(a0G aG.out 0).trans rfl;have qS:w63.cell? ⟨aV,1,none⟩ = some (.int .i64 aI):=(a0G aG.out 1).trans rfl;have qT:=a0F aG.out 0;have qU:=a0F aG.out 1))
        refine bodyPost_ret (results_cell_row rfl _ _ aV 35 #[.int .i64 53,.int .i64 (-1)] (0,0) _ rfl (by (with_reducible repeat (first | refine a0L ?_ _ | refine a0M ?_ | refine a0K ?_ _));refine a2N (cs:=#[.int .i64 53,.int .i64 aI]) ?_ 1 _ rfl;(with_reducible repeat (first | refine a0L ?_ _ | refine a0M ?_ | refine a0K ?_ _));refine a2N (cs:=#[.int .i64 aN,.int .i64 aI]) ?_ 0 _ rfl;(with_reducible repeat (first | refine a0L ?_ _ | refine a0M ?_ | refine a0K ?_ _));exact aG.out) Try.underlying35 rfl (by kernel_rfl)) rfl ?_
        exact ⟨by first | rfl | (simp [a0T,a0S] <;> rfl) | (simp [*,a0T,a0S] <;> rfl),by repeat (first | (with_reducible first | exact HB.out | apply a0D | apply a0B | apply a0E | refine a0I ?_ bA.out | refine a0I ?_ bE.out) | exact HB.out)⟩
       ·rw [if_neg c60] at H
        have c60b0:decide (0 < (((a0P aC t278).f1).length:Int)) = false:=decide_eq_false c60
        have c60b1:decide (0 < ((a0P aC t278).f1).length) = false:=decide_eq_false (by omega)
        clear c60
        simp only [Option.some.injEq,Prod.mk.injEq] at H
        obtain ⟨rfl,rfl⟩:=H
        have hnb66:=bZ.out
        have hnc66:=cA.out
        have qV:wr.cell? ⟨aW,0,none⟩ = some (.slice bB aC.length aU):=(a0G aE.out 0).trans rfl
        have qW:=a0F aE.out 0
        go_wp2_with (first | ((with_reducible refine a1H (f:=16) rfl ?_);refine a2G (some 60) rfl rfl Try.func16 (by kernel_rfl) rfl #[.agg #[.slice bB aC.length aU],.string (⟨#[109,97,105,110]⟩:ByteArray)] rfl (by (try simp only [List.map_toArray,List.map_cons,List.map_nil]);first | done | rfl | (simp only [List.length_drop,List.length_take];rfl)) ?_;(with_reducible refine (r05_Fun.calls k1 _ _ aC (⟨#[109,97,105,110]⟩:ByteArray) t278 _ ?side1 ?side2 A52.out).mono ?_);(case side1 =>repeat (first | exact (Kd.a0N cD.out HB.out) | (with_reducible refine Kd.a0R ?_ _) | (with_reducible refine Kd.a0Q ?_ _) | (with_reducible refine Kd.a1B ?_)));(case side2 =>exact dK.out);rintro e w68 ⟨rfl,hb⟩;refine ⟨_,rfl,?_⟩;have bN:=a0A.mk (a0U (g:=aW) (o:=.cells #[.slice bB aC.length aU] 24 (0,0)) (by (with_reducible repeat (first | refine a0L ?_ _ | refine a0M ?_ | refine a0K ?_ _));exact aE.out) hb);have bO:=a0A.mk (a0U (g:=aV) (o:=.cells #[.int .i64 aN,.int .i64 aI] 35 (0,0)) (by (with_reducible repeat (first | refine a0L ?_ _ | refine a0M ?_ | refine a0K ?_ _));exact aG.out) hb);have bP:=a0A.mk (a0H (by repeat (first | (with_reducible first | exact HB.out | apply a0D | apply a0B | apply a0E | refine a0I ?_ bA.out | refine a0I ?_ bE.out) | exact HB.out)) hb);clear aE;clear aG;clear HB;have aE:=bN;have aG:=bO;have HB:=bP;clear bN bO bP;(try clear hb);(try clear hb2);(try clear hk);(try clear hi);have qX:w68.cell? ⟨aW,0,none⟩ = some (.slice bB aC.length aU):=(a0G aE.out 0).trans rfl;have qY:=a0F aE.out 0;have p279:0≤(t278:Int):=of_decide_eq_true (by first | (with_reducible assumption) | assumption);have q279:t278 < (aC.length:Int):=of_decide_eq_true (by first | (with_reducible assumption) | assumption);obtain ⟨ad279,lU,lV,lW,lX,e279,eX,eY,eZ,fA,fB,fC,fD⟩:=a3N cD.out t278 p279 q279;cases e279;replace eX:=a0C HB.out eX;replace eY:=a0C HB.out eY;replace eZ:=a0C HB.out eZ;have lF:=a0A.mk fB;have lG:=a0A.mk fA;clear fB fA;have lH:=a0A.mk fD;have lI:=a0A.mk fC;clear fD fC;replace p279:=eq_true p279;replace q279:=eq_true q279;have qZ:w68.cell? ⟨aV,0,none⟩ = some (.int .i64 aN):=(a0G aG.out 0).trans rfl;have rA:w68.cell? ⟨aV,1,none⟩ = some (.int .i64 aI):=(a0G aG.out 1).trans rfl;have rB:=a0F aG.out 0;have rC:=a0F aG.out 1))
        refine bodyPost_ret (results_cell_row rfl _ _ aV 35 #[.int .i64 0,.int .i64 0] (0,0) _ rfl (by (with_reducible repeat (first | refine a0L ?_ _ | refine a0M ?_ | refine a0K ?_ _));refine a2N (cs:=#[.int .i64 0,.int .i64 aI]) ?_ 1 _ rfl;(with_reducible repeat (first | refine a0L ?_ _ | refine a0M ?_ | refine a0K ?_ _));refine a2N (cs:=#[.int .i64 aN,.int .i64 aI]) ?_ 0 _ rfl;(with_reducible repeat (first | refine a0L ?_ _ | refine a0M ?_ | refine a0K ?_ _));exact aG.out) Try.underlying35 rfl (by kernel_rfl)) rfl ?_
        exact ⟨by first | rfl | (simp [a0T,a0S] <;> rfl) | (simp [*,a0T,a0S] <;> rfl),by repeat (first | (with_reducible first | exact HB.out | apply a0D | apply a0B | apply a0E | refine a0I ?_ bA.out | refine a0I ?_ bE.out) | exact HB.out)⟩
      ·rw [if_neg c59] at H
       exact absurd H (by simp)
     ·rw [if_neg c58] at H
      exact absurd H (by simp)
end Go.Proofs.Ytjiacafeckokeaa.Pr
namespace Go.Proofs.Ytjiacafeckokeaa.Man
open Go.RowKit Go.Proofs.Ytjiacafeckokeaa.Pr Go.Proofs.YtjiacafeckokeaaW.PrintWords
def stmtTail (fs:List S32) (s:S46):Int:=if s.f0 = 5 then (if funIx fs s.f3 < 0 then 51 else if (a0P fs (funIx fs s.f3)).f1.length = s.f4.length then 0 else 52) else 0
theorem stmtB_eq (fs:List S32) (s:S46):stmtB fs s = if s.f0 = 4∧twiceB s.f5 = true then 50 else if s.f4.any (lostOp fs) = true then 51 else stmtTail fs s:=rfl
theorem stmt_l0 (fs:List S32) (hf:fs.length≤1050000) (s:S46) (h4:s.f4.length≤1050000):∀ m j:Nat,j + m = s.f4.length →
  Ev (fun k =>r05_stmt.l0 k (j:Int) fs s.f0 s.f1 s.f2 s.f3 s.f4 s.f5 s.f6 s.f7) (if (s.f4.drop j).any (lostOp fs) = true then 51 else stmtTail fs s):=by
 have hf2:fs.length≤2000000:=Nat.le_trans hf (by decide)
 intro m
 induction m with
 | zero =>
  intro j hj
  have hje:j = s.f4.length:=hj
  have hnl:¬ ((j:Int) < (s.f4.length:Int)):=by rw [hje];exact Int.lt_irrefl _
  refine Ev.step ?_
  simp only [r05_stmt.l0,if_neg hnl]
  rw [hje,List.drop_of_length_le (Nat.le_refl _),if_neg (by simp)]
  unfold stmtTail
  by_cases h5:s.f0 = 5
  ·simp only [if_pos h5]
   refine Ev.bind (a9H fs hf2 s.f3) ?_
   by_cases h0:funIx fs s.f3 < 0
   ·simp only [if_pos h0];exact Ev.const 51
   ·have c1:0≤funIx fs s.f3:=Int.not_lt.1 h0
    simp only [if_neg h0,if_pos c1,if_pos (a8C fs s.f3)]
    by_cases he:(a0P fs (funIx fs s.f3)).f1.length = s.f4.length
    ·simp only [he,if_true];exact Ev.const 0
    ·have he2:¬ (((a0P fs (funIx fs s.f3)).f1.length:Int) = (s.f4.length:Int)):=fun e =>he (Int.ofNat_inj.1 e)
     simp only [if_neg he,if_neg he2];exact Ev.const 52
  ·simp only [if_neg h5];exact Ev.const 0
 | succ m ih =>
  intro j hj
  have hjl:j < s.f4.length:=by omega
  have d1:(0:Int)≤(j:Int):=Int.natCast_nonneg j
  have d2:(j:Int) < (s.f4.length:Int):=Int.ofNat_lt.2 hjl
  have hw:=pz j (Nat.le_trans (Nat.le_of_lt hjl) h4)
  have hn:=ih (j + 1) (by omega)
  refine Ev.step ?_
  simp only [r05_stmt.l0,if_pos d1,if_pos d2,hw]
  rw [b2I s.f4 j hjl,List.any_cons]
  by_cases h3:(a1R s.f4 (j:Int)).f0 = 3
  ·simp only [if_pos h3]
   refine Ev.bind (a9H fs hf2 _) ?_
   by_cases h0:funIx fs (a1R s.f4 (j:Int)).f2 < 0
   ·have:lostOp fs (a1R s.f4 (j:Int)) = true:=by simp [lostOp,h3,h0]
    simp only [if_pos h0,this,Bool.true_or,if_true];exact Ev.const 51
   ·have:lostOp fs (a1R s.f4 (j:Int)) = false:=by simp [lostOp,h0]
    simp only [if_neg h0,this,Bool.false_or];exact hn
  ·have:lostOp fs (a1R s.f4 (j:Int)) = false:=by simp [lostOp,h3]
   simp only [if_neg h3,this,Bool.false_or];exact hn
theorem stmt_ev (fs:List S32) (hf:fs.length≤1050000) (s:S46) (hs:FitS s):Ev (fun k =>r05_stmt.f k fs s.f0 s.f1 s.f2 s.f3 s.f4 s.f5 s.f6 s.f7) (stmtB fs s):=by
 have h0:=stmt_l0 fs hf s hs.1 s.f4.length 0 (by omega)
 rw [List.drop_zero] at h0
 rw [stmtB_eq]
 by_cases h4:s.f0 = 4
 ·simp only [r05_stmt.f,if_pos h4]
  refine Ev.bind (b2V s.f5 hs.2.1) (Ev.step ?_)
  cases ht:twiceB s.f5 with
  | true =>simp only [r05_stmt.j0,if_true,h4,true_and];exact Ev.const 50
  | false =>simp only [r05_stmt.j0,Bool.false_eq_true,and_false,if_false];exact h0
 ·simp only [r05_stmt.f,if_neg h4]
  refine Ev.step ?_
  simp only [r05_stmt.j0,Bool.false_eq_true,if_false,h4,false_and]
  exact h0
theorem b3Z (nm:ByteArray):∀ (l:List S32) (i j:Nat) (h:j < l.length),(l[j].f0.toList == nm.toList) = true→firstIx nm l i≤((i + j:Nat):Int):=by
 intro l
 induction l with
 | nil =>intro i j h;simp at h
 | cons f r ih =>
  intro i j h he
  unfold firstIx
  split
  ·omega
  ·next hn =>
   cases j with
   | zero =>exact absurd he hn
   | succ j =>
    have:=ih (i + 1) j (by simpa using h) (by simpa using he)
    omega
theorem funIx_le (fs:List S32) (i:Nat) (h:i < fs.length):funIx fs (a0P fs (i:Int)).f0≤(i:Int):=by
 have e:a0P fs (i:Int) = fs[i]:=by unfold a0P;rw [Int.toNat_natCast,List.getD_eq_getElem?_getD,List.getElem?_eq_getElem h];rfl
 rw [e]
 have:=b3Z fs[i].f0 fs 0 i h (by simp)
 unfold funIx;omega
theorem check_l1 (fs:List S32) (hf:fs.length≤1050000) (i:Nat) (hi:i≤1050000) (L:List S46) (hL:L.length≤2000000) (hs:∀ s,s ∈ L→FitS s) (b:Int × Int) (hb:Ev (fun k =>r05_Check.l0 k ((i + 1:Nat):Int) fs) b) :
  ∀ m j:Nat,j + m = L.length→Ev (fun k =>r05_Check.l1 k (i:Int) L (j:Int) fs) (match faultIn fs i (L.drop j) j with | some p =>p | none =>b):=by
 have hwi:=pz i hi
 intro m
 induction m with
 | zero =>
  intro j hj
  have hje:j = L.length:=hj
  have hnl:¬ ((j:Int) < (L.length:Int)):=by rw [hje];exact Int.lt_irrefl _
  refine Ev.step ?_
  simp only [r05_Check.l1,if_neg hnl,hwi]
  rw [hje,List.drop_of_length_le (Nat.le_refl _)]
  exact hb
 | succ m ih =>
  intro j hj
  have hjl:j < L.length:=by omega
  have d1:(0:Int)≤(j:Int):=Int.natCast_nonneg j
  have d2:(j:Int) < (L.length:Int):=Int.ofNat_lt.2 hjl
  have hw:=pzL j (Nat.le_trans (Nat.le_of_lt hjl) (Nat.le_trans hL (by decide)))
  have hd:=b1Z L j hjl
  have hmem:a0J L (j:Int) ∈ L:=by
   have:a0J L (j:Int) ∈ L.drop j:=by rw [hd];exact List.mem_cons_self
   exact List.mem_of_mem_drop this
  have hat:wrap64 ((wrap64 ((wrap64 (10000 * (i:Int))) + (j:Int))) + 1) = (i:Int) * 10000 + ((j + 1:Nat):Int):=by
   have h1:(i:Int)≤1050000:=Int.ofNat_le.2 hi
   have h2:(j:Int)≤2000000:=Int.ofNat_le.2 (Nat.le_trans (Nat.le_of_lt hjl) hL)
   simp only [wrap64];omega
  refine Ev.step ?_
  simp only [r05_Check.l1,if_pos d1,if_pos d2,hw,hat]
  refine Ev.bind (stmt_ev fs hf _ (hs _ hmem)) ?_
  rw [hd]
  simp only [faultIn]
  by_cases h0:stmtB fs (a0J L (j:Int)) = 0
  ·simp only [if_pos h0];exact ih (j + 1) (by omega)
  ·simp only [if_neg h0];exact Ev.const _
theorem b0F (fs:List S32) (hfit:FitC fs) (hlow:∀ f,f ∈ fs→Low f.f2):Ev (fun k =>r05_Check.f k fs) (checkF fs):=by
 have hf2:fs.length≤2000000:=Nat.le_trans hfit.1 (by decide)
 suffices h:∀ m i:Nat,i + m = fs.length→Ev (fun k =>r05_Check.l0 k (i:Int) fs) (checkRest fs (fs.drop i) i) by
  have:=h fs.length 0 (by omega)
  simpa [r05_Check.f,checkF] using this
 intro m
 induction m with
 | zero =>
  intro i hi
  have hie:i = fs.length:=hi
  have hnl:¬ ((i:Int) < (fs.length:Int)):=by rw [hie];exact Int.lt_irrefl _
  refine Ev.step ?_
  simp only [r05_Check.l0,if_neg hnl]
  rw [hie,List.drop_of_length_le (Nat.le_refl _)]
  show Ev _ (mainB fs)
  refine Ev.bind (a9H fs hf2 _) ?_
  unfold mainB
  by_cases h0:funIx fs (⟨#[109,97,105,110]⟩:ByteArray) < 0
  ·simp only [if_pos h0];exact Ev.const _
  ·have c1:0≤funIx fs (⟨#[109,97,105,110]⟩:ByteArray):=Int.not_lt.1 h0
   simp only [if_neg h0,if_pos c1,if_pos (a8C fs _)]
   by_cases he:0 < (a0P fs (funIx fs (⟨#[109,97,105,110]⟩:ByteArray))).f1.length
   ·have he2:((a0P fs (funIx fs (⟨#[109,97,105,110]⟩:ByteArray))).f1.length:Int) > 0:=Int.ofNat_lt.2 he
    simp only [if_pos he,if_pos he2];exact Ev.const _
   ·have he2:¬ ((a0P fs (funIx fs (⟨#[109,97,105,110]⟩:ByteArray))).f1.length:Int) > 0:=fun e =>he (Int.ofNat_lt.1 e)
    simp only [if_neg he,if_neg he2];exact Ev.const _
 | succ m ih =>
  intro i hi
  have hil:i < fs.length:=by omega
  have c1:(0:Int)≤(i:Int):=Int.natCast_nonneg i
  have c2:(i:Int) < (fs.length:Int):=Int.ofNat_lt.2 hil
  have hi6:i≤1050000:=Nat.le_trans (Nat.le_of_lt hil) hfit.1
  have hd:=a7H fs i hil
  have hmem:=a9S hil
  have hfn:=hfit.2 _ hmem
  have hn:=ih (i + 1) (by omega)
  have hle:=funIx_le fs i hil
  have hm:wrap64 (10000 * (i:Int)) = (i:Int) * 10000:=by rw [Int.mul_comm];exact mul_z i hi6
  refine Ev.step ?_
  simp only [r05_Check.l0,if_pos c1,if_pos c2]
  rw [hd]
  show Ev _ (match checkAt fs (a0P fs (i:Int)) i with | some p =>p | none =>checkRest fs (fs.drop (i + 1)) (i + 1))
  refine Ev.bind (a9H fs hf2 _) ?_
  unfold checkAt
  by_cases h0:funIx fs (a0P fs (i:Int)).f0 < (i:Int)
  ·have hne:(funIx fs (a0P fs (i:Int)).f0 != (i:Int)) = true:=by simp;omega
   simp only [if_pos h0,hne,Bool.true_or,if_true]
   refine Ev.step ?_
   simp only [r05_Check.j1,if_true,hm]
   exact Ev.const _
  ·have hne:(funIx fs (a0P fs (i:Int)).f0 != (i:Int)) = false:=by simp;omega
   simp only [if_neg h0,hne,Bool.false_or]
   refine Ev.bind (b2V _ hfn.1) (Ev.step ?_)
   cases ht:twiceB (a0P fs (i:Int)).f1 with
   | true =>simp only [r05_Check.j1,if_true,hm];exact Ev.const _
   | false =>
    simp only [r05_Check.j1,Bool.false_eq_true,if_false]
    refine Ev.bind (b2E _ _ (Nat.lt_succ_self _) (hlow _ hmem) hfn.2.2.1) ?_
    have:=check_l1 fs hfit.1 i hi6 (flat (a0P fs (i:Int)).f2) hfn.2.2.1 hfn.2.2.2 _ hn (flat (a0P fs (i:Int)).f2).length 0 (by omega)
    simpa using this
open Go.RowKit Go.Proofs.Ytjiacafeckokeaa.Pr Go.Proofs.YtjiacafeckokeaaW.PrintWords
def propR (s:S46):List ByteArray:=(if s.f0 = 2∨s.f0 = 3 then [s.f3] else []) ++ s.f5
def CapC:Nat:=8000000000000
theorem props_l2 (fs:List S32) (i:Nat) (L:List S46) (j:Nat) (hj:j < L.length) (hj2:j≤2000000) (h5:(a0J L (j:Int)).f5.length≤1050000) (rest:List ByteArray)
  (hn:∀ acc:List ByteArray,acc.length + rest.length≤CapC→Ev (fun k =>r05_Props.l1 k acc (i:Int) L ((j + 1:Nat):Int) fs) (rest.foldl withN acc)) :
  ∀ (m t:Nat) (acc:List ByteArray),t + m = (a0J L (j:Int)).f5.length→acc.length + ((a0J L (j:Int)).f5.drop t ++ rest).length≤CapC →
   Ev (fun k =>r05_Props.l2 k acc (i:Int) L (j:Int) (t:Int) fs) (((a0J L (j:Int)).f5.drop t ++ rest).foldl withN acc):=by
 have c1:(0:Int)≤(j:Int):=Int.natCast_nonneg j
 have c2:(j:Int) < (L.length:Int):=Int.ofNat_lt.2 hj
 have hwj:=pzL j (Nat.le_trans hj2 (by decide))
 intro m
 induction m with
 | zero =>
  intro t acc ht ha
  have hte:t = (a0J L (j:Int)).f5.length:=ht
  have hnl:¬ ((t:Int) < ((a0J L (j:Int)).f5.length:Int)):=by rw [hte];exact Int.lt_irrefl _
  rw [hte,List.drop_of_length_le (Nat.le_refl _)] at ha
  refine Ev.step ?_
  simp only [r05_Props.l2,if_pos c1,if_pos c2,if_neg hnl,hwj]
  rw [hte,List.drop_of_length_le (Nat.le_refl _)]
  exact hn acc ha
 | succ m ih =>
  intro t acc ht ha
  have htl:t < (a0J L (j:Int)).f5.length:=by omega
  have d1:(0:Int)≤(t:Int):=Int.natCast_nonneg t
  have d2:(t:Int) < ((a0J L (j:Int)).f5.length:Int):=Int.ofNat_lt.2 htl
  have hw:=pz t (Nat.le_trans (Nat.le_of_lt htl) h5)
  obtain ⟨hd,_⟩:=a7G _ t htl
  rw [hd,List.cons_append] at ha ⊢
  rw [List.length_cons] at ha
  refine Ev.step ?_
  simp only [r05_Props.l2,if_pos c1,if_pos c2,if_pos d1,if_pos d2,hw,List.foldl_cons]
  have hwl:=a5H acc (rdOf ByteArray.empty (a0J L (j:Int)).f5 (t:Int))
  exact a5G (Nat.le_trans (Nat.le_add_right _ _) ha) (ih (t + 1) _ (by omega) (Nat.le_trans (Nat.add_le_add_right hwl _) (Nat.le_trans (Nat.le_of_eq (by rw [Nat.add_assoc,Nat.add_comm 1])) ha)))
theorem props_l1 (fs:List S32) (i:Nat) (hi:i≤1050000) (L:List S46) (hL:L.length≤2000000) (h5:∀ s,s ∈ L→s.f5.length≤1050000) (rest:List ByteArray)
  (hn:∀ acc:List ByteArray,acc.length + rest.length≤CapC→Ev (fun k =>r05_Props.l0 k acc ((i + 1:Nat):Int) fs) (rest.foldl withN acc)) :
  ∀ (m j:Nat) (acc:List ByteArray),j + m = L.length→acc.length + ((L.drop j).flatMap propR ++ rest).length≤CapC →
   Ev (fun k =>r05_Props.l1 k acc (i:Int) L (j:Int) fs) (((L.drop j).flatMap propR ++ rest).foldl withN acc):=by
 have hwi:=pz i hi
 intro m
 induction m with
 | zero =>
  intro j acc hj ha
  have hje:j = L.length:=hj
  have hnl:¬ ((j:Int) < (L.length:Int)):=by rw [hje];exact Int.lt_irrefl _
  rw [hje,List.drop_of_length_le (Nat.le_refl _)] at ha
  refine Ev.step ?_
  simp only [r05_Props.l1,if_neg hnl,hwi]
  rw [hje,List.drop_of_length_le (Nat.le_refl _)]
  exact hn acc (by simpa using ha)
 | succ m ih =>
  intro j acc hj ha
  have hjl:j < L.length:=by omega
  have c1:(0:Int)≤(j:Int):=Int.natCast_nonneg j
  have c2:(j:Int) < (L.length:Int):=Int.ofNat_lt.2 hjl
  have hd:=b1Z L j hjl
  have hmem:a0J L (j:Int) ∈ L:=by
   have:a0J L (j:Int) ∈ L.drop j:=by rw [hd];exact List.mem_cons_self
   exact List.mem_of_mem_drop this
  have hnext:=props_l2 fs i L j hjl (Nat.le_trans (Nat.le_of_lt hjl) hL) (h5 _ hmem) ((L.drop (j + 1)).flatMap propR ++ rest) (fun acc' ha' =>ih (j + 1) acc' (by omega) ha') (a0J L (j:Int)).f5.length 0
  rw [hd,List.flatMap_cons,List.append_assoc] at ha ⊢
  have key:∀ b:Bool,b = decide ((a0J L (j:Int)).f0 = 2∨(a0J L (j:Int)).f0 = 3)→Ev (fun k =>r05_Props.j2 k acc (i:Int) L (j:Int) b fs) ((propR (a0J L (j:Int)) ++ ((L.drop (j + 1)).flatMap propR ++ rest)).foldl withN acc):=by
   intro b hb
   refine Ev.step ?_
   by_cases h:(a0J L (j:Int)).f0 = 2∨(a0J L (j:Int)).f0 = 3
   ·have hbt:b = true:=by rw [hb];exact decide_eq_true h
    have e:propR (a0J L (j:Int)) = (a0J L (j:Int)).f3 :: (a0J L (j:Int)).f5:=by unfold propR;rw [if_pos h];rfl
    rw [e] at ha ⊢
    rw [List.cons_append,List.length_cons] at ha
    simp only [r05_Props.j2,hbt,if_true,if_pos c1,if_pos c2,List.cons_append,List.foldl_cons]
    refine a5G (Nat.le_trans (Nat.le_add_right _ _) ha) (Ev.step ?_)
    simp only [r05_Props.j3]
    have:=hnext (withN acc (a0J L (j:Int)).f3) (by omega) (by rw [List.drop_zero];exact Nat.le_trans (Nat.add_le_add_right (a5H _ _) _) (Nat.le_trans (Nat.le_of_eq (by rw [Nat.add_assoc,Nat.add_comm 1])) ha))
    simpa using this
   ·have hbf:b = false:=by rw [hb];exact decide_eq_false h
    have e:propR (a0J L (j:Int)) = (a0J L (j:Int)).f5:=by unfold propR;rw [if_neg h];rfl
    rw [e] at ha ⊢
    simp only [r05_Props.j2,hbf,Bool.false_eq_true,if_false]
    refine Ev.step ?_
    simp only [r05_Props.j3]
    have:=hnext acc (by omega) (by rw [List.drop_zero];exact ha)
    simpa using this
  refine Ev.step ?_
  simp only [r05_Props.l1,if_pos c1,if_pos c2]
  by_cases h2:(a0J L (j:Int)).f0 = 2
  ·simp only [if_pos h2];exact key true (by simp [h2])
  ·simp only [if_neg h2]
   refine key _ ?_
   by_cases h3:(a0J L (j:Int)).f0 = 3 <;> simp [h2,h3]
theorem b2Z (fs:List S32) (hfit:FitW fs) (hlow:∀ f,f ∈ fs→Low f.f2):Ev (fun k =>r05_Props.f k fs) (propsF fs):=by
 have hmemR:∀ (L:List S46) (y:Nm),y ∈ (L.flatMap propG).map (·.data.toList) ↔ y ∈ (L.flatMap propR).map (·.data.toList):=by
  intro L y
  simp only [List.mem_map,List.mem_flatMap,propG,propR,List.mem_append]
  constructor
  ·rintro ⟨b,⟨s,hs,h⟩,e⟩;exact ⟨b,⟨s,hs,h.symm⟩,e⟩
  ·rintro ⟨b,⟨s,hs,h⟩,e⟩;exact ⟨b,⟨s,hs,h.symm⟩,e⟩
 have e:propsF fs = ((fs.flatMap flatF).flatMap propR).foldl withN []:=by
  rw [b1M];unfold propsF uniqB;rw [b4Q _ _ (hmemR _)]
 have hcap:((fs.flatMap flatF).flatMap propR).length≤2000000 * 1050001:=by
  refine Nat.le_trans (a7E propR 1050001 (fs.flatMap flatF) fun s hs =>?_) (Nat.mul_le_mul_right _ hfit.2)
  have:=a8F hfit.1 fs.length s (by rw [List.take_length];exact hs)
  unfold propG at this;unfold propR
  rw [List.length_append] at this ⊢
  omega
 rw [e]
 suffices h:∀ (m i:Nat) (acc:List ByteArray),i + m = fs.length→acc.length + (((fs.drop i).flatMap flatF).flatMap propR).length≤CapC→Ev (fun k =>r05_Props.l0 k acc (i:Int) fs) ((((fs.drop i).flatMap flatF).flatMap propR).foldl withN acc) by
  have:=h fs.length 0 [] (by omega) (by rw [List.drop_zero];exact Nat.le_trans (Nat.le_of_eq (Nat.zero_add _)) (Nat.le_trans hcap (by decide)))
  simpa [r05_Props.f] using this
 intro m
 induction m with
 | zero =>
  intro i acc hi ha
  have hie:i = fs.length:=hi
  have hnl:¬ ((i:Int) < (fs.length:Int)):=by rw [hie];exact Int.lt_irrefl _
  refine Ev.step ?_
  simp only [r05_Props.l0,if_neg hnl]
  rw [hie,List.drop_of_length_le (Nat.le_refl _)]
  exact Ev.const acc
 | succ m ih =>
  intro i acc hi ha
  have hil:i < fs.length:=by omega
  have c1:(0:Int)≤(i:Int):=Int.natCast_nonneg i
  have c2:(i:Int) < (fs.length:Int):=Int.ofNat_lt.2 hil
  have hd:=a7H fs i hil
  have hmem:=a9S hil
  have hfn:=hfit.1.2 _ hmem
  rw [hd,List.flatMap_cons,List.flatMap_append] at ha ⊢
  refine Ev.step ?_
  simp only [r05_Props.l0,if_pos c1,if_pos c2]
  refine Ev.bind (b2E _ _ (Nat.lt_succ_self _) (hlow _ hmem) hfn.2.2.1) ?_
  have:=props_l1 fs i (Nat.le_trans (Nat.le_of_lt hil) hfit.1.1) (flat (a0P fs (i:Int)).f2) hfn.2.2.1 (fun s hs =>(hfn.2.2.2 s hs).2.1) (((fs.drop (i + 1)).flatMap flatF).flatMap propR) (fun acc' ha' =>ih (i + 1) acc' (by omega) ha') (flat (a0P fs (i:Int)).f2).length 0 acc (by omega) (by rw [List.drop_zero];exact ha)
  simpa [flatF] using this
open Go.RowKit Go.Proofs.Ytjiacafeckokeaa.Pr Go.Proofs.YtjiacafeckokeaaW.PrintWords
attribute [local go_sem] Oper.semAt_some
attribute [local go_sem high] eqA35
theorem sizePR:(Try.prog.info? 24).map (·.size) = some 1:=by kernel_rfl
theorem sizeFT:(Try.prog.info? 35).map (·.size) = some 2:=by kernel_rfl
theorem p05a_lay (w:World):Calls Try.prog 24 #[.string a4I] w fun x w' =>∃ A c,x = .returned (.tuple #[.agg #[.slice A 1 c],.agg #[.int .i64 0,.int .i64 0]])∧1≤c∧Kd.F k32 w' (fun k =>w.heap.size≤k) A 1 a2W∧Below w.heap.size w w' :=
 (b3T w).mono fun e w' ⟨v,he,hR,hb⟩ =>by
  obtain ⟨A,c,rfl,h1,h2⟩:=hR.tell
  exact ⟨A,c,he,h1,h2,hb⟩
theorem a9V:FitP a2W 1000∧(a2W.flatMap fun f =>flat f.f2).length≤1000:=by
 simp [FitP,FitF,Fit,a2W,flat]
 try decide
theorem b1G:FitW a2W:=b2G (by decide) a9V.1 a9V.2
theorem p05a_low:LowP a2W:=b2D a9V.1 (by decide)
theorem p05a_lw:∀ f,f ∈ a2W→Low f.f2:=fun f hf =>(p05a_low.2 f hf).2.2
theorem p05b_lay (w:World):Calls Try.prog 24 #[.string a2U] w fun x w' =>∃ A c,x = .returned (.tuple #[.agg #[.slice A 2 c],.agg #[.int .i64 0,.int .i64 0]])∧2≤c∧Kd.F k32 w' (fun k =>w.heap.size≤k) A 2 a1Q∧Below w.heap.size w w' :=
 (b3S w).mono fun e w' ⟨v,he,hR,hb⟩ =>by
  obtain ⟨A,c,rfl,h1,h2⟩:=hR.tell
  exact ⟨A,c,he,h1,h2,hb⟩
theorem a9U:FitP a1Q 1000∧(a1Q.flatMap fun f =>flat f.f2).length≤1000:=by
 simp [FitP,FitF,Fit,a1Q,flat]
 try decide
theorem a5K:FitW a1Q:=b2G (by decide) a9U.1 a9U.2
theorem p05b_low:LowP a1Q:=b2D a9U.1 (by decide)
theorem b2B:∀ f,f ∈ a1Q→Low f.f2:=fun f hf =>(p05b_low.2 f hf).2.2
theorem chk_a_is:checkF a2W = ((51,1):Int × Int):=by
 obtain ⟨K,hK⟩:=b0F _ b1G.1 p05a_lw
 have h1:=hK (max K 80) (Nat.le_max_left _ _)
 have h2:r05_Check.f 80 a2W = some (((51,1):Int × Int)):=by kernel_rfl
 have h3:=a5O (g:=fun k =>r05_Check.f k a2W) (fun k =>r05_Check.mono _ k) (Nat.le_max_right K 80) h2
 exact Option.some.inj (h1.symm.trans h3)
theorem chk_b_is:checkF a1Q = ((0,0):Int × Int):=by
 obtain ⟨K,hK⟩:=b0F _ a5K.1 b2B
 have h1:=hK (max K 80) (Nat.le_max_left _ _)
 have h2:r05_Check.f 80 a1Q = some (((0,0):Int × Int)):=by kernel_rfl
 have h3:=a5O (g:=fun k =>r05_Check.f k a1Q) (fun k =>r05_Check.mono _ k) (Nat.le_max_right K 80) h2
 exact Option.some.inj (h1.symm.trans h3)
theorem fun_b_is:funIx a1Q (⟨#[103]⟩:ByteArray) = (1:Int):=by
 obtain ⟨K,hK⟩:=a9H a1Q (by decide) (⟨#[103]⟩:ByteArray)
 have h1:=hK (max K 80) (Nat.le_max_left _ _)
 have h2:r05_Fun.f 80 a1Q (⟨#[103]⟩:ByteArray) = some ((1:Int)):=by kernel_rfl
 have h3:=a5O (g:=fun k =>r05_Fun.f k a1Q (⟨#[103]⟩:ByteArray)) (fun k =>r05_Fun.mono _ _ k) (Nat.le_max_right K 80) h2
 exact Option.some.inj (h1.symm.trans h3)
theorem b3Q:propsF a1Q = [(⟨#[112]⟩:ByteArray),(⟨#[113]⟩:ByteArray)]:=by
 obtain ⟨K,hK⟩:=b2Z _ a5K b2B
 have h1:=hK (max K 80) (Nat.le_max_left _ _)
 have h2:r05_Props.f 80 a1Q = some ([(⟨#[112]⟩:ByteArray),(⟨#[113]⟩:ByteArray)]):=by kernel_rfl
 have h3:=a5O (g:=fun k =>r05_Props.f k a1Q) (fun k =>r05_Props.mono _ k) (Nat.le_max_right K 80) h2
 exact Option.some.inj (h1.symm.trans h3)
theorem b5W:(a0P a1Q 0) ∈ a1Q:=List.mem_cons_self
theorem b4L:varsF (a0P a1Q 0) = [(⟨#[120]⟩:ByteArray),(⟨#[121]⟩:ByteArray)]:=by
 obtain ⟨K,hK⟩:=b4K (a0P a1Q 0) (a5K.1.2 _ b5W) (b2B _ b5W)
 have h1:=hK (max K 80) (Nat.le_max_left _ _)
 have h2:r05_Vars.f 80 (a0P a1Q 0).f0 (a0P a1Q 0).f1 (a0P a1Q 0).f2 = some ([(⟨#[120]⟩:ByteArray),(⟨#[121]⟩:ByteArray)]):=by kernel_rfl
 have h3:=a5O (g:=fun k =>r05_Vars.f k (a0P a1Q 0).f0 (a0P a1Q 0).f1 (a0P a1Q 0).f2) (fun k =>r05_Vars.mono _ _ _ k) (Nat.le_max_right K 80) h2
 exact Option.some.inj (h1.symm.trans h3)
theorem chk_a (A:Option Addr) (c:Nat) (w:World) (hc:1≤c) (hC:Kd.C k32 w A 1 a2W):Calls Try.prog 13 #[.agg #[.slice A 1 c]] w fun e w' =>e = .returned (.agg #[.int .i64 51,.int .i64 1])∧Below w.heap.size w w':=by
 have h:=a7I w a2W A c hc hC b1G.1
 rw [chk_a_is] at h
 exact h
theorem chk_b (A:Option Addr) (c:Nat) (w:World) (hc:2≤c) (hC:Kd.C k32 w A 2 a1Q):Calls Try.prog 13 #[.agg #[.slice A 2 c]] w fun e w' =>e = .returned (.agg #[.int .i64 0,.int .i64 0])∧Below w.heap.size w w':=by
 have h:=a7I w a1Q A c hc hC a5K.1
 rw [chk_b_is] at h
 exact h
theorem chk_0 (w:World):Calls Try.prog 13 #[.agg #[.slice none 0 0]] w fun e w' =>e = .returned (.agg #[.int .i64 53,.int .i64 (-1)])∧Below w.heap.size w w':=by
 have h:=a7I w [] none 0 (Nat.le_refl 0) (Kd.C_nil _ w) ⟨by decide,fun _ h =>by cases h⟩
 rw [show checkF [] = ((53,-1):Int × Int) from by decide] at h
 exact h
theorem fun_b (A:Option Addr) (c:Nat) (w:World) (hc:2≤c) (hC:Kd.C k32 w A 2 a1Q):Calls Try.prog 15 #[.agg #[.slice A 2 c],.string (⟨#[103]⟩:ByteArray)] w fun e w' =>e = .returned (.int .i64 1)∧Below w.heap.size w w':=by
 have h:=a4Y a1Q A c (⟨#[103]⟩:ByteArray) w hc hC (by decide)
 rw [fun_b_is] at h
 exact h
theorem b1H {w w':World} {v:Value} {l:List ByteArray} (h:w'.ownsRow w.heap.size 9 1 v l.length (l.map Value.string)):∃ A c,v = .slice A l.length c∧l.length≤c∧Kd.C Kd.string w' A l.length l :=
 Kd.b0J (ok:=fun _ =>True) (Kd.b0K h (fun _ _ =>trivial))
theorem vars_b (A1 A2:Option Addr) (c1 c2:Nat) (w:World) (l1:(a0P a1Q 0).f1.length≤c1) (g1:Kd.C Kd.string w A1 (a0P a1Q 0).f1.length (a0P a1Q 0).f1) (l2:(a0P a1Q 0).f2.length≤c2) (g2:Kd.C k46 w A2 (a0P a1Q 0).f2.length (a0P a1Q 0).f2) :
  Calls Try.prog 11 #[.agg #[.string (a0P a1Q 0).f0,.slice A1 (a0P a1Q 0).f1.length c1,.slice A2 (a0P a1Q 0).f2.length c2]] w fun e w' =>∃ A c,e = .returned (.slice A 2 c)∧2≤c∧Kd.C Kd.string w' A 2 [(⟨#[120]⟩:ByteArray),(⟨#[121]⟩:ByteArray)]∧Below w.heap.size w w':=by
 refine (b2T w (a0P a1Q 0) A1 A2 c1 c2 l1 g1 l2 g2 (a5K.1.2 _ b5W)).mono ?_
 rintro e w' ⟨v,rfl,ho,hb⟩
 rw [b4L] at ho
 obtain ⟨A,c,rfl,h1,h2⟩:=b1H ho
 exact ⟨A,c,rfl,h1,h2,hb⟩
theorem props_b (A:Option Addr) (c:Nat) (w:World) (hc:2≤c) (hC:Kd.C k32 w A 2 a1Q):Calls Try.prog 17 #[.agg #[.slice A 2 c]] w fun e w' =>∃ A c,e = .returned (.slice A 2 c)∧2≤c∧Kd.C Kd.string w' A 2 [(⟨#[112]⟩:ByteArray),(⟨#[113]⟩:ByteArray)]∧Below w.heap.size w w':=by
 refine (b1E w a1Q A c hc hC a5K).mono ?_
 rintro e w' ⟨v,rfl,ho,hb⟩
 rw [b3Q] at ho
 obtain ⟨A,c,rfl,h1,h2⟩:=b1H ho
 exact ⟨A,c,rfl,h1,h2,hb⟩
theorem addr0 (a:Addr):a.add 0 = a:=by
 unfold Addr.add
 simp
theorem lit2 {w:World} {g:Nat} {a b:ByteArray} (h:w.heap[g]? = some (.cells #[.string a,.string b] 9 (0,0))):Kd.C Kd.string w (some ⟨g,0,none⟩) 2 [a,b]:=by
 refine Kd.a9N (d:=ByteArray.empty) ⟨rfl,by decide,fun _ =>⟨_,rfl,fun j hj =>?_⟩⟩
 rw [b0I,Nat.zero_add,a0G h j]
 match j,hj with
 | 0,_ =>rfl
 | 1,_ =>rfl
set_option maxRecDepth 100000 in
set_option maxHeartbeats 16000000 in
theorem b5U (w:World):Calls Try.prog 9 #[] w fun e w' =>e = .returned (.bool true)∧Below w.heap.size w w':=by
 have HB:=Lib.hid (Below.refl w.heap.size w)
 have hu35:=Try.underlying35
 go_enter Try.func9,Try.ntmps9
 go_wp2_with (first
  | (go_at_call 24;(with_reducible refine (a2X (args':=#[.string a4I]) ?hs (p05a_lay _)).mono ?_);(case hs =>rfl);rintro x w1 ⟨AP,cP,rfl,hcc,hF,hb⟩;have HB:=Lib.hid (a0H HB.out hb);obtain ⟨loP,hlo⟩:∃ lo,lo = w1.heap.size:=⟨_,rfl⟩;have FP:=Lib.hid (Kd.a2T (ok':=fun k =>k < loP) (Kd.a4O hF) (fun k hk =>by rw [hlo];exact hk.2));have HLOP:=Lib.hid (show loP≤w1.heap.size by rw [hlo];exact Nat.le_refl _);have HCP:=Lib.hid hcc;clear hcc hF hlo;clear hb)
  | ((with_reducible refine a1C (N:=1) rfl ?_);refine a1A ?hg (N:=1) ?hd (cs:=#[.slice none 0 0]) (t:=24) ?hr ?_;(case hd =>rfl);(case hg =>rfl);(case hr =>first | (go_simp;done) | (go_simp;rfl));intro g1 hg w1 hx hb;have G1:=Lib.hid (show w.heap.size≤g1 by rw [hg];exact HB.out.size);have UP_1:=Lib.hid (show loP≤g1 by rw [hg];exact HLOP.out);have FP:=Lib.hid (Kd.a1W FP.out hb);have HLOP:=Lib.hid (Nat.le_trans HLOP.out hb.size);have HB:=Lib.hid (a0H HB.out hb);have B1:=Lib.hid (One.mk hx);clear hx hb hg;have k1:=And.intro B1.out.c B1.out.f)
  | ((with_reducible refine a1C (N:=2) rfl ?_);refine a1A ?hg (N:=2) ?hd (cs:=#[.int .i64 0,.int .i64 0]) (t:=35) ?hr ?_;(case hd =>rfl);(case hg =>rfl);(case hr =>first | (go_simp;done) | (go_simp;rfl));intro g2 hg w1 hx hb;clear k1;have mA:=Lib.hid (a0O B1.out.b hg);have G2:=Lib.hid (show w.heap.size≤g2 by rw [hg];exact HB.out.size);have UP_2:=Lib.hid (show loP≤g2 by rw [hg];exact HLOP.out);have FP:=Lib.hid (Kd.a1W FP.out hb);have HLOP:=Lib.hid (Nat.le_trans HLOP.out hb.size);have B1:=Lib.hid (B1.out.below hb);have HB:=Lib.hid (a0H HB.out hb);have B2:=Lib.hid (Two.mk hx);clear hx hb hg;have k1:=And.intro B1.out.c B1.out.f;have k2:=And.intro B2.out.c B2.out.f)
  | ((with_reducible refine a1D (t:=24) (p:=1) rfl ?_);refine a1L rfl rfl rfl [.slice AP 1 cP] B1.out.b rfl ?hv sizePR rfl ?h1 ?_;(case hv =>rfl);(case h1 =>(intro q hq;simp only [List.mem_cons,List.not_mem_nil,or_false] at hq;rcases hq with rfl <;> rfl));intro w1 hx hp;clear k1;clear k2;have B2:=Lib.hid (B2.out.far' hp (Ne.symm mA.out));have FP:=Lib.hid (a2F FP.out hp (Nat.not_lt.2 UP_1.out));have HB:=Lib.hid (hp.below _ G1.out HB.out);have B1:=Lib.hid (One.mk hx);clear hx hp;have k1:=And.intro B1.out.c B1.out.f;have k2:=And.intro B2.out.c B2.out.f)
  | ((with_reducible refine a1D (t:=35) (p:=2) rfl ?_);refine a1L rfl rfl rfl [.int .i64 0,.int .i64 0] B2.out.b rfl ?hv sizeFT rfl ?h1 ?_;(case hv =>rfl);(case h1 =>(intro q hq;simp only [List.mem_cons,List.not_mem_nil,or_false] at hq;rcases hq with rfl | rfl <;> rfl));intro w1 hx hp;clear k1;clear k2;have B1:=Lib.hid (B1.out.far' hp (mA.out));have FP:=Lib.hid (a2F FP.out hp (Nat.not_lt.2 UP_2.out));have HB:=Lib.hid (hp.below _ G2.out HB.out);have B2:=Lib.hid (Two.mk hx);clear hx hp;have k1:=And.intro B1.out.c B1.out.f;have k2:=And.intro B2.out.c B2.out.f)
  | (go_at_call 24;(with_reducible refine (a2X (args':=#[.string a2U]) ?hs (p05b_lay _)).mono ?_);(case hs =>rfl);rintro x w1 ⟨AQ,cQ,rfl,hcc,hF,hb⟩;clear k1;clear k2;have FP:=Lib.hid (Kd.a1W FP.out hb);have B1:=Lib.hid (B1.out.below hb);have B2:=Lib.hid (B2.out.below hb);have HB:=Lib.hid (a0H HB.out hb);obtain ⟨loQ,hlo⟩:∃ lo,lo = w1.heap.size:=⟨_,rfl⟩;have FQ:=Lib.hid (Kd.a2T (ok':=fun k =>k < loQ) (Kd.a4O hF) (fun k hk =>by rw [hlo];exact hk.2));have HLOQ:=Lib.hid (show loQ≤w1.heap.size by rw [hlo];exact Nat.le_refl _);have HCQ:=Lib.hid hcc;clear hcc hF hlo;clear hb;have k1:=And.intro B1.out.c B1.out.f;have k2:=And.intro B2.out.c B2.out.f)
  | ((with_reducible refine a1C (N:=3) rfl ?_);refine a1A ?hg (N:=3) ?hd (cs:=#[.slice none 0 0]) (t:=24) ?hr ?_;(case hd =>rfl);(case hg =>rfl);(case hr =>first | (go_simp;done) | (go_simp;rfl));intro g3 hg w1 hx hb;clear k1;clear k2;have rD:=Lib.hid (a0O B1.out.b hg);have rE:=Lib.hid (a0O B2.out.b hg);have G3:=Lib.hid (show w.heap.size≤g3 by rw [hg];exact HB.out.size);have UP_3:=Lib.hid (show loP≤g3 by rw [hg];exact Nat.le_trans UP_2.out (Nat.le_of_lt (a2B B2.out.b)));have UQ_3:=Lib.hid (show loQ≤g3 by rw [hg];exact HLOQ.out);have FP:=Lib.hid (Kd.a1W FP.out hb);have B1:=Lib.hid (B1.out.below hb);have B2:=Lib.hid (B2.out.below hb);have FQ:=Lib.hid (Kd.a1W FQ.out hb);have HLOQ:=Lib.hid (Nat.le_trans HLOQ.out hb.size);have HB:=Lib.hid (a0H HB.out hb);have B3:=Lib.hid (One.mk hx);clear hx hb hg;have k1:=And.intro B1.out.c B1.out.f;have k2:=And.intro B2.out.c B2.out.f;have k3:=And.intro B3.out.c B3.out.f)
  | ((with_reducible refine a1C (N:=4) rfl ?_);refine a1A ?hg (N:=4) ?hd (cs:=#[.int .i64 0,.int .i64 0]) (t:=35) ?hr ?_;(case hd =>rfl);(case hg =>rfl);(case hr =>first | (go_simp;done) | (go_simp;rfl));intro g4 hg w1 hx hb;clear k1;clear k2;clear k3;have rF:=Lib.hid (a0O B1.out.b hg);have rG:=Lib.hid (a0O B2.out.b hg);have mB:=Lib.hid (a0O B3.out.b hg);have G4:=Lib.hid (show w.heap.size≤g4 by rw [hg];exact HB.out.size);have UP_4:=Lib.hid (show loP≤g4 by rw [hg];exact Nat.le_trans UP_3.out (Nat.le_of_lt (a2B B3.out.b)));have UQ_4:=Lib.hid (show loQ≤g4 by rw [hg];exact HLOQ.out);have FP:=Lib.hid (Kd.a1W FP.out hb);have B1:=Lib.hid (B1.out.below hb);have B2:=Lib.hid (B2.out.below hb);have FQ:=Lib.hid (Kd.a1W FQ.out hb);have HLOQ:=Lib.hid (Nat.le_trans HLOQ.out hb.size);have B3:=Lib.hid (B3.out.below hb);have HB:=Lib.hid (a0H HB.out hb);have B4:=Lib.hid (Two.mk hx);clear hx hb hg;have k1:=And.intro B1.out.c B1.out.f;have k2:=And.intro B2.out.c B2.out.f;have k3:=And.intro B3.out.c B3.out.f;have k4:=And.intro B4.out.c B4.out.f)
  | ((with_reducible refine a1D (t:=24) (p:=3) rfl ?_);refine a1L rfl rfl rfl [.slice AQ 2 cQ] B3.out.b rfl ?hv sizePR rfl ?h1 ?_;(case hv =>rfl);(case h1 =>(intro q hq;simp only [List.mem_cons,List.not_mem_nil,or_false] at hq;rcases hq with rfl <;> rfl));intro w1 hx hp;clear k1;clear k2;clear k3;clear k4;have B1:=Lib.hid (B1.out.far' hp (rD.out));have B2:=Lib.hid (B2.out.far' hp (rE.out));have B4:=Lib.hid (B4.out.far' hp (Ne.symm mB.out));have FP:=Lib.hid (a2F FP.out hp (Nat.not_lt.2 UP_3.out));have FQ:=Lib.hid (a2F FQ.out hp (Nat.not_lt.2 UQ_3.out));have HB:=Lib.hid (hp.below _ G3.out HB.out);have B3:=Lib.hid (One.mk hx);clear hx hp;have k1:=And.intro B1.out.c B1.out.f;have k2:=And.intro B2.out.c B2.out.f;have k3:=And.intro B3.out.c B3.out.f;have k4:=And.intro B4.out.c B4.out.f)
  | ((with_reducible refine a1D (t:=35) (p:=4) rfl ?_);refine a1L rfl rfl rfl [.int .i64 0,.int .i64 0] B4.out.b rfl ?hv sizeFT rfl ?h1 ?_;(case hv =>rfl);(case h1 =>(intro q hq;simp only [List.mem_cons,List.not_mem_nil,or_false] at hq;rcases hq with rfl | rfl <;> rfl));intro w1 hx hp;clear k1;clear k2;clear k3;clear k4;have B1:=Lib.hid (B1.out.far' hp (rF.out));have B2:=Lib.hid (B2.out.far' hp (rG.out));have B3:=Lib.hid (B3.out.far' hp (mB.out));have FP:=Lib.hid (a2F FP.out hp (Nat.not_lt.2 UP_4.out));have FQ:=Lib.hid (a2F FQ.out hp (Nat.not_lt.2 UQ_4.out));have HB:=Lib.hid (hp.below _ G4.out HB.out);have B4:=Lib.hid (Two.mk hx);clear hx hp;have k1:=And.intro B1.out.c B1.out.f;have k2:=And.intro B2.out.c B2.out.f;have k3:=And.intro B3.out.c B3.out.f;have k4:=And.intro B4.out.c B4.out.f)
  | (go_at_call 13;with_reducible refine (chk_a AP cP _ HCP.out (Kd.a8V FP.out)).mono ?_;rintro x w1 ⟨rfl,hb⟩;clear k1;clear k2;clear k3;clear k4;have FP:=Lib.hid (Kd.a1W FP.out hb);have B1:=Lib.hid (B1.out.below hb);have B2:=Lib.hid (B2.out.below hb);have FQ:=Lib.hid (Kd.a1W FQ.out hb);have B3:=Lib.hid (B3.out.below hb);have B4:=Lib.hid (B4.out.below hb);have HB:=Lib.hid (a0H HB.out hb);clear hb;have k1:=And.intro B1.out.c B1.out.f;have k2:=And.intro B2.out.c B2.out.f;have k3:=And.intro B3.out.c B3.out.f;have k4:=And.intro B4.out.c B4.out.f)
  | (go_at_call 13;with_reducible refine (chk_b AQ cQ _ HCQ.out (Kd.a8V FQ.out)).mono ?_;rintro x w1 ⟨rfl,hb⟩;clear k1;clear k2;clear k3;clear k4;have FP:=Lib.hid (Kd.a1W FP.out hb);have B1:=Lib.hid (B1.out.below hb);have B2:=Lib.hid (B2.out.below hb);have FQ:=Lib.hid (Kd.a1W FQ.out hb);have B3:=Lib.hid (B3.out.below hb);have B4:=Lib.hid (B4.out.below hb);have HB:=Lib.hid (a0H HB.out hb);clear hb;have k1:=And.intro B1.out.c B1.out.f;have k2:=And.intro B2.out.c B2.out.f;have k3:=And.intro B3.out.c B3.out.f;have k4:=And.intro B4.out.c B4.out.f)
  | (go_at_call 13;with_reducible refine (chk_0 _).mono ?_;rintro x w1 ⟨rfl,hb⟩;clear k1;clear k2;clear k3;clear k4;have FP:=Lib.hid (Kd.a1W FP.out hb);have B1:=Lib.hid (B1.out.below hb);have B2:=Lib.hid (B2.out.below hb);have FQ:=Lib.hid (Kd.a1W FQ.out hb);have B3:=Lib.hid (B3.out.below hb);have B4:=Lib.hid (B4.out.below hb);have HB:=Lib.hid (a0H HB.out hb);clear hb;have k1:=And.intro B1.out.c B1.out.f;have k2:=And.intro B2.out.c B2.out.f;have k3:=And.intro B3.out.c B3.out.f;have k4:=And.intro B4.out.c B4.out.f)
  | (go_at_call 15;with_reducible refine (a2X ?ha (fun_b AQ cQ _ HCQ.out (Kd.a8V FQ.out))).mono ?_;(case ha =>(simp;done));rintro x w1 ⟨rfl,hb⟩;clear k1;clear k2;clear k3;clear k4;have FP:=Lib.hid (Kd.a1W FP.out hb);have B1:=Lib.hid (B1.out.below hb);have B2:=Lib.hid (B2.out.below hb);have FQ:=Lib.hid (Kd.a1W FQ.out hb);have B3:=Lib.hid (B3.out.below hb);have B4:=Lib.hid (B4.out.below hb);have HB:=Lib.hid (a0H HB.out hb);((obtain ⟨ad,A1,c1,A2,c2,eA,x0,x1,x2,l1,g1,l2,g2⟩:=a3N (Kd.a8V FQ.out) 0 (by decide) (by decide);subst eA;simp only [Int.toNat_zero,Nat.zero_mul,addr0] at x0 x1 x2;have L1:=Lib.hid l1;have K1:=Lib.hid g1;have L2:=Lib.hid l2;have K2:=Lib.hid g2;clear l1 g1 l2 g2));clear hb;have k1:=And.intro B1.out.c B1.out.f;have k2:=And.intro B2.out.c B2.out.f;have k3:=And.intro B3.out.c B3.out.f;have k4:=And.intro B4.out.c B4.out.f)
  | (go_at_call 11;with_reducible refine (a2X ?ha (vars_b A1 A2 c1 c2 _ L1.out K1.out L2.out K2.out)).mono ?_;(case ha =>(simp;done));rintro x w1 ⟨Av,cv,rfl,hcv,hC,hb⟩;clear k1;clear k2;clear k3;clear k4;have FP:=Lib.hid (Kd.a1W FP.out hb);have B1:=Lib.hid (B1.out.below hb);have B2:=Lib.hid (B2.out.below hb);have FQ:=Lib.hid (Kd.a1W FQ.out hb);have B3:=Lib.hid (B3.out.below hb);have B4:=Lib.hid (B4.out.below hb);have HB:=Lib.hid (a0H HB.out hb);clear x0 x1 x2;have KV:=Lib.hid hC;have HCV:=Lib.hid hcv;clear hC hcv;clear hb;have k1:=And.intro B1.out.c B1.out.f;have k2:=And.intro B2.out.c B2.out.f;have k3:=And.intro B3.out.c B3.out.f;have k4:=And.intro B4.out.c B4.out.f)
  | ((with_reducible refine a1C (N:=56) rfl ?_);refine a2Q (by first | rfl | kernel_rfl) ?_;refine a4N rfl (N:=56) rfl (n:=2) (cs:=#[.string (⟨#[120]⟩:ByteArray),.string (⟨#[121]⟩:ByteArray)]) (t:=9) ?hr ?_;(case hr =>first | (go_simp;done) | (go_simp;rfl));intro g56 hg w1 hx hb;clear k1;clear k2;clear k3;clear k4;have FP:=Lib.hid (Kd.a1W FP.out hb);have B1:=Lib.hid (B1.out.below hb);have B2:=Lib.hid (B2.out.below hb);have FQ:=Lib.hid (Kd.a1W FQ.out hb);have B3:=Lib.hid (B3.out.below hb);have B4:=Lib.hid (B4.out.below hb);have KV:=Lib.hid (Kd.a0N KV.out hb);have HB:=Lib.hid (a0H HB.out hb);have B56:=Lib.hid (RowB.mk hx);clear hx hb hg;have k1:=And.intro B1.out.c B1.out.f;have k2:=And.intro B2.out.c B2.out.f;have k3:=And.intro B3.out.c B3.out.f;have k4:=And.intro B4.out.c B4.out.f)
  | (go_at_call 10;((have hL:=lit2 B56.out.b));(refine (a2X ?ha (r02_Texts.calls 40 Av cv [(⟨#[120]⟩:ByteArray),(⟨#[121]⟩:ByteArray)] (some ⟨g56,0,none⟩) 2 [(⟨#[120]⟩:ByteArray),(⟨#[121]⟩:ByteArray)] true _ KV.out HCV.out hL (by decide) (by kernel_rfl))).mono ?_);(case ha =>(simp;done));((rintro x w1 ⟨rfl,hd⟩;have hb:=hd.below;clear hd hL;clear k1;clear k2;clear k3;clear k4;have FP:=Lib.hid (Kd.a1W FP.out hb);have B1:=Lib.hid (B1.out.below hb);have B2:=Lib.hid (B2.out.below hb);have FQ:=Lib.hid (Kd.a1W FQ.out hb);have B3:=Lib.hid (B3.out.below hb);have B4:=Lib.hid (B4.out.below hb);have KV:=Lib.hid (Kd.a0N KV.out hb);have B56:=Lib.hid (B56.out.below hb);have HB:=Lib.hid (a0H HB.out hb);clear hb;have k1:=And.intro B1.out.c B1.out.f;have k2:=And.intro B2.out.c B2.out.f;have k3:=And.intro B3.out.c B3.out.f;have k4:=And.intro B4.out.c B4.out.f)))
  | (go_at_call 17;with_reducible refine (a2X ?ha (props_b (some ad) cQ _ HCQ.out (Kd.a8V FQ.out))).mono ?_;(case ha =>(simp;done));rintro x w1 ⟨Ap,cp,rfl,hcv,hC,hb⟩;clear k1;clear k2;clear k3;clear k4;have FP:=Lib.hid (Kd.a1W FP.out hb);have B1:=Lib.hid (B1.out.below hb);have B2:=Lib.hid (B2.out.below hb);have FQ:=Lib.hid (Kd.a1W FQ.out hb);have B3:=Lib.hid (B3.out.below hb);have B4:=Lib.hid (B4.out.below hb);have KV:=Lib.hid (Kd.a0N KV.out hb);have B56:=Lib.hid (B56.out.below hb);have HB:=Lib.hid (a0H HB.out hb);have KP:=Lib.hid hC;have HCP_:=Lib.hid hcv;clear hC hcv;clear hb;have k1:=And.intro B1.out.c B1.out.f;have k2:=And.intro B2.out.c B2.out.f;have k3:=And.intro B3.out.c B3.out.f;have k4:=And.intro B4.out.c B4.out.f)
  | ((with_reducible refine a1C (N:=62) rfl ?_);refine a2Q (by first | rfl | kernel_rfl) ?_;refine a4N rfl (N:=62) rfl (n:=2) (cs:=#[.string (⟨#[112]⟩:ByteArray),.string (⟨#[113]⟩:ByteArray)]) (t:=9) ?hr ?_;(case hr =>first | (go_simp;done) | (go_simp;rfl));intro g62 hg w1 hx hb;clear k1;clear k2;clear k3;clear k4;have FP:=Lib.hid (Kd.a1W FP.out hb);have B1:=Lib.hid (B1.out.below hb);have B2:=Lib.hid (B2.out.below hb);have FQ:=Lib.hid (Kd.a1W FQ.out hb);have B3:=Lib.hid (B3.out.below hb);have B4:=Lib.hid (B4.out.below hb);have KV:=Lib.hid (Kd.a0N KV.out hb);have B56:=Lib.hid (B56.out.below hb);have KP:=Lib.hid (Kd.a0N KP.out hb);have HB:=Lib.hid (a0H HB.out hb);have B62:=Lib.hid (RowB.mk hx);clear hx hb hg;have k1:=And.intro B1.out.c B1.out.f;have k2:=And.intro B2.out.c B2.out.f;have k3:=And.intro B3.out.c B3.out.f;have k4:=And.intro B4.out.c B4.out.f)
  | (go_at_call 10;((have hL:=lit2 B62.out.b));(refine (a2X ?ha (r02_Texts.calls 40 Ap cp [(⟨#[112]⟩:ByteArray),(⟨#[113]⟩:ByteArray)] (some ⟨g62,0,none⟩) 2 [(⟨#[112]⟩:ByteArray),(⟨#[113]⟩:ByteArray)] true _ KP.out HCP_.out hL (by decide) (by kernel_rfl))).mono ?_);(case ha =>(simp;done));((rintro x w1 ⟨rfl,hd⟩;have hb:=hd.below;clear hd hL;clear k1;clear k2;clear k3;clear k4;have FP:=Lib.hid (Kd.a1W FP.out hb);have B1:=Lib.hid (B1.out.below hb);have B2:=Lib.hid (B2.out.below hb);have FQ:=Lib.hid (Kd.a1W FQ.out hb);have B3:=Lib.hid (B3.out.below hb);have B4:=Lib.hid (B4.out.below hb);have KV:=Lib.hid (Kd.a0N KV.out hb);have B56:=Lib.hid (B56.out.below hb);have KP:=Lib.hid (Kd.a0N KP.out hb);have B62:=Lib.hid (B62.out.below hb);have HB:=Lib.hid (a0H HB.out hb);clear hb;have k1:=And.intro B1.out.c B1.out.f;have k2:=And.intro B2.out.c B2.out.f;have k3:=And.intro B3.out.c B3.out.f;have k4:=And.intro B4.out.c B4.out.f))))
 go_ret
 exact ⟨rfl,HB.out⟩
end Go.Proofs.Ytjiacafeckokeaa.Man
namespace Go.Proofs.Ytjiacafeckokeaa.Pr
open Go.RowKit Go.Proofs.YtjiacafeckokeaaW.PrintWords Go.Proofs.YtjiacafeckokeaaW.PrintLast Go.Proofs.YtjiacafeckokeaaW.PrintMore
attribute [local go_sem] a4B a3Z a4W a4V a3G a3F a4A a3Y   -- for this text's walks alone
open Classical in
noncomputable def w05_fixed.f :Option (Bool):=some true
theorem w05_fixed.calls  (r:Bool) (w:World) (h:w05_fixed.f  = some r) :
  Calls Try.prog 9 #[] w fun e w' =>e = .returned (.bool r)∧Below w.heap.size w w' :=
 by
 cases h
 exact Man.b5U w
end Go.Proofs.Ytjiacafeckokeaa.Pr
