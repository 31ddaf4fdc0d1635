/- What an accepted list means, plain: the search finds no longer one, and the organ keeps its contract. -/
import Derived.Test.YtiglikocfjhkcaaDoorUB
import Derived.Test.YtiglikocfjhkcaaDoorTD
import Derived.Test.YtiglikocfjhkcaaDoorSU
set_option linter.all false
set_option linter.unusedVariables false
set_option linter.unusedSimpArgs false
open Go Go.Abs Go.Proofs
namespace Go.Proofs.YtiglikocfjhkcaaDoor
theorem nodup_le {α:Type} [DecidableEq α]:∀(l S:List α),l.Nodup→(∀x∈l,x∈S)→l.length≤S.length
 |[],_,_,_=>Nat.zero_le _
 |a::l,S,hn,hs=>by
  obtain ⟨h1,h2⟩:=List.nodup_cons.1 hn
  have ha:=hs a (by simp)
  have ih:=nodup_le l (S.erase a) h2 fun x hx=>(List.mem_erase_of_ne (fun e=>h1 (by rw[←e];exact hx))).2 (hs x (by simp[hx]))
  rw[List.length_erase_of_mem ha] at ih
  have:=List.length_pos_of_mem ha
  simp only[List.length_cons]
  omega
def Goes (f:LtF) (lets:Sit→Nat→Bool) (words:Nat) (S:List Sit) (s:Sit):Prop:=∀a,a<words→lets s a=true→(f s a).2.2.2=true∧toS (f s a)∈S
structure Closed (f:LtF) (lets:Sit→Nat→Bool) (words:Nat) (s0:Sit) (S:List Sit):Prop where
 first:s0∈S
 goes:∀s∈S,Goes f lets words S s
section
variable {f:LtF} {lets:Sit→Nat→Bool} {words:Nat} {I J:Nat→Nat→List PvT→Prop}
theorem Inv.and (v:Inv f lets words I) (u:Inv f lets words J):Inv f lets words (fun i a ts=>I i a ts∧J i a ts) where
 skip h1 h2 h h3:=⟨v.skip h1 h2 h.1 h3,u.skip h1 h2 h.2 h3⟩
 same h1 h2 h h3 h4 h5:=⟨v.same h1 h2 h.1 h3 h4 h5,u.same h1 h2 h.2 h3 h4 h5⟩
 app h1 h2 h h3 h4 h5 h6:=⟨v.app h1 h2 h.1 h3 h4 h5 h6,u.app h1 h2 h.2 h3 h4 h5 h6⟩
 next h1 h:=⟨v.next h1 h.1,u.next h1 h.2⟩
def InI (S:List Sit) (_ _:Nat) (ts:List PvT):Prop:=(∀t∈ts,t.1∈S)∧(ts.map (·.1)).Nodup
theorem in_inv {s0:Sit} {S:List Sit} (C:Closed f lets words s0 S):Inv f lets words (InI S) where
 skip _ _ h _:=h
 same _ _ h _ _ _:=h
 app:=fun {q a ts} hq ha hI hl hok hn _=>by
  obtain ⟨h1,h2⟩:=hI
  refine ⟨fun t ht=> ?_,?_⟩
  ·rcases List.mem_append.1 ht with h|h
   ·exact h1 t h
   ·rcases List.mem_singleton.1 h with rfl
    exact (C.goes _ (h1 _ (nth_mem dT ts hq)) a ha hl).2
  ·rw[List.map_append]
   refine List.nodup_append.2 ⟨h2,by simp,fun x hx y hy=> ?_⟩
   simp only[List.map_cons,List.map_nil,List.mem_singleton] at hy
   subst hy
   exact fun e=>hn (e▸hx)
 next _ h:=h
theorem pv_within {s0:Sit} {S:List Sit} (C:Closed f lets words s0 S) (hS:S.length≤20000) (m:Nat):∃ts,pvL f lets words m 0 [(s0,[])]= .go ts∧ts.length≤S.length:=by
 obtain ⟨g1,g2,g3⟩:=pvL_ind (in_inv C) m 0 [(s0,[])] (by simp) ⟨fun t ht=>by rcases List.mem_singleton.1 ht with rfl;exact C.first,by simp⟩
 cases hr:pvL f lets words m 0 [(s0,[])] with
 | go ts=>
  obtain ⟨_,⟨h1,h2⟩,_⟩:=g1 ts hr
  refine ⟨ts,rfl,?_⟩
  have:=nodup_le (ts.map (·.1)) S h2 fun x hx=>by
   obtain ⟨t,ht,rfl⟩:=List.mem_map.1 hx
   exact h1 t ht
  rwa [List.length_map] at this
 |brk w=>
  obtain ⟨q,a,ts,hq,ha,⟨h1,h2⟩,hl,hok,_⟩:=g2 w hr
  have:=(C.goes _ (h1 _ (nth_mem dT ts hq)) a ha hl).1
  rw[hok] at this;cases this
 | full=>
  obtain ⟨q,a,ts,hq,ha,⟨h1,h2⟩,hl,hok,hn,hx⟩:=g3 hr
  have hm:=(C.goes _ (h1 _ (nth_mem dT ts hq)) a ha hl).2
  have:=nodup_le (toS (f (nth dT ts q).1 a)::ts.map (·.1)) S (List.nodup_cons.2 ⟨hn,h2⟩) fun x hx=>by
   rcases List.mem_cons.1 hx with rfl|hx
   ·exact hm
   ·obtain ⟨t,ht,rfl⟩:=List.mem_map.1 hx
    exact h1 t ht
  rw[List.length_cons,List.length_map] at this
  omega
def DoneI (f:LtF) (lets:Sit→Nat→Bool) (words:Nat) (s0:Sit) (i a:Nat) (ts:List PvT):Prop:=
 (0<ts.length∧(nth dT ts 0).1=s0)∧∀q b,q<ts.length→b<words→(q<i∨(q=i∧b<a))→lets (nth dT ts q).1 b=true→(f (nth dT ts q).1 b).2.2.2=true∧toS (f (nth dT ts q).1 b)∈ts.map (·.1)
theorem done_inv (s0:Sit):Inv f lets words (DoneI f lets words s0) where
 skip:=fun {i a ts} hi ha h hl=>⟨h.1,fun q b hq hb hc hlb=>by
  rcases hc with hc|⟨rfl,hc⟩
  ·exact h.2 q b hq hb (Or.inl hc) hlb
  ·by_cases e:b=a
   ·subst e;rw[hl] at hlb;cases hlb
   ·exact h.2 q b hq hb (Or.inr ⟨rfl,by omega⟩) hlb⟩
 same:=fun {i a ts} hi ha h hl hok hm=>⟨h.1,fun q b hq hb hc hlb=>by
  rcases hc with hc|⟨rfl,hc⟩
  ·exact h.2 q b hq hb (Or.inl hc) hlb
  ·by_cases e:b=a
   ·subst e;exact ⟨hok,hm⟩
   ·exact h.2 q b hq hb (Or.inr ⟨rfl,by omega⟩) hlb⟩
 app:=fun {i a ts} hi ha h hl hok hm _=>by
  obtain ⟨⟨h0,h1⟩,h2⟩:=h
  refine ⟨⟨by simp,by rw[nth_appL dT ts _ 0 h0];exact h1⟩,fun q b hq hb hc hlb=> ?_⟩
  have hq':q<ts.length:=by rcases hc with hc|⟨rfl,_⟩<;>omega
  rw[nth_appL dT ts _ q hq'] at hlb⊢
  rw[List.map_append,List.mem_append]
  rcases hc with hc|⟨rfl,hc⟩
  ·have:=h2 q b hq' hb (Or.inl hc) hlb
   exact ⟨this.1,Or.inl this.2⟩
  ·by_cases e:b=a
   ·subst e;exact ⟨hok,Or.inr (by simp)⟩
   ·have:=h2 q b hq' hb (Or.inr ⟨rfl,by omega⟩) hlb
    exact ⟨this.1,Or.inl this.2⟩
 next:=fun {i ts} hi h=>⟨h.1,fun q b hq hb hc hlb=>by
  rcases hc with hc|⟨_,hc⟩
  ·by_cases e:q=i
   ·subst e;exact h.2 q b hq hb (Or.inr ⟨rfl,hb⟩) hlb
   ·exact h.2 q b hq hb (Or.inl (by omega)) hlb
  ·omega⟩
theorem done_one (s0:Sit):DoneI f lets words s0 0 0 [(s0,[])]:=⟨⟨by simp,rfl⟩,fun q b _ _ hc=>by omega⟩
end
section
variable {k w h:Int} {c:List Int} {ms:List Mo} {i o dl:Int} {n p:List (List Int)} {l:List (List Bool)}
theorem wordsB_iff (pr:List Sit) (s:Sit):∀(j a:Nat),wordsB k w h ms n p l pr s j a=true↔∀b,a≤b→b<a+j→letF l s b=true→(ltF k w h ms n p s b).2.2.2=true∧toS (ltF k w h ms n p s b)∈pr
 |0,a=>by simp only[wordsB,true_iff];intro b h1 h2;omega
 | j+1,a=>by
  have ih:=wordsB_iff pr s j (a+1)
  rw[wordsB,Bool.and_eq_true,ih]
  have e:(!nth false (nth [] l s.2.1.toNat) a||((ltB k w h ms n p s.1 s.2.1 s.2.2 a).2.2.2&&decide (((ltB k w h ms n p s.1 s.2.1 s.2.2 a).1,(ltB k w h ms n p s.1 s.2.1 s.2.2 a).2.1,(ltB k w h ms n p s.1 s.2.1 s.2.2 a).2.2.1)∈pr)))=true↔
    (letF l s a=true→(ltF k w h ms n p s a).2.2.2=true∧toS (ltF k w h ms n p s a)∈pr):=by
   show (!letF l s a||((ltF k w h ms n p s a).2.2.2&&decide (toS (ltF k w h ms n p s a)∈pr)))=true↔_
   cases letF l s a<;>simp
  rw[e]
  constructor
  ·rintro ⟨h1,h2⟩ b hb1 hb2 hl
   by_cases hba:b=a
   ·subst hba;exact h1 hl
   ·exact h2 b (by omega) (by omega) hl
  ·intro hh
   exact ⟨fun hl=>hh a (by omega) (by omega) hl,fun b hb1 hb2 hl=>hh b (by omega) (by omega) hl⟩
theorem chkL_none (f:Sit→Nat→Bool):∀(pr:List Sit) (q:Nat),chkL f pr q=none↔∀j,j<pr.length→f (nth ([],0,[]) pr j) (q+j)=true
 |[],q=>by simp[chkL]
 | s::r,q=>by
  have ih:=chkL_none f r (q+1)
  simp only[chkL]
  cases hf:f s q with
  | true=>
   rw[cond_true,ih]
   constructor
   ·intro hh j hj
    cases j with
    |zero=>exact hf
    |succ j=>have:=hh j (by simpa using hj);rw[show q+(j+1)=q+1+j by omega];exact this
   ·intro hh j hj
    have:=hh (j+1) (by simpa using hj)
    rw[show q+(j+1)=q+1+j by omega] at this
    exact this
  |false=>
   simp only[cond_false]
   constructor
   ·intro e;cases e
   ·intro hh;have:=hh 0 (by simp);rw[show nth ([],0,[]) (s::r) 0=s from rfl,Nat.add_zero,hf] at this;cases this
theorem ck_yes {pr:List Sit} (hy:(ckM (k,w,h,c,ms,i,o,dl,n,p,l,pr)).1=true):askedM (k,w,h,c,ms,i,o,dl,n,p,l)=0∧pr.length≤20000∧(∀s∈pr,fB k w h ms o dl n s=true)∧
  Closed (ltF k w h ms n p) (letF l) (2^i.toNat) (c,0,List.replicate dl.toNat 0) pr:=by
 simp only[ckM] at hy
 by_cases ha:askedM (k,w,h,c,ms,i,o,dl,n,p,l)=0
 ·rw [decide_eq_true ha,cond_true] at hy
  by_cases hl:pr.length>20000
  ·rw[decide_eq_true hl] at hy;cases hy
  ·rw[decide_eq_false hl,cond_false] at hy
   cases hc:chkL (sitB k w h c ms i o dl n p l pr) pr 0 with
   |some q=>rw[hc] at hy;cases hy
   | none=>
    rw[hc] at hy
    have h0:0<pr.length:=of_decide_eq_true hy
    have hall:=(chkL_none _ pr 0).1 hc
    have hs:∀j,j<pr.length→fB k w h ms o dl n (nth ([],0,[]) pr j)=true∧(j=0→nth ([],0,[]) pr j=(c,0,List.replicate dl.toNat 0))∧Goes (ltF k w h ms n p) (letF l) (2^i.toNat) pr (nth ([],0,[]) pr j):=fun j hj=>by
     have:=hall j hj
     simp only[sitB,Bool.and_eq_true,Bool.or_eq_true,Bool.not_eq_true',decide_eq_false_iff_not] at this
     refine ⟨this.1,fun e=> ?_,fun a hw hla=>(wordsB_iff pr _ _ 0).1 this.2.2 a (by omega) (by omega) hla⟩
     rcases this.2.1 with h|h
     ·omega
     ·exact eqSit_iff.1 h
    have hmem:∀s∈pr,∃j,j<pr.length∧nth ([],0,[]) pr j=s:=fun s hs=>by
     obtain ⟨j,hj,e⟩:=List.mem_iff_getElem.1 hs
     exact ⟨j,hj,by rw[nth_lt _ _ _ hj];exact e⟩
    refine ⟨ha,by omega,fun s hm=> ?_,⟨?_,fun s hm=> ?_⟩⟩
    ·obtain ⟨j,hj,rfl⟩:=hmem s hm;exact (hs j hj).1
    ·have:=(hs 0 h0).2.1 rfl
     rw[←this];exact nth_mem _ pr h0
    ·obtain ⟨j,hj,rfl⟩:=hmem s hm;exact (hs j hj).2.2
 ·rw[decide_eq_false ha] at hy;cases hy
theorem ck_make {pr:List Sit} (ha:askedM (k,w,h,c,ms,i,o,dl,n,p,l)=0) (hl:pr.length≤20000) (h0:0<pr.length) (hf:∀s∈pr,fB k w h ms o dl n s=true) (h1:nth ([],0,[]) pr 0=(c,0,List.replicate dl.toNat 0))
  (hg:∀s∈pr,Goes (ltF k w h ms n p) (letF l) (2^i.toNat) pr s):ckM (k,w,h,c,ms,i,o,dl,n,p,l,pr)=(true,(pr.length:Int),0):=by
 have hn:chkL (sitB k w h c ms i o dl n p l pr) pr 0=none:=(chkL_none _ pr 0).2 fun j hj=>by
  have hm:=nth_mem ([],0,[]) pr hj
  simp only[sitB,Bool.and_eq_true,Bool.or_eq_true,Bool.not_eq_true',decide_eq_false_iff_not]
  refine ⟨hf _ hm,?_,(wordsB_iff pr _ _ 0).2 fun b _ hb hlb=>hg _ hm b (by omega) hlb⟩
  by_cases e:j=0
  ·subst e;exact Or.inr (eqSit_iff.2 h1)
  ·exact Or.inl (by omega)
 simp only[ckM,ha,hn,ckO,decide_true,cond_true,show ¬pr.length>20000 by omega,h0,decide_false,cond_false]
theorem pv_accepted (ha:askedM (k,w,h,c,ms,i,o,dl,n,p,l)=0) (hb:(pvM (k,w,h,c,ms,i,o,dl,n,p,l)).2=([],0)):
  ckM (k,w,h,c,ms,i,o,dl,n,p,l,(pvM (k,w,h,c,ms,i,o,dl,n,p,l)).1)=(true,((pvM (k,w,h,c,ms,i,o,dl,n,p,l)).1.length:Int),0)∧0<(pvM (k,w,h,c,ms,i,o,dl,n,p,l)).1.length:=by
 obtain ⟨v,ct,_⟩:=asked0 ha
 have e:pvM (k,w,h,c,ms,i,o,dl,n,p,l)=pwR (pvL (ltF k w h ms n p) (letF l) (2^i.toNat) 20001 0 [((c,0,List.replicate dl.toNat 0),[])]):=by simp only[pvM,ha,decide_true,cond_true]
 rw[e] at hb⊢
 obtain ⟨g1,g2,g3⟩:=pvL_ind ((few_inv (k:=k) (w:=w) (h:=h) (ms:=ms) ct).and (done_inv (c,0,List.replicate dl.toNat 0))) 20001 0 [((c,0,List.replicate dl.toNat 0),[])] (by simp) ⟨few_one v ct (asked_pos ha),done_one _⟩
 cases hr:pvL (ltF k w h ms n p) (letF l) (2^i.toNat) 20001 0 [((c,0,List.replicate dl.toNat 0),[])] with
 | go ts=>
  obtain ⟨i',⟨⟨f1,f2⟩,⟨d0,d1⟩,d2⟩,hi',hend⟩:=g1 ts hr
  have hii:i'=ts.length:=by omega
  have hmem:∀s∈ts.map (·.1),∃j,j<ts.length∧(nth dT ts j).1=s:=fun s hs=>by
   obtain ⟨t,ht,rfl⟩:=List.mem_map.1 hs
   obtain ⟨j,hj,e⟩:=List.mem_iff_getElem.1 ht
   exact ⟨j,hj,by rw[nth_lt _ _ _ hj,e]⟩
  have h0:0<(ts.map (·.1)).length:=by rw[List.length_map];exact d0
  refine ⟨ck_make ha (by show (ts.map (·.1)).length≤20000;rw[List.length_map];exact f1) h0 (fun s hs=> ?_) ?_ (fun s hs a hw hla=> ?_),h0⟩
  ·obtain ⟨t,ht,rfl⟩:=List.mem_map.1 hs;exact (f2 t ht).1
  ·show nth ([],0,[]) (ts.map (·.1)) 0=_
   rw[nth_map dT ([],0,[]) (·.1) ts 0 d0];exact d1
  ·obtain ⟨j,hj,rfl⟩:=hmem s hs
   exact d2 j a hj hw (Or.inl (by omega)) hla
 |brk w=>
  obtain ⟨q,a,ts,_,_,_,_,_,rfl⟩:=g2 w hr
  rw[hr] at hb;simp[pwR] at hb
 |full=>rw[hr] at hb;simp[pwR] at hb
def saids (next put:List (List Int)):Int→List Int→List Int
 |_,[]=>[]
 |q,a::l=>nth 0 (nth [] put q.toNat) a.toNat::saids next put (nth 0 (nth [] next q.toNat) a.toNat) l
def letsIn (next:List (List Int)) (lets:List (List Bool)):Int→List Int→Nat
 |_,[]=>0
 |q,a::l=>bif nth false (nth [] lets q.toNat) a.toNat then letsIn next lets (nth 0 (nth [] next q.toNat) a.toNat) l+1 else 0
theorem letsIn_le (next:List (List Int)) (lets:List (List Bool)):∀(q:Int) (l:List Int),letsIn next lets q l≤l.length
 |_,[]=>Nat.le_refl _
 |q,a::l=>by
  simp only[letsIn,List.length_cons]
  have:=letsIn_le next lets (nth 0 (nth [] next q.toNat) a.toNat) l
  cases nth false (nth [] lets q.toNat) a.toNat
  ·simp
  ·simp;omega
theorem lt_yes {s:Sit} {a:Nat} (hok:(ltF k w h ms n p s a).2.2.2=true):toldL w s.1 ms 0 0=nth 0 s.2.2 0∧stOk k w h ms s.1 a=true∧
  toS (ltF k w h ms n p s a)=(nextC k w h ms s.1 a,nth 0 (nth [] n s.2.1.toNat) a,s.2.2.drop 1++[nth 0 (nth [] p s.2.1.toNat) a]):=by
 simp only[ltF,ltB,Int.toNat_natCast] at hok⊢
 cases hc:(decide (toldL w s.1 ms 0 0=nth 0 s.2.2 0)&&stOk k w h ms s.1 a) with
 |false=>rw[hc] at hok;cases hok
 |true=>
  simp only[Bool.and_eq_true,decide_eq_true_eq] at hc
  exact ⟨hc.1,hc.2,rfl⟩
theorem run_sound {s0:Sit} {S:List Sit} (C:Closed (ltF k w h ms n p) (letF l) (2^i.toNat) s0 S) (hd:∀s∈S,1≤s.2.2.length):∀(st:List Int) (s:Sit) (told:List Int),s∈S→(∀x∈st,0≤x∧x<2^i.toNat)→letsIn n l s.2.1 st=st.length→
  (runL k w h ms st s.1 told).2.2=true∧(runL k w h ms st s.1 told).1=told++(s.2.2++saids n p s.2.1 st).take st.length
 |[],s,told,_,_,_=>⟨rfl,by simp[runL]⟩
 | a::st,s,told,hs,hr,hl=>by
  have ha:=hr a (by simp)
  have hpw:((2:Int)^i.toNat)=((2^i.toNat:Nat):Int):=by simp
  simp only[letsIn,List.length_cons] at hl
  cases hla:nth false (nth [] l s.2.1.toNat) a.toNat with
  |false=>rw[hla] at hl;simp at hl
  | true=>
   rw[hla,cond_true] at hl
   obtain ⟨g1,g2⟩:=C.goes s hs a.toNat (by omega) hla
   obtain ⟨e1,e2,e3⟩:=lt_yes g1
   rw[show ((a.toNat:Nat):Int)=a by omega] at e2 e3
   rw[e3] at g2
   have ih:=run_sound C hd st _ (told++[toldL w s.1 ms 0 0]) g2 (fun x hx=>hr x (by simp[hx])) (by simpa using hl)
   simp only[runL,e2,cond_true]
   refine ⟨ih.1,ih.2.trans ?_⟩
   obtain ⟨d0,due,hdue⟩:∃d0 due,s.2.2=d0::due:=by
    have:=hd s hs
    cases hx:s.2.2 with
    |nil=>rw[hx] at this;simp at this
    |cons x y=>exact ⟨x,y,rfl⟩
   rw[e1,hdue]
   simp only[saids,nth,List.drop_succ_cons,List.drop_zero,List.append_assoc,List.cons_append,List.nil_append,List.length_cons,List.take_succ_cons]
end
def Lex:List Int→List Int→Prop
 |x::a,y::b=>x<y∨(x=y∧Lex a b)
 |_,_=>False
def Bef (a b:List Int):Prop:=a.length<b.length∨(a.length=b.length∧Lex a b)
theorem lex_irr:∀a:List Int,¬Lex a a
 |[],h=>h
 |x::a,h=>by
  rcases h with h|h
  ·omega
  ·exact lex_irr a h.2
theorem lex_trans:∀a b c:List Int,Lex a b→Lex b c→Lex a c
 |[],_,_,h,_=>by cases h
 |_::_,[],_,h,_=>by cases h
 |_::_,_::_,[],_,h=>by cases h
 | x::a,y::b,z::c,h1,h2=>by
  rcases h1 with h1|⟨rfl,h1⟩
  ·rcases h2 with h2|⟨rfl,h2⟩
   ·exact Or.inl (by omega)
   ·exact Or.inl h1
  ·rcases h2 with h2|⟨rfl,h2⟩
   ·exact Or.inl h2
   ·exact Or.inr ⟨rfl,lex_trans a b c h1 h2⟩
theorem lex_tri:∀a b:List Int,a.length=b.length→a=b∨Lex a b∨Lex b a
 |[],[],_=>Or.inl rfl
 |[],_::_,h=>by simp at h
 |_::_,[],h=>by simp at h
 | x::a,y::b,h=>by
  rcases lex_tri a b (by simpa using h) with rfl|e|e
  ·by_cases c1:x=y
   ·subst c1;exact Or.inl rfl
   ·by_cases c2:x<y
    ·exact Or.inr (Or.inl (Or.inl c2))
    ·exact Or.inr (Or.inr (Or.inl (by omega)))
  ·by_cases c1:x=y
   ·exact Or.inr (Or.inl (Or.inr ⟨c1,e⟩))
   ·by_cases c2:x<y
    ·exact Or.inr (Or.inl (Or.inl c2))
    ·exact Or.inr (Or.inr (Or.inl (by omega)))
  ·by_cases c1:x=y
   ·exact Or.inr (Or.inr (Or.inr ⟨c1.symm,e⟩))
   ·by_cases c2:x<y
    ·exact Or.inr (Or.inl (Or.inl c2))
    ·exact Or.inr (Or.inr (Or.inl (by omega)))
theorem lex_app:∀(a b:List Int) (x y:Int),a.length=b.length→(Lex (a++[x]) (b++[y])↔Lex a b∨(a=b∧x<y))
 |[],[],x,y,_=>by simp[Lex]
 |[],_::_,_,_,h=>by simp at h
 |_::_,[],_,_,h=>by simp at h
 | u::a,v::b,x,y,hl=>by
  have ih:=lex_app a b x y (by simpa using hl)
  clear hl
  simp only[List.cons_append,Lex,ih,List.cons.injEq]
  constructor
  ·rintro (h|⟨rfl,h|h⟩)
   ·exact Or.inl (Or.inl h)
   ·exact Or.inl (Or.inr ⟨rfl,h⟩)
   ·exact Or.inr ⟨⟨rfl,h.1⟩,h.2⟩
  ·rintro ((h|⟨rfl,h⟩)|⟨⟨rfl,h1⟩,h2⟩)
   ·exact Or.inl h
   ·exact Or.inr ⟨rfl,Or.inl h⟩
   ·exact Or.inr ⟨rfl,Or.inr ⟨h1,h2⟩⟩
theorem bef_irr (a:List Int):¬Bef a a:=fun h=>by
 rcases h with h|h
 ·omega
 ·exact lex_irr a h.2
theorem bef_trans {a b c:List Int} (h1:Bef a b) (h2:Bef b c):Bef a c:=by
 rcases h1 with h1|⟨e1,h1⟩
 ·rcases h2 with h2|⟨e2,h2⟩
  ·exact Or.inl (by omega)
  ·exact Or.inl (by omega)
 ·rcases h2 with h2|⟨e2,h2⟩
  ·exact Or.inl (by omega)
  ·exact Or.inr ⟨by omega,lex_trans a b c h1 h2⟩
theorem bef_tri (a b:List Int):a=b∨Bef a b∨Bef b a:=by
 by_cases h:a.length=b.length
 ·rcases lex_tri a b h with e|e|e
  ·exact Or.inl e
  ·exact Or.inr (Or.inl (Or.inr ⟨h,e⟩))
  ·exact Or.inr (Or.inr (Or.inr ⟨h.symm,e⟩))
 ·by_cases h2:a.length<b.length
  ·exact Or.inr (Or.inl (Or.inl h2))
  ·exact Or.inr (Or.inr (Or.inl (by omega)))
theorem bef_app (a b:List Int) (x y:Int):Bef (a++[x]) (b++[y])↔Bef a b∨(a=b∧x<y):=by
 simp only[Bef,List.length_append,List.length_cons,List.length_nil]
 by_cases h:a.length=b.length
 ·rw[lex_app a b x y h]
  constructor
  ·rintro (h1|⟨_,h1|h1⟩)
   ·omega
   ·exact Or.inl (Or.inr ⟨h,h1⟩)
   ·exact Or.inr h1
  ·rintro ((h1|⟨_,h1⟩)|h1)
   ·omega
   ·exact Or.inr ⟨by omega,Or.inl h1⟩
   ·exact Or.inr ⟨by omega,Or.inr h1⟩
 ·constructor
  ·rintro (h1|⟨h1,_⟩)
   ·exact Or.inl (Or.inl (by omega))
   ·omega
  ·rintro ((h1|⟨h1,_⟩)|⟨rfl,_⟩)
   ·exact Or.inl (by omega)
   ·omega
   ·exact absurd rfl h
def Le (a b:List Int):Prop:=¬Bef b a
theorem le_iff {a b:List Int}:Le a b↔a=b∨Bef a b:=by
 constructor
 ·intro h
  rcases bef_tri a b with e|e|e
  ·exact Or.inl e
  ·exact Or.inr e
  ·exact absurd e h
 ·rintro (rfl|h) h2
  ·exact bef_irr _ h2
  ·exact bef_irr _ (bef_trans h h2)
theorem le_trans' {a b c:List Int} (h1:Le a b) (h2:Le b c):Le a c:=by
 rcases le_iff.1 h1 with rfl|h1
 ·exact h2
 ·rcases le_iff.1 h2 with rfl|h2
  ·exact le_iff.2 (Or.inr h1)
  ·exact le_iff.2 (Or.inr (bef_trans h1 h2))
theorem le_app {a b:List Int} (x:Int) (h:Le a b):Le (a++[x]) (b++[x]):=fun h2=>by
 rcases (bef_app b a x x).1 h2 with h3|⟨_,h3⟩
 ·exact h h3
 ·omega
def goTo (f:LtF) (lets:Sit→Nat→Bool) (words:Nat):Sit→List Int→Option Sit
 |s,[]=>some s
 |s,a::st=>bif decide (0≤a∧a<(words:Int))&&(lets s a.toNat&&(f s a.toNat).2.2.2) then goTo f lets words (toS (f s a.toNat)) st else none
def brokeL (f:LtF) (lets:Sit→Nat→Bool) (words:Nat):Sit→Nat→List Int→Int
 |_,t,[]=>t
 |s,t,a::st=>bif decide (0≤a∧a<(words:Int))&&lets s a.toNat then (bif (f s a.toNat).2.2.2 then brokeL f lets words (toS (f s a.toNat)) (t+1) st else (t:Int)) else-1
section
variable {f:LtF} {lets:Sit→Nat→Bool} {words:Nat}
theorem goTo_app:∀(u v:List Int) (s:Sit),goTo f lets words s (u++v)=(goTo f lets words s u).bind fun s'=>goTo f lets words s' v
 |[],v,s=>rfl
 |a::u,v,s=>by
  simp only[List.cons_append,goTo]
  cases decide (0≤a∧a<(words:Int))&&(lets s a.toNat&&(f s a.toNat).2.2.2) with
  |true=>exact goTo_app u v _
  |false=>rfl
theorem goTo_one {s s':Sit} {a:Int} (h:goTo f lets words s [a]=some s'):(0≤a∧a<(words:Int))∧lets s a.toNat=true∧(f s a.toNat).2.2.2=true∧s'=toS (f s a.toNat):=by
 simp only[goTo] at h
 cases hc:decide (0≤a∧a<(words:Int))&&(lets s a.toNat&&(f s a.toNat).2.2.2) with
 |false=>rw[hc] at h;cases h
 |true=>
  rw[hc] at h
  simp only[cond_true,Option.some.injEq] at h
  simp only[Bool.and_eq_true,decide_eq_true_eq] at hc
  exact ⟨hc.1,hc.2.1,hc.2.2,h.symm⟩
theorem brokeL_go:∀(u v:List Int) (s s':Sit) (t:Nat),goTo f lets words s u=some s'→brokeL f lets words s t (u++v)=brokeL f lets words s' (t+u.length) v
 |[],v,s,s',t,h=>by simp only[goTo,Option.some.injEq] at h;subst h;rfl
 | a::u,v,s,s',t,h=>by
  simp only[goTo] at h
  cases hc:decide (0≤a∧a<(words:Int))&&(lets s a.toNat&&(f s a.toNat).2.2.2) with
  |false=>rw[hc] at h;cases h
  |true=>
   rw[hc] at h
   have ih:=brokeL_go u v _ s' (t+1) h
   simp only[Bool.and_eq_true] at hc
   simp only[List.cons_append,brokeL,hc.1,hc.2.1,hc.2.2,Bool.and_self,cond_true,ih,List.length_cons]
   congr 1
   omega
theorem brokeL_at:∀(st:List Int) (s:Sit) (t:Nat),brokeL f lets words s t st<0∨brokeL f lets words s t st=((t+st.length:Nat):Int)∨
  ∃u b r s',st=u++b::r∧brokeL f lets words s t st=((t+u.length:Nat):Int)∧goTo f lets words s u=some s'∧(0≤b∧b<(words:Int))∧lets s' b.toNat=true∧(f s' b.toNat).2.2.2=false
 |[],s,t=>Or.inr (Or.inl rfl)
 | a ::st,s,t=>by
  simp only[brokeL]
  cases hc:decide (0≤a∧a<(words:Int))&&lets s a.toNat with
  |false=>exact Or.inl (by show (-1:Int)<0;omega)
  | true=>
   have hc':=hc
   simp only[Bool.and_eq_true,decide_eq_true_eq] at hc'
   cases hk:(f s a.toNat).2.2.2 with
   |false=>exact Or.inr (Or.inr ⟨[],a,st,s,rfl,rfl,rfl,hc'.1,hc'.2,hk⟩)
   | true=>
    simp only[cond_true]
    rcases brokeL_at st (toS (f s a.toNat)) (t+1) with h|h|⟨u,b,r,s',h1,h2,h3,h4⟩
    ·exact Or.inl h
    ·exact Or.inr (Or.inl (by rw[h,List.length_cons];omega))
    ·refine Or.inr (Or.inr ⟨a::u,b,r,s',by rw[h1];rfl,by rw[h2,List.length_cons];omega,?_,h4⟩)
     simp only[goTo,hk,Bool.and_true,hc,cond_true]
     exact h3
structure LeastI (f:LtF) (lets:Sit→Nat→Bool) (words:Nat) (s0:Sit) (i a:Nat) (ts:List PvT):Prop where
 ne:0<ts.length
 zero:nth dT ts 0=(s0,[])
 sort:∀q r,q<r→r<ts.length→Bef (nth dT ts q).2 (nth dT ts r).2
 upto:i<ts.length→∀r,r<ts.length→Bef (nth dT ts r).2 ((nth dT ts i).2++[(a:Int)])
 done:∀q b,q<ts.length→b<words→(q<i∨(q=i∧b<a))→lets (nth dT ts q).1 b=true→(f (nth dT ts q).1 b).2.2.2=true∧∃r,r<ts.length∧(nth dT ts r).1=toS (f (nth dT ts q).1 b)∧Le (nth dT ts r).2 ((nth dT ts q).2++[(b:Int)])
 way:∀r,r<ts.length→goTo f lets words s0 (nth dT ts r).2=some (nth dT ts r).1
 from':∀r,0<r→r<ts.length→∃q y,q<r∧(nth dT ts r).2=(nth dT ts q).2++[y]
theorem upto_succ {w:List Int} {ts:List PvT} {a:Nat} (h:∀r,r<ts.length→Bef (nth dT ts r).2 (w++[(a:Int)])):∀r,r<ts.length→Bef (nth dT ts r).2 (w++[((a+1:Nat):Int)]):=fun r hr=>
 bef_trans (h r hr) ((bef_app w w _ _).2 (Or.inr ⟨rfl,by omega⟩))
theorem least_inv (s0:Sit):Inv f lets words (LeastI f lets words s0) where
 skip:=fun {i a ts} hi ha h hl=>{h with
  upto:=fun hi=>upto_succ (h.upto hi)
  done:=fun q b hq hb hc hlb=>by
   rcases hc with hc|⟨rfl,hc⟩
   ·exact h.done q b hq hb (Or.inl hc) hlb
   ·by_cases e:b=a
    ·subst e;rw[hl] at hlb;cases hlb
    ·exact h.done q b hq hb (Or.inr ⟨rfl,by omega⟩) hlb}
 same:=fun {i a ts} hi ha h hl hok hm=>{h with
  upto:=fun hi=>upto_succ (h.upto hi)
  done:=fun q b hq hb hc hlb=>by
   rcases hc with hc|⟨rfl,hc⟩
   ·exact h.done q b hq hb (Or.inl hc) hlb
   ·by_cases e:b=a
    ·subst e
     refine ⟨hok,?_⟩
     obtain ⟨t,ht,e⟩:=List.mem_map.1 hm
     obtain ⟨r,hr,e2⟩:=List.mem_iff_getElem.1 ht
     refine ⟨r,hr,by rw[nth_lt _ _ _ hr,e2,e],le_iff.2 (Or.inr (h.upto hi r hr))⟩
    ·exact h.done q b hq hb (Or.inr ⟨rfl,by omega⟩) hlb}
 app :=fun {i a ts} hi ha h hl hok hm _=>by
  have old:∀q,q<ts.length→nth dT (ts++[(toS (f (nth dT ts i).1 a),(nth dT ts i).2++[(a:Int)])]) q=nth dT ts q:=fun q hq=>nth_appL dT ts _ q hq
  have new:nth dT (ts++[(toS (f (nth dT ts i).1 a),(nth dT ts i).2++[(a:Int)])]) ts.length=(toS (f (nth dT ts i).1 a),(nth dT ts i).2++[(a:Int)]):=by rw[nth_append,if_neg (by omega),Nat.sub_self];rfl
  have up:=h.upto hi
  refine ⟨by simp,by rw[old 0 h.ne];exact h.zero,fun q r hqr hr=> ?_,fun _ r hr=> ?_,fun q b hq hb hc hlb=> ?_,fun r hr=> ?_,fun r h0 hr=> ?_⟩
  ·simp only[List.length_append,List.length_cons,List.length_nil,Nat.zero_add] at hr
   rw[old q (by omega)]
   by_cases e:r=ts.length
   ·subst e;rw[new];exact up q (by omega)
   ·rw[old r (by omega)];exact h.sort q r hqr (by omega)
  ·simp only[List.length_append,List.length_cons,List.length_nil,Nat.zero_add] at hr
   rw[old i hi]
   by_cases e:r=ts.length
   ·subst e;rw[new];exact (bef_app _ _ _ _).2 (Or.inr ⟨rfl,by omega⟩)
   ·rw[old r (by omega)];exact upto_succ up r (by omega)
  ·have hq':q<ts.length:=by rcases hc with hc|⟨rfl,_⟩<;>omega
   rw[old q hq'] at hlb⊢
   have keep:(f (nth dT ts q).1 b).2.2.2=true∧(∃r,r<ts.length∧(nth dT ts r).1=toS (f (nth dT ts q).1 b)∧Le (nth dT ts r).2 ((nth dT ts q).2++[(b:Int)]))→(f (nth dT ts q).1 b).2.2.2=true∧∃r,r<(ts++[(toS (f (nth dT ts i).1 a),(nth dT ts i).2++[(a:Int)])]).length∧(nth dT (ts++[(toS (f (nth dT ts i).1 a),(nth dT ts i).2++[(a:Int)])]) r).1=toS (f (nth dT ts q).1 b)∧Le (nth dT (ts++[(toS (f (nth dT ts i).1 a),(nth dT ts i).2++[(a:Int)])]) r).2 ((nth dT ts q).2++[(b:Int)]):=by
    rintro ⟨k1,r,k2,k3,k4⟩
    exact ⟨k1,r,by simp;omega,by rw[old r k2];exact k3,by rw[old r k2];exact k4⟩
   rcases hc with hc|⟨rfl,hc⟩
   ·exact keep (h.done q b hq' hb (Or.inl hc) hlb)
   ·by_cases e:b=a
    ·subst e
     exact ⟨hok,ts.length,by simp,by rw[new],by rw[new];exact le_iff.2 (Or.inl rfl)⟩
    ·exact keep (h.done q b hq' hb (Or.inr ⟨rfl,by omega⟩) hlb)
  ·simp only[List.length_append,List.length_cons,List.length_nil,Nat.zero_add] at hr
   by_cases e:r=ts.length
   ·subst e
    rw[new]
    simp only[goTo_app,h.way i hi,Option.bind_some,goTo,Int.toNat_natCast,hl,hok,Bool.and_self,Bool.and_true]
    rw[decide_eq_true (show (0:Int)≤(a:Int)∧(a:Int)<(words:Int) by omega),cond_true]
   ·rw[old r (by omega)];exact h.way r (by omega)
  ·simp only[List.length_append,List.length_cons,List.length_nil,Nat.zero_add] at hr
   by_cases e:r=ts.length
   ·subst e;exact ⟨i,a,hi,by rw[new,old i hi]⟩
   ·obtain ⟨q,y,h1,h2⟩:=h.from' r h0 (by omega)
    exact ⟨q,y,h1,by rw[old r (by omega),old q (by omega)];exact h2⟩
 next:=fun {i ts} hi h=>{h with
  upto:=fun hi' r hr=>bef_trans (h.upto hi r hr) ((bef_app _ _ _ _).2 (Or.inl (h.sort i (i+1) (by omega) hi')))
  done:=fun q b hq hb hc hlb=>by
   rcases hc with hc|⟨_,hc⟩
   ·by_cases e:q=i
    ·subst e;exact h.done q b hq hb (Or.inr ⟨rfl,hb⟩) hlb
    ·exact h.done q b hq hb (Or.inl (by omega)) hlb
   ·omega}
theorem least_one (s0:Sit):LeastI f lets words s0 0 0 [(s0,[])]:=by
 refine ⟨by simp,rfl,fun q r h1 h2=> ?_,fun _ r hr=> ?_,fun q b _ _ hc=>by omega,fun r hr=> ?_,fun r h1 h2=> ?_⟩
 ·simp at h2;omega
 ·simp only[List.length_cons,List.length_nil,Nat.zero_add] at hr
  obtain rfl:r=0:=by omega
  exact Or.inl (by simp[nth])
 ·simp only[List.length_cons,List.length_nil,Nat.zero_add] at hr
  obtain rfl:r=0:=by omega
  rfl
 ·simp at h2;omega
theorem least_found {s0:Sit} {i a:Nat} {ts:List PvT} (h:LeastI f lets words s0 i a ts) (hi:i<ts.length):∀(m:Nat) (v:List Int) (s:Sit) (j:Nat),v.length=m→goTo f lets words s0 v=some s→j≤i→Le v (nth dT ts j).2→∃k,k≤j∧(nth dT ts k).1=s∧Le (nth dT ts k).2 v
 |0,v,s,j,hm,hg,hj,hv=>by
  obtain rfl:v=[]:=List.eq_nil_of_length_eq_zero hm
  simp only[goTo,Option.some.injEq] at hg
  exact ⟨0,Nat.zero_le _,by rw[h.zero];exact hg,by rw[h.zero];exact le_iff.2 (Or.inl rfl)⟩
 | m +1,v,s,j,hm,hg,hj,hv=>by
  obtain ⟨u,x,rfl⟩:∃u x,v=u++[x]:=by
   rcases List.eq_nil_or_concat v with rfl|⟨u,x,rfl⟩
   ·simp at hm
   ·exact ⟨u,x,by simp⟩
  rw[goTo_app] at hg
  cases hu:goTo f lets words s0 u with
  |none=>rw[hu] at hg;cases hg
  | some s'=>
   rw[hu,Option.bind_some] at hg
   obtain ⟨⟨g0,g1⟩,g2,g3,rfl⟩:=goTo_one hg
   have hj0:0<j:=by
    rcases Nat.eq_zero_or_pos j with e|e
    ·subst e
     rw[h.zero] at hv
     exact absurd (Or.inl (by simp)) hv
    ·exact e
   obtain ⟨q,y,hq,hy⟩:=h.from' j hj0 (by omega)
   rw[hy] at hv
   have huq:Le u (nth dT ts q).2:=fun hb=>hv ((bef_app _ _ _ _).2 (Or.inl hb))
   obtain ⟨k',hk1,hk2,hk3⟩:=least_found h hi m u s' q (by simpa using hm) hu (by omega) huq
   have hd:=h.done k' x.toNat (by omega) (by omega) (Or.inl (by omega)) (by rw[hk2];exact g2)
   rw[hk2,show ((x.toNat:Nat):Int)=x by omega] at hd
   obtain ⟨_,r,hr1,hr2,hr3⟩:=hd
   have hle:Le (nth dT ts r).2 (u++[x]):=le_trans' hr3 (le_app x hk3)
   refine ⟨r,?_,hr2,hle⟩
   rcases Nat.lt_or_ge j r with hlt|hge
   ·have hs:=h.sort j r hlt hr1
    rw[hy] at hs
    exact absurd hs (le_trans' hle hv)
   ·exact hge
theorem least_brk {s0:Sit} {w:List Int} (hb:Brk f lets words (LeastI f lets words s0) w):brokeL f lets words s0 0 w=((w.length-1:Nat):Int)∧0<w.length∧
  ∀(u:List Int) (b:Int) (s:Sit),goTo f lets words s0 u=some s→(0≤b∧b<(words:Int))→lets s b.toNat=true→(f s b.toNat).2.2.2=false→¬Bef (u++[b]) w:=by
 obtain ⟨i,a,ts,hi,ha,h,hl,hok,rfl⟩:=hb
 refine ⟨?_,by simp,fun u b s hu hb hlb hkb hbef=> ?_⟩
 ·rw[brokeL_go _ _ _ _ 0 (h.way i hi)]
  simp only[brokeL,Int.toNat_natCast,hl,hok,Bool.and_true,cond_false]
  rw[decide_eq_true (show (0:Int)≤(a:Int)∧(a:Int)<(words:Int) by omega),cond_true]
  simp
 ·have hle:Le u (nth dT ts i).2:=by
   rcases (bef_app _ _ _ _).1 hbef with h1|⟨h1,_⟩
   ·exact le_iff.2 (Or.inr h1)
   ·exact le_iff.2 (Or.inl h1)
  obtain ⟨k,hk1,hk2,hk3⟩:=least_found h hi u.length u s i rfl hu (Nat.le_refl _) hle
  have fin:(k<i∨(k=i∧b.toNat<a))→False:=fun hc=>by
   have:=(h.done k b.toNat (by omega) (by omega) hc (by rw[hk2];exact hlb)).1
   rw[hk2,hkb] at this;cases this
  rcases Nat.lt_or_ge k i with hlt|hge
  ·exact fin (Or.inl hlt)
  ·obtain rfl:k=i:=by omega
   rcases (bef_app _ _ _ _).1 hbef with h1|⟨h1,h2⟩
   ·exact hk3 h1
   ·exact fin (Or.inr ⟨rfl,by omega⟩)
end
end Go.Proofs.YtiglikocfjhkcaaDoor
