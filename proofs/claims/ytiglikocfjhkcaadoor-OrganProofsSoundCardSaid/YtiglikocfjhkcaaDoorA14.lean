/- Regions in any order. -/
import Derived.Test.YtiglikocfjhkcaaDoorA13
import Derived.Scope
set_option linter.all false
set_option linter.unusedVariables false
set_option linter.unusedSimpArgs false
namespace Go.Abs
variable [Globs]
open Go.RowKit (Below)
section
variable {H:List Blk} {μ:Nat→Value} {w:World} {S:Nat→Prop} {w0:World} {S0:Sc} {cx:Cx}
theorem edgeBits_spec {acc:List Nat} {i:Nat}:∀ {l:List Edge},(edgeBits acc l).testBit i=true→∃e∈l,Region.binds .any e=true∧(i=e.on∨(nth 0 acc e.on).testBit i=true)
 |[],h=>by simp[edgeBits] at h
 | e::l,h=>by
  simp only[edgeBits] at h
  cases hb:Region.binds .any e with
  |false=>
   rw[hb] at h
   obtain ⟨e',h1,h2⟩:=edgeBits_spec h
   exact ⟨e',List.mem_cons_of_mem _ h1,h2⟩
  | true=>
   rw[hb] at h
   simp only[cond_true,Nat.testBit_or,Bool.or_eq_true] at h
   rcases h with h|h|h
   ·obtain ⟨e',h1,h2⟩:=edgeBits_spec h
    exact ⟨e',List.mem_cons_of_mem _ h1,h2⟩
   ·rw[Nat.testBit_two_pow] at h
    exact ⟨e,by simp,hb, .inl (by simpa using Eq.symm (by simpa using h))⟩
   ·exact ⟨e,by simp,hb, .inr h⟩
theorem befs_spec:∀(l:List Oper) (acc:List Nat) (k i:Nat),(nth 0 (befs l acc) k).testBit i=true→
  (k<acc.length∧(nth 0 acc k).testBit i=true)∨∃o,acc.length≤k∧l[k-acc.length]?=some o∧∃e∈o.after.toList,Region.binds .any e=true∧(i=e.on∨(e.on<k∧(nth 0 (befs l acc) e.on).testBit i=true))
 |[],acc,k,i,h=>by
  simp only[befs] at h
  refine .inl ⟨Nat.lt_of_not_le fun hk=> ?_,h⟩
  rw[nth_ge _ _ _ hk] at h;simp at h
 | o ::l,acc,k,i,h=>by
  have keep:∀(l:List Oper) (acc:List Nat) (q:Nat),q<acc.length→nth 0 (befs l acc) q=nth 0 acc q:=fun l=>by
   induction l with
   |nil=>intro acc q _;rfl
   |cons o l ih=>
    intro acc q hq
    simp only[befs]
    rw[ih _ q (by simp;omega),nth_append,if_pos hq]
  simp only[befs] at h
  rcases befs_spec l _ k i h with ⟨h1,h2⟩|⟨o',h1,h2,h3⟩
  ·simp only[List.length_append,List.length_cons,List.length_nil] at h1
   rw[nth_append] at h2
   by_cases hk:k<acc.length
   ·rw[if_pos hk] at h2;exact .inl ⟨hk,h2⟩
   ·rw[if_neg hk] at h2
    have hk':k=acc.length:=by omega
    subst hk'
    simp only[Nat.sub_self,nth] at h2
    obtain ⟨e,e1,e2,e3⟩:=edgeBits_spec h2
    refine .inr ⟨o,Nat.le_refl _,by simp,e,e1,e2,?_⟩
    rcases e3 with h|h
    ·exact .inl h
    ·have hlt:e.on<acc.length:=Nat.lt_of_not_le fun hk=>by rw[nth_ge _ _ _ hk] at h;simp at h
     refine .inr ⟨hlt,?_⟩
     rw[keep _ _ _ hlt];exact h
  ·simp only[List.length_append,List.length_cons,List.length_nil] at h1 h2
   refine .inr ⟨o',by omega,?_,?_⟩
   ·rw[show k-acc.length=(k-(acc.length+(0+1)))+1 by omega]
    simpa using h2
   ·obtain ⟨e,e1,e2,e3⟩:=h3
    exact ⟨e,e1,e2,e3⟩
theorem edgesOk_spec:∀(l:List Oper) (j:Nat),edgesOk l j=true→∀(i:Nat) (o:Oper),l[i]?=some o→∀e∈o.after.toList,Region.binds .any e=true→e.on<j+i
 |[],_,_,i,o,ho,_,_,_=>by simp at ho
 | x::l,j,h,i,o,ho,e,he,hb=>by
  simp only[edgesOk,Bool.and_eq_true] at h
  cases i with
  |zero=>
   simp at ho
   subst ho
   have:=List.all_eq_true.1 h.1 e he
   simp only[hb,Bool.not_true,Bool.false_or,Nat.blt_eq] at this
   omega
  |succ i=>
   have:=edgesOk_spec l (j+1) h.2 i o (by simpa using ho) e he hb
   omega
instance:Inhabited Foot:=⟨⟨[],[],[],[]⟩⟩
theorem drawRow_spec {bj:Nat} {f:Foot}:∀(l:List Foot) (k:Nat),drawRow bj f l k=true→∀i,i<l.length→bj.testBit (k+i)=true∨clash (nth default l i) f=false
 |[],_,_,i,hi=>by simp at hi
 | g::l,k,h,i,hi=>by
  simp only[drawRow,Bool.and_eq_true,Bool.or_eq_true,Bool.not_eq_true'] at h
  cases i with
  |zero=>simpa [nth] using h.1
  |succ i=>
   have:=drawRow_spec l (k+1) h.2 i (by simpa using hi)
   rw[show k+(i+1)=k+1+i by omega]
   exact this
theorem drawOk_spec {bs:List Nat}:∀(fs done:List Foot) (k:Nat),done.length=k→drawOk bs done fs k=true→∀j,k≤j→j<k+fs.length→∀i,i<j→(nth 0 bs j).testBit i=true∨clash (nth default (done++fs) i) (nth default (done++fs) j)=false
 |[],done,k,hk,h,j,h1,h2,i,hi=>by simp at h2;omega
 | f::fs,done,k,hk,h,j,h1,h2,i,hi=>by
  simp only[drawOk,Bool.and_eq_true] at h
  by_cases hj:j=k
  ·subst hj
   have:=drawRow_spec done 0 h.1 i (by omega)
   rw[nth_append,nth_append,if_pos (by omega),if_neg (by omega),show j-done.length=0 by omega]
   simpa [nth] using this
  ·have:=drawOk_spec fs (done++[f]) (k+1) (by simp[hk]) h.2 j (by omega) (by simp at h2;omega) i hi
   simpa using this
theorem meets_spec {a b:List Nat}:meets a b=true↔∃x,x∈a∧x∈b:=by simp[meets]
theorem mem_upTo:∀(n b x:Nat),x∈upTo n b↔b≤x∧x<b+n
 |0,b,x=>by simp[upTo]
 |n+1,b,x=>by simp only[upTo,List.mem_cons,mem_upTo n (b+1) x];omega
section draw
variable {ops:Array Oper} {B:Nat} {st:St}
def eff (cx:Cx) (B:Nat) (l:List Oper) (st:St) (i:Nat):Ef:=
 {dst:=(nth default l i).dst,val:=stepVal cx l (bse B l i) (nth default l i) (stt cx B l st i).T (stt cx B l st i).H,wr:=(opE cx l (stt cx B l st i).T (stt cx B l st i).H (bse B l i) (nth default l i)).wr}
variable (hchk:∀i o,i<ops.toList.length→ops.toList[i]?=some o→stepChk cx ops.toList (bse B ops.toList i) o (stt cx B ops.toList st i).T (stt cx B ops.toList st i).H=true)
include hchk
theorem app_all:∀n,n≤ops.toList.length→app (eff cx B ops.toList st) (fun _=>true) n (st.T,st.H)=((stt cx B ops.toList st n).T,(stt cx B ops.toList st n).H)
 |0,_=>rfl
 |n+1,h=>by
  have hn:n<ops.toList.length:=by omega
  have hg:ops.toList[n]?=some (nth default ops.toList n):=by rw[List.getElem?_eq_getElem hn,nth_lt _ _ _ hn]
  have e:=stepOp_TH (hchk n _ hn hg)
  simp only[app,if_true,app_all n (by omega),stt,hg,e.1,e.2]
  rfl
theorem app_prefix (n j:Nat) (hn:n≤ops.toList.length) (hj:j≤n):app (eff cx B ops.toList st) (fun i=>Nat.blt i j) n (st.T,st.H)=((stt cx B ops.toList st j).T,(stt cx B ops.toList st j).H):=by
 induction n with
 | zero => obtain rfl:j=0:=by omega
           rfl
 | succ n ih=>
  by_cases hjn:j=n+1
  ·subst hjn
   rw[←app_all hchk (n+1) hn]
   exact app_L _ fun i hi=>by simpa [Nat.blt_eq] using hi
  ·have:Nat.blt n j=false:=by rw[Bool.eq_false_iff];simp[Nat.blt_eq];omega
   simp only[app,this]
   exact ih (by omega) (by omega)
variable (hdr:∀i j,i<j→j<ops.toList.length→(nth 0 (befs ops.toList []) j).testBit i=true∨clash (ftt cx B ops.toList st i) (ftt cx B ops.toList st j)=false)
 (hed:∀i o,ops.toList[i]?=some o→∀e∈o.after.toList,Region.binds .any e=true→e.on<i)
def Down (ops:Array Oper) (L:Nat→Bool):Prop:=∀(j:Nat) (o:Oper),ops.toList[j]?=some o→L j=true→∀e∈o.after.toList,Region.binds .any e=true→L e.on=true
omit hchk in
theorem bef_listed {L:Nat→Bool} (hL:Down ops L) {i:Nat}:∀(j:Nat) (o:Oper),ops.toList[j]?=some o→(∀e∈o.after.toList,Region.binds .any e=true→L e.on=true)→(nth 0 (befs ops.toList []) j).testBit i=true→L i=true:=by
 intro j
 induction j using Nat.strongRecOn with
 | _ j ih=>
  intro o ho he hb
  rcases befs_spec ops.toList [] j i hb with ⟨h,_⟩|⟨o',_,h2,e,e1,e2,e3⟩
  ·simp at h
  ·have hoo:o'=o:=by simp only[List.length_nil,Nat.sub_zero] at h2;rw[ho] at h2;exact (Option.some.inj h2).symm
   subst hoo
   have hl:=he e e1 e2
   rcases e3 with rfl|⟨h3,h4⟩
   ·exact hl
   ·have hlt:e.on<ops.toList.length:=by
     have:=(List.getElem?_eq_some_iff.1 ho).1
     omega
    have hg:ops.toList[e.on]?=some ops.toList[e.on]:=List.getElem?_eq_getElem hlt
    exact ih e.on h3 _ hg (hL e.on _ hg hl) h4
include hdr
theorem agree {L:Nat→Bool} (hL:Down ops L) {j:Nat} {o:Oper} (ho:ops.toList[j]?=some o) (hj:L j=false) (he:∀e∈o.after.toList,Region.binds .any e=true→L e.on=true) (i:Nat) (hi:i<ops.toList.length)
  (hc:(i<j→clash (ftt cx B ops.toList st i) (ftt cx B ops.toList st j)=true)∧(j<i→clash (ftt cx B ops.toList st j) (ftt cx B ops.toList st i)=true)):L i=Nat.blt i j:=by
 have hjl:=(List.getElem?_eq_some_iff.1 ho).1
 rcases Nat.lt_trichotomy i j with h|h|h
 ·have h1:Nat.blt i j=true:=by simpa [Nat.blt_eq] using h
  rw[h1]
  rcases hdr i j h hjl with hb|hb
  ·exact bef_listed hL j o ho he hb
  ·rw[hc.1 h] at hb;cases hb
 ·subst h
  rw[hj];symm;rw[Bool.eq_false_iff];simp[Nat.blt_eq]
 ·have h1:Nat.blt i j=false:=by rw[Bool.eq_false_iff];simp[Nat.blt_eq];omega
  rw[h1]
  cases hli:L i with
  |false=>rfl
  | true=>
   rcases hdr j i h hi with hb|hb
   ·have hg:ops.toList[i]?=some ops.toList[i]:=List.getElem?_eq_getElem hi
    have:=bef_listed hL i _ hg (hL i _ hg hli) hb
    rw[hj] at this;cases this
   ·rw[hc.2 h] at hb;cases hb
theorem indep_at {L:Nat→Bool} (hL:Down ops L) {j:Nat} (hj:L j=false) (k:Nat) (hjk:j<k) (hk:k<ops.toList.length) (hlk:L k=true):indep (eff cx B ops.toList st j) (eff cx B ops.toList st k):=by
 have nc:clash (ftt cx B ops.toList st j) (ftt cx B ops.toList st k)=false:=by
  rcases hdr j k hjk hk with hb|hb
  ·have hg:ops.toList[k]?=some ops.toList[k]:=List.getElem?_eq_getElem hk
   have:=bef_listed hL k _ hg (hL k _ hg hlk) hb
   rw[hj] at this;cases this
  ·exact hb
 simp only[clash,Bool.or_eq_false_iff] at nc
 obtain ⟨⟨⟨n1,n2⟩,n3⟩,n4⟩:=nc
 refine ⟨fun d h1 h2=> ?_,fun b h1 h2=> ?_⟩
 ·rw[Bool.eq_false_iff] at n3
  exact n3 (meets_spec.2 ⟨d,by simp only[ftt,footOf];simp only[eff] at h1;simp[h1],by simp only[ftt,footOf];simp only[eff] at h2;simp[h2]⟩)
 ·rw[Bool.eq_false_iff] at n1
  exact n1 (meets_spec.2 ⟨b,by simp only[ftt,footOf,List.mem_append];exact .inl h1,by simp only[ftt,footOf,List.mem_append];exact .inl (.inl h2)⟩)
variable (hC:CSound cx.P cx.C) (hB:∀b,B≤b→nth .free st.H b= .free) (hlen:B+slotsAll ops.toList≤st.H.length)
include hC hB hlen hchk hed
theorem draw_sim (hnn:∀o∈ops.toList,isNextO o=false) {Q:Exit→Act→World→Prop} (hQ:∀a w,RepTH w0 S0 (stt cx B ops.toList st ops.toList.length).T (stt cx B ops.toList st ops.toList.length).H a w→Q .normal a w):
  ∀(fuel:Nat) (listed:Array Bool) (a:Act) (w:World),listed.size=ops.toList.length→Down ops (fun i=>listed.getD i false)→((List.range ops.toList.length).filter fun i=> !listed.getD i false).length≤fuel→
   RepTH w0 S0 (app (eff cx B ops.toList st) (fun i=>listed.getD i false) ops.toList.length (st.T,st.H)).1 (app (eff cx B ops.toList st) (fun i=>listed.getD i false) ops.toList.length (st.T,st.H)).2 a w→
   wpAny cx.P .any ops Q fuel listed a w:=by
 have hsz:ops.size=ops.toList.length:=by simp
 have done:∀(listed:Array Bool) (a:Act) (w:World),(∀i,i<ops.toList.length→listed.getD i false=true)→RepTH w0 S0 (app (eff cx B ops.toList st) (fun i=>listed.getD i false) ops.toList.length (st.T,st.H)).1 (app (eff cx B ops.toList st) (fun i=>listed.getD i false) ops.toList.length (st.T,st.H)).2 a w→Q .normal a w:=fun listed a w h hr=>by
  rw[app_L (L':=fun _=>true) _ fun i hi=>h i hi,app_all hchk _ (Nat.le_refl _)] at hr
  exact hQ a w hr
 have rdy:∀(listed:Array Bool) j,listed.size=ops.toList.length→(j∈Region.ready .any ops listed↔∃o,ops.toList[j]?=some o∧listed.getD j false=false∧∀e∈o.after.toList,Region.binds .any e=true→listed.getD e.on false=true):=fun listed j hs=>by
  simp only[Region.ready,List.mem_filter,List.mem_range,Bool.and_eq_true,Bool.not_eq_true']
  constructor
  ·rintro ⟨h1,h2,h3⟩
   have hj:j<ops.toList.length:=by omega
   have hg:ops[j]?=some ops[j]:=Array.getElem?_eq_getElem h1
   refine ⟨ops[j],by rw[←hg];simp,?_,fun e he hb=> ?_⟩
   ·rw[Array.getD_eq_getD_getElem?,Array.getElem?_eq_getElem (by omega)] at h2⊢;exact h2
   ·rw[hg] at h3
    simp only[Option.map_some,Option.getD_some,Array.all_eq_true_iff_forall_mem] at h3
    have:=h3 e (Array.mem_toList_iff.1 he)
    simpa [hb] using this
  ·rintro ⟨o,h1,h2,h3⟩
   have hj:=(List.getElem?_eq_some_iff.1 h1).1
   have hg:ops[j]?=some o:=by rw[←h1];simp
   refine ⟨by omega,?_,?_⟩
   ·rw[Array.getD_eq_getD_getElem?,Array.getElem?_eq_getElem (by omega)] at h2⊢;exact h2
   ·rw[hg]
    simp only[Option.map_some,Option.getD_some,Array.all_eq_true_iff_forall_mem]
    intro e he
    cases hb:Region.binds .any e with
    |false=>rfl
    |true=>simpa using h3 e (Array.mem_toList_iff.2 he) hb
 have full:∀(listed:Array Bool),listed.size=ops.toList.length→Region.ready .any ops listed=[]→∀i,i<ops.toList.length→listed.getD i false=true:=fun listed hs hr i=>by
  induction i using Nat.strongRecOn with
  | _ i ih=>
   intro hi
   cases hl:listed.getD i false with
   |true=>rfl
   | false=>
    have hg:ops.toList[i]?=some ops.toList[i]:=List.getElem?_eq_getElem hi
    have:i∈Region.ready .any ops listed:=(rdy listed i hs).2 ⟨_,hg,hl,fun e he hb=>by
     have:=hed i _ hg e he hb
     exact ih e.on this (by omega)⟩
    rw[hr] at this;cases this
 intro fuel
 induction fuel with
 | zero=>
  intro listed a w hs hL hcount hr
  have hall:∀i,i<ops.toList.length→listed.getD i false=true:=fun i hi=>by
   cases hl:listed.getD i false with
   |true=>rfl
   |false=>
    have:i∈(List.range ops.toList.length).filter fun i=> !listed.getD i false:=by simp only[List.mem_filter,List.mem_range];exact ⟨hi,by simp[hl]⟩
    have h0:=List.eq_nil_of_length_eq_zero (Nat.le_zero.1 hcount)
    rw[h0] at this;cases this
  refine ⟨?_,done listed a w hall hr⟩
  rw[List.eq_nil_iff_forall_not_mem]
  intro j hj
  obtain ⟨o,h1,h2,_⟩:=(rdy listed j hs).1 hj
  rw[hall j (List.getElem?_eq_some_iff.1 h1).1] at h2;cases h2
 | succ fuel ih=>
  intro listed a w hs hL hcount hr
  refine ⟨fun hr0=>done listed a w (full listed hs hr0) hr,fun j hj=> ?_⟩
  obtain ⟨o,ho,hlj,hej⟩:=(rdy listed j hs).1 hj
  have hjl:=(List.getElem?_eq_some_iff.1 ho).1
  have hnj:nth default ops.toList j=o:=by rw[nth_lt _ _ _ hjl];exact (List.getElem?_eq_some_iff.1 ho).2
  have hag:=agree (st:=st) (B:=B) (cx:=cx) hchk hdr hL ho hlj hej
  have hpre:=app_prefix hchk ops.toList.length j (Nat.le_refl _) (by omega)
  have hT:∀t,t∈tmpsOf o.op.operands.toList++(guardD ops.toList o.guard).toList→nth .junk (app (eff cx B ops.toList st) (fun i=>listed.getD i false) ops.toList.length (st.T,st.H)).1 t=nth .junk (stt cx B ops.toList st j).T t:=fun t ht=>by
   have e:=app_T (E:=eff cx B ops.toList st) (L:=fun i=>listed.getD i false) (L':=fun i=>Nat.blt i j) (s:=(st.T,st.H)) (t:=t) ops.toList.length fun i hi hd=>hag i hi (by
    have hd':t∈(ftt cx B ops.toList st i).dst:=by simp only[ftt,footOf];simp only[eff] at hd;simp[hd]
    have hu:t∈(ftt cx B ops.toList st j).use:=by simp only[ftt,footOf,hnj];exact ht
    exact ⟨fun _=>by simp only[clash,Bool.or_eq_true];exact .inl (.inr (meets_spec.2 ⟨t,hd',List.mem_append_right _ hu⟩)),fun _=>by simp only[clash,Bool.or_eq_true];exact .inr (meets_spec.2 ⟨t,hd',hu⟩)⟩)
   rw[e,hpre]
  have hHr:∀b,b∈opRd cx (stt cx B ops.toList st j).T (stt cx B ops.toList st j).H o→nth .free (app (eff cx B ops.toList st) (fun i=>listed.getD i false) ops.toList.length (st.T,st.H)).2 b=nth .free (stt cx B ops.toList st j).H b:=fun b hb=>by
   have e:=app_H (E:=eff cx B ops.toList st) (L:=fun i=>listed.getD i false) (L':=fun i=>Nat.blt i j) (s:=(st.T,st.H)) (b:=b) ops.toList.length fun i hi hd=>hag i hi (by
    have hd':b∈(ftt cx B ops.toList st i).wr:=by simp only[ftt,footOf,List.mem_append];exact .inl hd
    have hu:b∈(ftt cx B ops.toList st j).rd:=by simp only[ftt,footOf,hnj];exact hb
    exact ⟨fun _=>by simp only[clash,Bool.or_eq_true];exact .inl (.inl (.inl (meets_spec.2 ⟨b,hd',List.mem_append_right _ hu⟩))),fun _=>by simp only[clash,Bool.or_eq_true];exact .inl (.inl (.inr (meets_spec.2 ⟨b,hd',hu⟩)))⟩)
   rw[e,hpre]
  have hHf:∀b,bse B ops.toList j≤b→b<bse B ops.toList j+slots o→nth .free (app (eff cx B ops.toList st) (fun i=>listed.getD i false) ops.toList.length (st.T,st.H)).2 b=nth .free (stt cx B ops.toList st j).H b:=fun b h1 h2=>by
   have hu:b∈(ftt cx B ops.toList st j).wr:=by simp only[ftt,footOf,hnj,List.mem_append];exact .inr ((mem_upTo _ _ _).2 ⟨h1,h2⟩)
   have e:=app_H (E:=eff cx B ops.toList st) (L:=fun i=>listed.getD i false) (L':=fun i=>Nat.blt i j) (s:=(st.T,st.H)) (b:=b) ops.toList.length fun i hi hd=>hag i hi (by
    have hd':b∈(ftt cx B ops.toList st i).wr:=by simp only[ftt,footOf,List.mem_append];exact .inl hd
    exact ⟨fun _=>by simp only[clash,Bool.or_eq_true];exact .inl (.inl (.inl (meets_spec.2 ⟨b,hd',List.mem_append_left _ hu⟩))),fun _=>by simp only[clash,Bool.or_eq_true];exact .inl (.inl (.inl (meets_spec.2 ⟨b,hu,List.mem_append_left _ hd'⟩)))⟩)
   rw[e,hpre]
  have hcong:=opE_congr (cx:=cx) (base:=bse B ops.toList j) (o:=o) (T:=(stt cx B ops.toList st j).T) (H:=(stt cx B ops.toList st j).H) (fun t ht=>(hT t (List.mem_append_left _ ht)).symm) (fun b hb=>(hHr b hb).symm)
  have hgb:guardB ops.toList (app (eff cx B ops.toList st) (fun i=>listed.getD i false) ops.toList.length (st.T,st.H)).1 o.guard=guardB ops.toList (stt cx B ops.toList st j).T o.guard:=by
   cases hgd:o.guard with
   |none=>rfl
   | some p=>
    obtain ⟨q,want⟩:=p
    simp only[guardB]
    cases hd:(nth none (ops.toList.map some) q).bind (·.dst) with
    |none=>rfl
    |some d=>
     have:=hT d (List.mem_append_right _ (by simp[guardD,hgd,hd]))
     simp only[this]
  have hoe:opE cx ops.toList (app (eff cx B ops.toList st) (fun i=>listed.getD i false) ops.toList.length (st.T,st.H)).1 (app (eff cx B ops.toList st) (fun i=>listed.getD i false) ops.toList.length (st.T,st.H)).2 (bse B ops.toList j) o=opE cx ops.toList (stt cx B ops.toList st j).T (stt cx B ops.toList st j).H (bse B ops.toList j) o:=by
   unfold opE
   rw[hgb,←hcong.1]
  have hchkL:stepChk cx ops.toList (bse B ops.toList j) o (app (eff cx B ops.toList st) (fun i=>listed.getD i false) ops.toList.length (st.T,st.H)).1 (app (eff cx B ops.toList st) (fun i=>listed.getD i false) ops.toList.length (st.T,st.H)).2=true:=by
   have:=hchk j o hjl ho
   simp only[stepChk] at this⊢
   rw[hgb,hoe,←hcong.2]
   exact this
  have hvalL:stepVal cx ops.toList (bse B ops.toList j) o (app (eff cx B ops.toList st) (fun i=>listed.getD i false) ops.toList.length (st.T,st.H)).1 (app (eff cx B ops.toList st) (fun i=>listed.getD i false) ops.toList.length (st.T,st.H)).2=(eff cx B ops.toList st j).val:=by
   simp only[stepVal,eff,hnj]
   rw[hgb,hoe]
  have hwrL:(opE cx ops.toList (app (eff cx B ops.toList st) (fun i=>listed.getD i false) ops.toList.length (st.T,st.H)).1 (app (eff cx B ops.toList st) (fun i=>listed.getD i false) ops.toList.length (st.T,st.H)).2 (bse B ops.toList j) o).wr=(eff cx B ops.toList st j).wr:=by
   simp only[eff,hnj]
   rw[hoe]
  have hfree:FreeAt (app (eff cx B ops.toList st) (fun i=>listed.getD i false) ops.toList.length (st.T,st.H)).2 (bse B ops.toList j) (slots o):=fun i hi=>by
   refine ⟨?_,?_⟩
   ·rw[hHf _ (by omega) (by omega)]
    exact stt_free hB j (fun i' o' hi2=>hchk i' o' (by omega)) _ (by omega)
   ·rw[(app_length _ _ _ _).2]
    have:=bse_all (B:=B) (l:=ops.toList) (i:=j+1)
    rw[bse_succ ho] at this
    show bse B ops.toList j+i<st.H.length
    omega
  obtain ⟨μ,S,h1,hst,h2,h3⟩:=hr
  refine step_sim (by rw[←ho];simp) hC h1 hst h2 h3 hfree hchkL (NextOk.none (cx:=cx) (w0:=w0) (S0:=S0) (hnn o (List.mem_of_getElem? ho)) μ S h1 h3) fun a' w' hr'=> ?_
  rw[hvalL,hwrL] at hr'
  have hjs:j<listed.size:=by omega
  have hset:∀i,(listed.setIfInBounds j true).getD i false=(i==j||listed.getD i false):=fun i=>by
   by_cases hij:i=j
   ·subst hij;simp[Array.getD_eq_getD_getElem?,hjs]
   ·rw[Array.getD_eq_getD_getElem?,Array.getElem?_setIfInBounds,if_neg (Ne.symm hij),←Array.getD_eq_getD_getElem?]
    have hb:(i==j)=false:=by simpa using hij
    rw[hb,Bool.false_or]
  refine ih _ a' w' (by simp[hs]) (fun i o' ho' hi e he hb=> ?_) ?_ ?_
  ·simp only[hset] at hi⊢
   simp only[Bool.or_eq_true,beq_iff_eq] at hi⊢
   rcases hi with rfl|hi
   ·rw[ho] at ho';cases ho'
    exact .inr (hej e he hb)
   ·exact .inr (hL i o' ho' hi e he hb)
  ·have hmem:j∈(List.range ops.toList.length).filter fun i=> !listed.getD i false:=by
    simp only[List.mem_filter,List.mem_range];exact ⟨hjl,by rw[hlj];rfl⟩
   have hsub:((List.range ops.toList.length).filter fun i=> !(listed.setIfInBounds j true).getD i false)=((List.range ops.toList.length).filter fun i=> !listed.getD i false).filter (fun i=>i !=j):=by
    rw[List.filter_filter]
    refine List.filter_congr fun i _=> ?_
    rw[hset]
    show (!(i==j||listed.getD i false))=(!(i==j)&& !listed.getD i false)
    cases (i==j)<;>cases listed.getD i false<;>rfl
   rw[hsub]
   have hlt:(((List.range ops.toList.length).filter fun i=> !listed.getD i false).filter (fun i=>i !=j)).length<((List.range ops.toList.length).filter fun i=> !listed.getD i false).length:=
    List.length_filter_lt_length_iff_exists.2 ⟨j,hmem,by simp⟩
   omega
  ·have hins:=app_insert (E:=eff cx B ops.toList st) (L:=fun i=>listed.getD i false) (s:=(st.T,st.H)) (j:=j) hlj ops.toList.length hjl fun k h4 h5 h6=>indep_at hchk hdr hL hlj k h4 h5 h6
   have heq:(fun i=>(listed.setIfInBounds j true).getD i false)=fun i=>i==j||listed.getD i false:=funext hset
   rw[heq,hins]
   have hd:(eff cx B ops.toList st j).dst=o.dst:=by simp only[eff,hnj]
   simp only[Ef.act,hd]
   exact hr'
end draw
theorem region_sim {id:Nat} {ops:Array Oper} {draw:Bool} {st:St} {a:Act} {Q:Exit→Act→World→Prop} (hC:CSound cx.P cx.C) (hm:cx.P.follows .mixedOrders=true) (hr:RepTH w0 S0 st.T st.H a w) (hok:(runRegion cx ops draw st).ok=true)
  (hno:(∀o∈ops.toList,isNextO o=false)∨(draw=false∧(∀i o,ops.toList[i]?=some o→0<i→isNextO o=false)∧∀o,ops.toList[0]?=some o→NextOk cx w0 S0 st.T (st.H++frees (slotsAll ops.toList)) o a w))
  (hQ:∀a' w',RepTH w0 S0 (runRegion cx ops draw st).T (runRegion cx ops draw st).H a' w'→Q .normal a' w'):(Code.region id ops draw).wp cx.P Q a w:=by
 have hB:∀b,st.H.length≤b→nth .free (st.H++frees (slotsAll ops.toList)) b= .free:=fun b hb=>by rw[nth_app_frees,nth_ge _ _ _ hb]
 have hlen:st.H.length+slotsAll ops.toList≤(st.H++frees (slotsAll ops.toList)).length:=by simp[frees_length]
 have hr1:RepTH w0 S0 st.T (st.H++frees (slotsAll ops.toList)) a w:=hr.same fun b=>nth_app_frees _ _ _
 cases draw with
 |false=>
  simp only[runRegion] at hok hQ
  rw[runOps_eq] at hok hQ
  obtain ⟨_,hchk⟩:=stt_ok _ hok
  have hn0:∀i o,ops.toList[i]?=some o→0<i→isNextO o=false:=fun i o h hp=>hno.elim (fun h'=>h' o (List.mem_of_getElem? h)) fun h'=>h'.2.1 i o h hp
  have hn1:∀o,ops.toList[0]?=some o→NextOk cx w0 S0 st.T (st.H++frees (slotsAll ops.toList)) o a w:=fun o h=>hno.elim (fun h'=> .none (h' o (List.mem_of_getElem? h))) fun h'=>h'.2.2 o h
  refine wp_region ?_
  have:=seq_sim (w0:=w0) (S0:=S0) (Q:=Q) (st:={st with H:=st.H++frees (slotsAll ops.toList)}) hC hB hlen hchk hn0 (fun a w h=>hQ a w h) ops.toList.length 0 (by omega) a w hr1 (fun _ o ho=>hn1 o ho)
  rw[List.range_eq_range']
  simpa using this
 | true=>
  simp only[runRegion,Bool.and_eq_true] at hok hQ
  rw[runOps_eq] at hok hQ
  obtain ⟨⟨ho1,ho2⟩,ho3⟩:=hok
  obtain ⟨_,hchk⟩:=stt_ok _ ho3
  rw[feet_eq] at ho2
  refine wp_region_any hm ?_
  have hr2:RepTH w0 S0 st.T (st.H++frees (slotsAll ops.toList)) a {w with drawn:=w.drawn+1}:=hr1.grow ⟨rfl,rfl,rfl,Nat.le_refl _,fun _ _=>rfl⟩
  refine draw_sim (st:={st with H:=st.H++frees (slotsAll ops.toList)}) (B:=st.H.length) hchk (fun i j hij hj=> ?_) (fun i o ho e he hb=>by have:=edgesOk_spec _ 0 ho1 i o ho e he hb;omega) hC hB hlen (hno.elim (fun h'=>h') fun h=>by cases h.1) (fun a w h=>hQ a w h) ops.size _ a _ (by simp) ?_ ?_ ?_
  ·have:=drawOk_spec _ [] 0 rfl ho2 j (Nat.zero_le _) (by simpa using hj) i hij
   simp only[List.nil_append] at this
   have hn:∀k,k<ops.toList.length→nth default ((List.range' 0 ops.toList.length).map (ftt cx st.H.length ops.toList {st with H:=st.H++frees (slotsAll ops.toList)})) k=ftt cx st.H.length ops.toList {st with H:=st.H++frees (slotsAll ops.toList)} k:=fun k hk=>by
    rw[nth_lt _ _ _ (by simpa using hk)];simp
   rw[hn i (by omega),hn j hj] at this
   exact this
  ·intro j o _ hj
   simp only[Array.getD_eq_getD_getElem?,Array.getElem?_replicate] at hj
   split at hj<;>simp at hj
  ·refine Nat.le_trans (List.length_filter_le _ _) (by simp)
  ·have e:app (eff cx st.H.length ops.toList {st with H:=st.H++frees (slotsAll ops.toList)}) (fun i=>(Array.replicate ops.size false).getD i false) ops.toList.length (st.T,st.H++frees (slotsAll ops.toList))=(st.T,st.H++frees (slotsAll ops.toList)):=by
    have:∀n,app (eff cx st.H.length ops.toList {st with H:=st.H++frees (slotsAll ops.toList)}) (fun i=>(Array.replicate ops.size false).getD i false) n (st.T,st.H++frees (slotsAll ops.toList))=(st.T,st.H++frees (slotsAll ops.toList)):=fun n=>by
     induction n with
     |zero=>rfl
     | succ n ih=>
      have:(Array.replicate ops.size false).getD n false=false:=by
       simp only[Array.getD_eq_getD_getElem?,Array.getElem?_replicate];split<;>rfl
      simp only[app,this]
      exact ih
    exact this _
   rw[e]
   exact hr2
end
end Go.Abs

namespace Go.Abs
variable [Globs]
open Go.RowKit (Below)
section
variable {H:List Blk} {μ:Nat→Value} {w:World} {S:Nat→Prop} {w0:World} {S0:Sc} {cx:Cx}
theorem keep_length:∀(l:List AV) (live:List Nat) (n:Nat),(keep live l n).length=l.length
 |[],_,_=>rfl
 |_::l,live,n=>by simp[keep,keep_length l live (n+1)]
theorem keep_sound {live:List Nat} {us:Nat→Value}:∀(l:List AV) (n:Nat),grdL live l n=true→(∀i,i<l.length→VR H μ w S (nth .junk l i) (us i))→∀i,i<l.length→VR H μ w S (nth .junk (keep live l n) i) (us i)
 |[],_,_,_,i,hi=>by simp at hi
 | v::l,n,hg,h,i,hi=>by
  simp only[grdL,Bool.and_eq_true] at hg
  cases i with
  |zero=>
   simp only[keep,nth]
   have h0:=h 0 (by simp)
   simp only[nth] at h0
   cases hl:live.contains n with
   |true=>rw[hl] at hg;exact vr_unw h0 hg.1
   |false=>exact .junk _
  |succ i=>exact keep_sound (us:=fun i=>us (i+1)) l (n+1) hg.2 (fun i hi=>h (i+1) (by simpa using hi)) i (by simpa using hi)
theorem pinOk_spec:∀(n:Nat) (l:List Nat) (k:Nat),pinOk n l k=true→∀i,i<n→i<l.length∧nth 0 l i=k+i
 |0,_,_,_,i,hi=>by omega
 |n+1,[],_,h,_,_=>by simp[pinOk] at h
 | n+1,b::l,k,h,i,hi=>by
  simp only[pinOk,Bool.and_eq_true,beq_iff_eq] at h
  cases i with
  |zero=>exact ⟨by simp,by simp[nth,h.1]⟩
  |succ i=>
   have:=pinOk_spec n l (k+1) h.2 i (by omega)
   exact ⟨by simpa using this.1,by simp only[nth];rw[this.2];omega⟩
theorem Pinned.ren {pin:Nat} {ord:List Nat} (h:Pinned S0 H μ) (hpn:S0.pin=pin) (hp:pinOk pin ord 0=true):Pinned S0 (renH pin H ord) (renM μ ord):=fun b hb=>by
 subst hpn
 obtain ⟨q1,q2⟩:=pinOk_spec _ _ _ hp b hb
 rw[Nat.zero_add] at q2
 rw[renH_nth q1,q2]
 simp only[renM,q2]
 obtain ⟨h1,h2,h3,h4,h5⟩:=h b hb
 refine ⟨fun cs hc=> ?_,fun r hr=> ?_,fun h=>⟨by rw[isMapB_ren];exact (h3 h).1,(h3 h).2⟩,fun h=>⟨by rw[isIterB_ren];exact (h4 h).1,(h4 h).2⟩,fun d hd=> ?_⟩
 ·obtain ⟨⟨cs',e⟩,hm⟩:=h1 cs hc
  exact ⟨⟨_,by rw[e];rfl⟩,hm⟩
 ·obtain ⟨r',e,hs,hz⟩:=h2 r hr
  refine ⟨_,renB_rd e,hs,fun h0 h1=>hz h0 ?_⟩
  have hb':Nat.blt b S0.pin=true:=by simpa [Nat.blt_eq] using hb
  simp only[nv,hb',cond_true] at h1
  cases hv:(r'.ver==0) with
  |true=>simpa using hv
  |false=>rw[hv] at h1;cases h1
 ·obtain ⟨d',e,hz⟩:=h5 d hd
  refine ⟨_,renB_tab e,fun p h0 h1=>hz p h0 ?_⟩
  have hb':Nat.blt b S0.pin=true:=by simpa [Nat.blt_eq] using hb
  rw[TD.nv_vp] at h1
  simp only[nv,hb',cond_true] at h1
  cases hv:(d'.vp p==0) with
  |true=>simpa using hv
  |false=>rw[hv] at h1;cases h1
theorem gc_sound {pin:Nat} {live:List Nat} {st:St} {a:Act} (hpn:S0.pin=pin) (h:RepTH w0 S0 st.T st.H a w) (hok:(gc pin live st).ok=true):RepTH w0 S0 (gc pin live st).T (gc pin live st).H a w:=by
 obtain ⟨μ,S,hr,hst,ha,hT⟩:=h
 simp only[gc,Bool.and_eq_true] at hok
 refine ⟨renM μ (gcOrd pin st.H (keep live st.T 0)),S,⟨ren_HR (reach_nodup _ _ _ List.nodup_nil) hr.hr fun b _ hlv B hB=> ?_,hr.below,hr.sub,hr.sup,hr.fresh,hr.pins.ren hpn hok.1⟩,hst,ha,?_,fun i hi=> ?_⟩
 ·cases hx:nth .free st.H b with
  |free=>rw[hx] at hlv;exact absurd hlv id
  |fro _ _ _ _=>rw[hx] at hlv;exact absurd hlv id
  |cells cs=>
   obtain ⟨B',_,_,hm,_,ho,_⟩:=hr.hr.cellsB hx
   rw[hm] at hB
   simp only[Owns,blkOf,Option.some.injEq] at hB
   exact hB▸ho
  |fmap _ _ _ _ _=>rw[hx] at hlv;exact absurd hlv id
  |map _ _ _ _ _=>
   obtain ⟨B',hm,ho,_⟩:=hr.hr.mapB hx
   rw[hm] at hB
   simp only[Owns,blkOf,Option.some.injEq] at hB
   exact hB▸ho
  |iter _ _ _ _ _ _=>
   obtain ⟨B',hm,ho,_⟩:=hr.hr.iterB hx
   rw[hm] at hB
   simp only[Owns,blkOf,Option.some.injEq] at hB
   exact hB▸ho
  |row _ _ _ _=>exact hr.hr.rowBase hx hB
  |tab _ _ _ _ _ _ _ _=>exact hr.hr.tabBase hx hlv hB
 ·simp only[gc,List.length_map,keep_length];exact hT.1
 ·simp only[gc,List.length_map,keep_length] at hi⊢
  rw[nth_map AV.junk AV.junk (ren pin st.H (gcOrd pin st.H (keep live st.T 0))) _ i (by rw[keep_length];exact hi)]
  exact ren_sound (keep_sound (us:=fun i=>a.tmps.getD i undef) st.T 0 hok.2.1 hT.2 i hi)
def Strict (k:Ex→St→Res):Prop:=∀ex st,(k ex st).ok=true→st.ok=true
theorem runRegion_ok {ops:Array Oper} {draw:Bool} {st:St} (h:(runRegion cx ops draw st).ok=true):st.ok=true:=by
 cases draw with
 |false=>simp only[runRegion] at h;rw[runOps_eq] at h;exact (stt_ok _ h).1
 |true=>
  simp only[runRegion,Bool.and_eq_true] at h
  rw[runOps_eq] at h
  exact (stt_ok _ h.2).1
theorem gc_ok {pin:Nat} {live:List Nat} {st:St} (h:(gc pin live st).ok=true):st.ok=true:=by
 simp only[gc,Bool.and_eq_true] at h;exact h.2.2
theorem cutG_ok {c:Code} {st:St} (h:(cutG cx c st).ok=true):st.ok=true:=by
 unfold cutG at h
 split at h
 ·exact h
 ·exact gc_ok h
theorem cutG_sound {c:Code} {st:St} {a:Act} (hpn:S0.pin=cx.pin) (h:RepTH w0 S0 st.T st.H a w) (hok:(cutG cx c st).ok=true):RepTH w0 S0 (cutG cx c st).T (cutG cx c st).H a w:=by
 unfold cutG at hok⊢
 split
 ·exact h
 ·rename_i x l hl
  simp only[hl] at hok
  exact gc_sound hpn h hok
theorem put_same:∀(T:List AV) (d:Nat),put T d (nth .junk T d)=T
 |[],_=>rfl
 |_::_,0=>rfl
 |x::T,d+1=>by simp only[put,nth,put_same T d]
theorem reG_eq {v:AV} {b:Bool} (h:unw v= .bool b):reG v b=v:=by
 cases v<;>simp only[unw,reG] at h⊢ <;>first|(rw[h];done)|(cases h;done)|(injection h with h;rw[h])
theorem setB_eq {st:St} {d:Nat} {b:Bool} (h:unw (nth .junk st.T d)= .bool b):setB st d b=st:=by
 simp only[setB,reG_eq h,put_same]
theorem splitQ_eq {ops:List Oper} {o:Oper} {st:St} {F:St→Res}:splitQ ops o st F=F st:=by
 unfold splitQ
 split
 ·rfl
 ·rename_i d _
  split
  ·rename_i b hb
   cases b<;>simp only[cond_true,cond_false,setB_eq hb]
  ·rfl
theorem earlyQ_ok {st:St} {F:St→Res} (h:(earlyQ st F).ok=true):st.ok=true∧∀F':St→Res,earlyQ st F'=F' st:=by
 unfold earlyQ at h⊢
 cases ho:st.ok with
 |false=>rw[ho] at h;simp[Res.bad] at h
 |true=>
  refine ⟨rfl,fun F'=> ?_⟩
  simp only[cond_true]
  rw[show ({st with ok:=true}:St)=st from by rw[←ho]]
def KOk (cx:Cx):Prop:=∀f k,cx.K f=some k→∀vs H κ,(k vs H κ).ok=true→∀κ',k vs H κ'=κ' (cx.C f vs H)
theorem KOk.none {P:Program} {C:FuncId→List AV→List Blk→Res} {mode:FuncId→List Bool} {fuel:Nat} {live:Nat→List Nat} {pin:Nat}:KOk {P:=P,C:=C,mode:=mode,fuel:=fuel,live:=live,pin:=pin}:=fun f k h=>by simp at h
theorem byRef_none:∀(ms:List Bool) (args:List AV),anyRef ms=false→byRef ms args=[]
 |[],_,_=>rfl
 |true::ms,_,h=>by simp[anyRef] at h
 |false::ms,[],_=>rfl
 |false::ms,x::xs,h=>byRef_none ms xs (by simpa [anyRef] using h)
theorem view1_rd {H':List Blk} (h:∀b,rdOf (nth .free H' b)=rdOf (nth .free H b)) (hmd:∀b,mapD (nth .free H' b)=mapD (nth .free H b)) (htd:∀b,tabD (nth .free H' b)=tabD (nth .free H b)) (v:AV):view1 H' v=view1 H v:=by
 cases v<;>first|rfl|simp only[view1,h,hmd,htd]
theorem view_rd {H':List Blk} (h:∀b,rdOf (nth .free H' b)=rdOf (nth .free H b)) (hmd:∀b,mapD (nth .free H' b)=mapD (nth .free H b)) (htd:∀b,tabD (nth .free H' b)=tabD (nth .free H b)) (v:AV):view H' v=view H v:=by
 cases v with
 |agg cs=>simp only[view];congr 1;exact List.map_congr_left fun c _=>view1_rd h hmd htd c
 |sl b ver off len=>exact view1_rd h hmd htd (.sl b ver off len)
 |mp b=>exact view1_rd h hmd htd (.mp b)
 |tsl b ver p=>exact view1_rd h hmd htd (.tsl b ver p)
 |_=>rfl
theorem viewC_rd {H':List Blk} (h:∀b,rdOf (nth .free H' b)=rdOf (nth .free H b)) (hmd:∀b,mapD (nth .free H' b)=mapD (nth .free H b)) (htd:∀b,tabD (nth .free H' b)=tabD (nth .free H b)) (hc:∀b cs,nth .free H' b= .cells cs↔nth .free H b= .cells cs) (v:AV):viewC H' v=viewC H v:=by
 cases v with
 | ptr b off=>
  simp only[viewC]
  cases hx:nth .free H b with
  |cells cs=>rw[(hc b cs).2 hx];simp only;congr 1;exact List.map_congr_left fun c _=>view1_rd h hmd htd c
  |_=>
   cases hx':nth .free H' b with
   |cells cs=>have:=(hc b cs).1 hx';rw[hx] at this;cases this
   |_=>rfl
 |sl b ver off len=>exact view1_rd h hmd htd (.sl b ver off len)
 |mp b=>exact view1_rd h hmd htd (.mp b)
 |tsl b ver p=>exact view1_rd h hmd htd (.tsl b ver p)
 |_=>rfl
theorem viewA_rd {H':List Blk} (h:∀b,rdOf (nth .free H' b)=rdOf (nth .free H b)) (hmd:∀b,mapD (nth .free H' b)=mapD (nth .free H b)) (htd:∀b,tabD (nth .free H' b)=tabD (nth .free H b)) (hc:∀b cs,nth .free H' b= .cells cs↔nth .free H b= .cells cs) (v:AV):viewA H' v=viewA H v:=by
 cases v with
 |clo f caps=>simp only[viewA];congr 1;exact List.map_congr_left fun c _=>viewC_rd h hmd htd hc c
 |ptr b off=>exact viewC_rd h hmd htd hc (.ptr b off)
 |rptr cs j=>rfl
 |agg cs=>exact view_rd h hmd htd (.agg cs)
 |sl b ver off len=>exact view_rd h hmd htd (.sl b ver off len)
 |mp b=>exact view_rd h hmd htd (.mp b)
 |tsl b ver p=>exact view_rd h hmd htd (.tsl b ver p)
 |_=>rfl
theorem passA_rd {H':List Blk} {ord:List Nat} (h:∀v,viewA H' v=viewA H v):∀(ms:List Bool) (args:List AV),anyRef ms=false→passA H' ord ms args=passA H ord ms args
 |[],args,_=>List.map_congr_left fun v _=>h v
 |true::ms,_,hm=>by simp[anyRef] at hm
 |false::ms,[],_=>rfl
 |false::ms,x::xs,hm=>by simp only[passA,h];rw[passA_rd h ms xs (by simpa [anyRef] using hm)]
theorem callR_frz {f:FuncId} {args:List AV} {l:List Nat} (hm:anyRef (cx.mode f)=false):callR cx (sets H (frozenB H l)) f args=callR cx H f args:=by
 have hn:=frozenB_nth H l H (fun _=> .inl rfl) rfl
 have ho:∀H:List Blk,ordA H (cx.mode f) args=[]:=fun H=>by simp only[ordA,byRef_none _ _ hm];rfl
 have hp:passA (sets H (frozenB H l)) [] (cx.mode f) args=passA H [] (cx.mode f) args:=passA_rd (fun v=>viewA_rd (fun b=>by rw[hn b,rd_frz]) (fun b=>by rw[hn b,mapD_frz]) (fun b=>by rw[hn b,tabD_frz]) (fun b cs=>by rw[hn b];generalize nth .free H b=x;cases x<;>cases l.contains b<;>simp[frz]) v) _ _ hm
 simp only[callR,ho,hp]
 rfl
theorem callE_const {base:Nat} {f:FuncId} {args:List AV}:callE {cx with C:=fun _ _ _=>callR cx (callH cx H f args) f args} H base f args=callE cx H base f args:=by
 generalize hr:callR cx (callH cx H f args) f args=r
 have e:∀H',callR {cx with C:=fun _ _ _=>r} H' f args=r:=fun _=>rfl
 cases hm:anyRef (cx.mode f) with
 |true=>
  have hh:callH cx H f args=sets H (frzA H (cx.mode f) args):=by simp only[callH,hm];rfl
  rw[hh] at hr
  simp only[callE,callAt,e,hr,hm,Bool.not_true,Bool.false_and,cond_false]
 |false=>
  have hh:callH cx H f args=H:=by simp only[callH,hm];rfl
  rw[hh] at hr
  have hf:callR cx (sets H (frzA H (cx.mode f) args)) f args=r:=(callR_frz hm).trans hr
  simp only[callE,callAt,e,hr,hf,hm]
theorem opE_const {all:List Oper} {base:Nat} {o:Oper} {st:St} {c:Call} {fa:FuncId×List AV} (ho:o.op= .call c) (hc:callTo st.T c=some fa):
  opE {cx with C:=fun _ _ _=>callR cx (callH cx st.H fa.1 fa.2) fa.1 fa.2} all st.T st.H base o=opE cx all st.T st.H base o:=by
 have e:opE0 {cx with C:=fun _ _ _=>callR cx (callH cx st.H fa.1 fa.2) fa.1 fa.2} st.T st.H base o=opE0 cx st.T st.H base o:=by
  simp only[opE0,ho]
  unfold callTo at hc
  unfold callOpE
  cases hcl:c.callee with
  |builtin b=>simp[hcl] at hc
  |invoke _ _=>simp[hcl] at hc
  | value v=>
   cases v with
   |func g=>
    simp only[hcl,Option.some.injEq] at hc
    subst hc
    exact callE_const
   |tmp t=>
    simp only[hcl] at hc⊢
    cases hu:asClo (unw (ev st.T (.tmp t)))<;>simp only[hu] at hc<;>try (simp at hc;done)
    simp only[Option.some.injEq] at hc
    subst hc
    exact callE_const
   |_=>simp[hcl] at hc
 unfold opE
 rw[e]
theorem footOf_const {all:List Oper} {base:Nat} {o:Oper} {st:St} {c:Call} {fa:FuncId×List AV} (ho:o.op= .call c) (hc:callTo st.T c=some fa):
  footOf {cx with C:=fun _ _ _=>callR cx (callH cx st.H fa.1 fa.2) fa.1 fa.2} all base o st=footOf cx all base o st:=by
 unfold footOf
 rw[opE_const ho hc]
 rfl
theorem stepOp_const {all:List Oper} {base:Nat} {o:Oper} {st:St} {c:Call} {fa:FuncId×List AV} (ho:o.op= .call c) (hc:callTo st.T c=some fa):
  stepOp {cx with C:=fun _ _ _=>callR cx (callH cx st.H fa.1 fa.2) fa.1 fa.2} all base o st=stepOp cx all base o st:=by
 unfold stepOp
 rw[opE_const ho hc]
theorem callQ_det (hK:KOk cx) {all:List Oper} {base:Nat} {o:Oper} {st:St} {F:Cx→Res} (h:(callQ cx all o st F).ok=true):∃cx',(∀F':Cx→Res,callQ cx all o st F'=F' cx')∧stepOp cx' all base o st=stepOp cx all base o st∧footOf cx' all base o st=footOf cx all base o st:=by
 unfold callQ at h⊢
 cases ho:o.op with
 | call c=>
  simp only[ho] at h⊢
  cases hc:callTo st.T c with
  |none=>exact ⟨cx,fun _=>rfl,rfl,rfl⟩
  | some fa=>
   simp only[hc] at h⊢
   cases hk:cx.K fa.1 with
   |none=>exact ⟨cx,fun _=>rfl,rfl,rfl⟩
   | some k=>
    simp only[hk] at h⊢
    cases hg:guardB all st.T o.guard with
    |none=>exact ⟨cx,fun _=>rfl,rfl,rfl⟩
    | some b=>
     cases b with
     |false=>exact ⟨cx,fun _=>rfl,rfl,rfl⟩
     |true=>
      simp only[hg] at h⊢
      exact ⟨_,fun F'=>hK _ _ hk _ _ _ h _,stepOp_const ho hc,footOf_const ho hc⟩
 |_=>exact ⟨cx,fun _=>rfl,rfl,rfl⟩
theorem opsQ_ok (hK:KOk cx) {all:List Oper} {F:St→Res}:∀(l:List Oper) (base:Nat) (st:St),(opsQ cx all l base st F).ok=true→∀F':St→Res,opsQ cx all l base st F'=F' (runOps cx all l base st)
 |[],_,_,_=>fun _=>rfl
 |o::r,base,st,h=>by
  intro F'
  simp only[opsQ,splitQ_eq] at h⊢
  obtain ⟨cx',h1,h2,_⟩:=callQ_det (base:=base) hK h
  rw[h1,h2] at h
  rw[h1,h2]
  obtain ⟨_,h3⟩:=earlyQ_ok h
  rw[h3] at h
  rw[h3]
  exact opsQ_ok hK r _ _ h F'
theorem opsD_ok (hK:KOk cx) {all:List Oper} {bs:List Nat} {F:St→Res}:∀(l:List Oper) (base j:Nat) (done:List Foot) (st:St),(opsD cx all bs l base j done st F).ok=true→
  (∀F':St→Res,opsD cx all bs l base j done st F'=F' (runOps cx all l base st))∧drawOk bs done (feet cx all l base st) j=true
 |[],_,_,_,_,_=>⟨fun _=>rfl,rfl⟩
 | o::r,base,j,done,st,h=>by
  simp only[opsD,splitQ_eq] at h⊢
  obtain ⟨cx',h1,h2,h2f⟩:=callQ_det (base:=base) hK h
  rw[h1,h2,h2f] at h
  cases hd:drawRow (nth 0 bs j) (footOf cx all base o st) done 0 with
  |false=>rw[hd] at h;simp[Res.bad] at h
  | true=>
   rw[hd] at h
   simp only[cond_true] at h
   obtain ⟨_,h3⟩:=earlyQ_ok h
   rw[h3] at h
   obtain ⟨q1,q2⟩:=opsD_ok hK r _ _ _ _ h
   refine ⟨fun F'=> ?_,?_⟩
   ·rw[h1,h2,h2f,hd]
    simp only[cond_true]
    rw[h3]
    exact q1 F'
   ·simp only[feet,drawOk,hd,Bool.true_and]
    exact q2
theorem regionQ_det (hK:KOk cx) {ops:Array Oper} {draw:Bool} {st:St} {F:St→Res} (h:(regionQ cx ops draw st F).ok=true):∀F':St→Res,regionQ cx ops draw st F'=F' (runOps cx ops.toList ops.toList st.H.length {st with H:=st.H++frees (slotsAll ops.toList)}):=by
 intro F'
 cases draw with
 |false=>simp only[regionQ] at h⊢;exact opsQ_ok hK _ _ _ h F'
 | true=>
  simp only[regionQ] at h⊢
  cases hc:edgesOk ops.toList 0 with
  |false=>rw[hc] at h;simp[Res.bad] at h
  |true=>
   rw[hc] at h
   simp only[cond_true] at h⊢
   exact (opsD_ok hK _ _ _ _ _ h).1 F'
theorem regionQ_ok (hK:KOk cx) {ops:Array Oper} {draw:Bool} {st:St} {F:St→Res} (hF:∀st,(F st).ok=true→st.ok=true) (h:(regionQ cx ops draw st F).ok=true):regionQ cx ops draw st F=F (runRegion cx ops draw st):=by
 have e:=regionQ_det hK h F
 cases draw with
 |false=>simp only[runRegion];exact e
 | true=>
  simp only[regionQ,runRegion] at h e⊢
  cases hc:edgesOk ops.toList 0 with
  |false=>rw[hc] at h;simp[Res.bad] at h
  |true=>
   rw[hc] at h e
   simp only[cond_true,Bool.true_and] at h e⊢
   rw[(opsD_ok hK _ _ _ _ _ h).2]
   exact e
theorem anyN_spec {n:Nat} {f:Nat→Res} (h:(anyN n f).ok=true):∀i,i<n→f i=anyN n f:=by
 unfold anyN at h⊢
 split
 ·rename_i h0;exact h0
 ·rename_i h0;rw[if_neg h0] at h;simp[Res.bad] at h
theorem nextR_spec {ops:Array Oper} {draw:Bool} {st:St} {F:St→Res} (h:(nextR cx ops draw st F).ok=true):
  draw=false∧∃o l x b ka va kk vk rest cur,ops.toList=o::l∧o.op= .next x false∧l.any isNextO=false∧grd (ev st.T x)=true∧unw (ev st.T x)= .it b∧nth .free st.H b= .iter ka va kk vk rest cur∧
   (rest=[]→regionQ {cx with way:=1} ops false st F=nextR cx ops draw st F)∧∀i,i<rest.length→regionQ {cx with way:=2,pick:=i} ops false st F=nextR cx ops draw st F:=by
 cases draw with
 |true=>simp[nextR,Res.bad] at h
 | false=>
  refine ⟨rfl,?_⟩
  cases hl:ops.toList with
  |nil=>simp[nextR,hl,Res.bad] at h
  | cons o l=>
   cases ho:o.op<;>try (simp[nextR,hl,ho,Res.bad] at h;done)
   rename_i x s
   cases s with
   |true=>simp[nextR,hl,ho,Res.bad] at h
   | false=>
    cases hg:o.guard with
    |some _=>simp[nextR,hl,ho,hg,Res.bad] at h
    | none=>
     have e:nextR cx ops false st F=bif cx.nx&&(grd (ev st.T x)&& !(l.any isNextO)) then (match unw (ev st.T x) with
      | .it b=>
       match nth .free st.H b with
       | .iter _ _ _ _ rest _=>bif rest.isEmpty then regionQ {cx with way:=1} ops false st F else anyN rest.length fun i=>regionQ {cx with way:=2,pick:=i} ops false st F
       |_=> .bad
      |_=> .bad) else .bad:=by simp only[nextR,hl,ho,hg];rfl
     rw[e] at h⊢
     cases hc:(cx.nx&&(grd (ev st.T x)&& !(l.any isNextO))) with
     |false=>rw[hc] at h;simp[Res.bad] at h
     | true=>
      rw[hc] at h
      simp only[cond_true] at h⊢
      simp only[Bool.and_eq_true,Bool.not_eq_true'] at hc
      cases hu:unw (ev st.T x)<;>simp only[hu] at h⊢ <;>try (simp[Res.bad] at h;done)
      rename_i b
      cases hb:nth .free st.H b<;>simp only[hb] at h⊢ <;>try (simp[Res.bad] at h;done)
      rename_i ka va kk vk rest cur
      refine ⟨o,l,x,b,ka,va,kk,vk,rest,cur,rfl,ho,hc.2.2,hc.2.1,hu,hb,fun hr=>by rw[hr];rfl,fun i hi=> ?_⟩
      cases rest with
      |nil=>simp at hi
      |cons p rest=>
       simp only[List.isEmpty_cons,cond_false] at h⊢
       exact anyN_spec h i hi
theorem nextR_nx {ops:Array Oper} {draw:Bool} {st:St} {F:St→Res} (h:(nextR cx ops draw st F).ok=true):cx.nx=true:=by
 unfold nextR at h
 split at h
 ·split at h
  ·cases hn:cx.nx with
   |true=>rfl
   |false=>rw[hn] at h;simp[Res.bad] at h
  ·simp[Res.bad] at h
 ·simp[Res.bad] at h
theorem nextR_pick {ops:Array Oper} {draw:Bool} {st:St} {F:St→Res} (h:(nextR cx ops draw st F).ok=true):draw=false∧∃w p,regionQ {cx with way:=w,pick:=p} ops false st F=nextR cx ops draw st F:=by
 obtain ⟨hd,o,l,x,b,ka,va,kk,vk,rest,cur,_,_,_,_,_,_,h1,h2⟩:=nextR_spec h
 refine ⟨hd,?_⟩
 cases rest with
 |nil=>exact ⟨1,cx.pick,h1 rfl⟩
 |cons p rest=>exact ⟨2,0,h2 0 (by simp)⟩
theorem NextOk.split {o:Oper} {x:Operand} {b:Nat} {ka va:Bool} {kk vk:CK} {rest cur:List (CT kk×CT vk)} {st:St} {H':List Blk} {a:Act} (ho:o.op= .next x false) (hg:grd (ev st.T x)=true) (hu:unw (ev st.T x)= .it b) (hb:nth .free H' b= .iter ka va kk vk rest cur) (hr:RepTH w0 S0 st.T H' a w):
  (rest=[]∧NextOk {cx with way:=1} w0 S0 st.T H' o a w)∨∃i,i<rest.length∧NextOk {cx with way:=2,pick:=i} w0 S0 st.T H' o a w:=by
 obtain ⟨μ,S,h1,hst,h2,h3⟩:=hr
 have hv:∀μ S,GlobOk w S→TR H' μ w S st.T a.tmps→VR H' μ w S (.it b) (a.eval x):=fun μ S hG h3=>hu▸evu_sound hG h3 x hg
 rcases next_split (P:=cx.P) cx o.type h1 (hv μ S h1.hr.glob h3) hb with ⟨hre,h⟩|⟨i,hi,h⟩
 ·refine .inl ⟨hre,fun μ S h1 h3 x' s' e=> ?_⟩
  rw[ho] at e
  cases e
  rw[hu]
  exact h μ S h1
 ·refine .inr ⟨i,hi,fun μ S h1 h3 x' s' e=> ?_⟩
  rw[ho] at e
  cases e
  rw[hu]
  exact h μ S h1 (hv μ S h1.hr.glob h3)
theorem loopK_strict {body:St→(Ex→St→Res)→Res} {pin:Nat} {live:List Nat} {k:Ex→St→Res} (hb:∀st k,Strict k→(body st k).ok=true→st.ok=true) (hk:Strict k):∀n st,(loopK body (gc pin live) k n st).ok=true→st.ok=true
 |0,_,h=>by simp[loopK,Res.bad] at h
 |n+1,st,h=>by
  simp only[loopK] at h
  refine hb st _ (fun ex st' h'=> ?_) h
  cases ex with
  |normal=>exact gc_ok (loopK_strict hb hk n _ h')
  |exit i=>exact hk _ _ h'
  |ret=>exact hk _ _ h'
theorem runK_strict (hK:KOk cx):∀(c:Code) (st:St) (k:Ex→St→Res),Strict k→(runK cx c st k).ok=true→st.ok=true
 | .skip,st,k,hk,h=>hk _ _ h
 | .region id ops draw,st,k,hk,h=>by
  simp only[runK] at h
  cases hn:hasNext ops with
  |false=>
   rw[hn] at h
   simp only[cond_false] at h
   rw[regionQ_ok hK (hk .normal) h] at h
   exact runRegion_ok (hk _ _ h)
  |true=>
   rw[hn] at h
   simp only[cond_true] at h
   obtain ⟨_,w,p,e⟩:=nextR_pick h
   rw[←e] at h
   rw[regionQ_ok (cx:={cx with way:=w,pick:=p}) hK (hk .normal) h] at h
   exact runRegion_ok (hk _ _ h)
 | .seq a b,st,k,hk,h=>by
  refine runK_strict hK a st _ (fun ex st' h'=> ?_) h
  cases ex with
  |normal=>exact cutG_ok (runK_strict hK b _ k hk h')
  |exit i=>exact hk _ _ h'
  |ret=>exact hk _ _ h'
 | .cond c x y,st,k,hk,h=>by
  simp only[runK] at h
  split at h
  ·rename_i b _
   cases b with
   |true=>
    have:=runK_strict hK x _ k hk h
    simp only[Bool.and_eq_true] at this;exact this.2
   |false=>
    have:=runK_strict hK y _ k hk h
    simp only[Bool.and_eq_true] at this;exact this.2
  ·simp[Res.bad] at h
 | .block id c,st,k,hk,h=>by
  refine runK_strict hK c st _ (fun ex st' h'=> ?_) h
  cases ex with
  |normal=>exact hk _ _ h'
  |exit i=>
   simp only[blockK] at h'
   cases hi:(i==id) with
   |true=>rw[hi] at h';exact hk _ _ h'
   |false=>rw[hi] at h';exact hk _ _ h'
  |ret=>exact hk _ _ h'
 | .loop c,st,k,hk,h=>by
  simp only[runK] at h
  exact gc_ok (loopK_strict (fun st k hk h=>runK_strict hK c st k hk h) hk _ _ h)
 | .exit id,st,k,hk,h=>hk _ _ h
 | .label l,st,k,hk,h=>hk _ _ h
 | .ret,st,k,hk,h=>hk _ _ h
 | .goto _,st,k,hk,h=>by simp[runK,Res.bad] at h
 | .scope c,st,k,hk,h=>runK_strict hK c st k hk h
 | .rangeFunc _ _ _ _,st,k,hk,h=>by simp[runK,Res.bad] at h
 | .refuse _,st,k,hk,h=>by simp[runK,Res.bad] at h
def Ex.to:Ex→Exit
 | .normal=> .normal
 | .exit i=> .exit i
 | .ret=> .ret
def LW (P:Program) (c:Code) (Q:Exit→Act→World→Prop) (a:Act) (w:World):Prop:=
 ∀(b:Frame) (k:List Item) (cs:List Frame),∃e a' w',Q e a' w'∧Arrives P (lone (b.at a (.code c:: .inLoop c::k)) cs w) b k cs e a' w'
theorem LW.loop {P:Program} {c:Code} {Q:Exit→Act→World→Prop} {a:Act} {w:World} (h:LW P c Q a w):(Code.loop c).wp P Q a w:=fun b k cs=>by
 obtain ⟨e,a',w',hq,harr⟩:=h b k cs
 exact ⟨e,a',w',hq, .of_steps (.one step_loop) harr⟩
theorem LW.round {P:Program} {c:Code} {Q:Exit→Act→World→Prop} {a:Act} {w:World} (h:c.wp P (Exit.then (LW P c Q) Q) a w):LW P c Q a w:=fun b k cs=>by
 obtain ⟨e,a₁,w₁,hq,harr⟩:=h b (.inLoop c::k) cs
 cases e with
 |normal=>
  obtain ⟨e₂,a₂,w₂,hq₂,harr₂⟩:=hq b k cs
  exact ⟨e₂,a₂,w₂,hq₂, .of_steps (Steps.trans harr (.one step_inLoop)) harr₂⟩
 |exit id=>exact ⟨_,a₁,w₁,hq, .pass (x:= .inLoop c) rfl (fun _ _=> .inl (by simp)) harr⟩
 |goto l=>exact ⟨_,a₁,w₁,hq, .pass (x:= .inLoop c) rfl (fun _ _=> .inl (by simp)) harr⟩
 |ret=>exact ⟨_,a₁,w₁,hq, .pass (x:= .inLoop c) rfl (fun _ _=> .inl (by simp)) harr⟩
 |panic ch=>exact ⟨_,a₁,w₁,hq, .pass (x:= .inLoop c) rfl (fun _ _=> .inl (by simp)) harr⟩
 |outgrown=>exact ⟨_,a₁,w₁,hq, .pass (x:= .inLoop c) rfl (fun _ _=> .inl (by simp)) harr⟩
def Comes' (w0:World) (S0:Sc) (k:Ex→St→Res) (r:Res) (Q:Exit→Act→World→Prop):Prop:=
 ∀ex st' a' w',RepTH w0 S0 st'.T st'.H a' w'→k ex st'=r→Q ex.to a' w'
variable (hC:CSound cx.P cx.C) (hm:cx.P.follows .mixedOrders=true) (hpn:S0.pin=cx.pin) (hK:KOk cx)
omit hK in
theorem loop_sound (hK:KOk cx) {c:Code} {pin:Nat} {live:List Nat} (hpn:S0.pin=pin) {k:Ex→St→Res} {r:Res} (hk:Strict k) (hrk:r.ok=true)
  (body:∀(st:St) (k:Ex→St→Res) (a:Act) (w:World) (Q:Exit→Act→World→Prop),Strict k→RepTH w0 S0 st.T st.H a w→runK cx c st k=r→Comes' w0 S0 k r Q→c.wp cx.P Q a w) {Q:Exit→Act→World→Prop} (hQ:Comes' w0 S0 k r Q):
  ∀n st a w,RepTH w0 S0 st.T st.H a w→loopK (runK cx c) (gc pin live) k n st=r→LW cx.P c Q a w
 |0,st,a,w,hr,h=>by simp only[loopK] at h;rw[←h] at hrk;simp[Res.bad] at hrk
 | n+1,st,a,w,hr,h=>by
  simp only[loopK] at h
  have hs:Strict (backK (loopK (runK cx c) (gc pin live) k n) (gc pin live) k):=fun ex st' h'=>by
   cases ex with
   |normal=>exact gc_ok (loopK_strict (fun st k hk h=>runK_strict hK c st k hk h) hk n _ h')
   |exit i=>exact hk _ _ h'
   |ret=>exact hk _ _ h'
  refine LW.round (body st _ a w _ hs hr h fun ex st' a' w' hr' h'=> ?_)
  cases ex with
  | normal=>
   have hok:(gc pin live st').ok=true:=loopK_strict (fun st k hk h=>runK_strict hK c st k hk h) hk n _ (by
    simp only[backK] at h';rw[h'];exact hrk)
   exact loop_sound hK hpn hk hrk body hQ n (gc pin live st') a' w' (gc_sound hpn hr' hok) h'
  |exit i=>exact hQ (.exit i) st' a' w' hr' h'
  |ret=>exact hQ .ret st' a' w' hr' h'
include hC hm hpn hK in
theorem runK_sound {r:Res} (hrk:r.ok=true):∀(c:Code) (st:St) (k:Ex→St→Res) (a:Act) (w:World) (Q:Exit→Act→World→Prop),Strict k→RepTH w0 S0 st.T st.H a w→runK cx c st k=r→Comes' w0 S0 k r Q→c.wp cx.P Q a w
 | .skip,st,k,a,w,Q,hk,hr,h,hQ=>wp_skip (hQ .normal st a w hr h)
 | .region id ops draw,st,k,a,w,Q,hk,hr,h,hQ=>by
  simp only[runK] at h
  cases hn:hasNext ops with
  | false=>
   rw[hn] at h
   simp only[cond_false] at h
   rw[regionQ_ok hK (hk .normal) (by rw[h];exact hrk)] at h
   exact region_sim hC hm hr (hk .normal _ (by rw[h];exact hrk)) (.inl fun o ho=>by
    cases hx:isNextO o with
    |false=>rfl
    |true=>rw[hasNext,List.any_eq_true.2 ⟨o,ho,hx⟩] at hn;cases hn) fun a' w' hr'=>hQ .normal _ a' w' hr' h
  | true=>
   rw[hn] at h
   simp only[cond_true] at h
   have hrk':(nextR cx ops draw st (k .normal)).ok=true:=by rw[h];exact hrk
   obtain ⟨rfl,o,l,x,b,ka,va,kk,vk,rest,cur,hl,ho,hln,hg,hu,hb,g1,g2⟩:=nextR_spec hrk'
   have hr1:RepTH w0 S0 st.T (st.H++frees (slotsAll ops.toList)) a w:=hr.same fun b=>nth_app_frees _ _ _
   have hb1:nth .free (st.H++frees (slotsAll ops.toList)) b= .iter ka va kk vk rest cur:=by rw[nth_app_frees];exact hb
   have go:∀wy p,regionQ {cx with way:=wy,pick:=p} ops false st (k .normal)=nextR cx ops false st (k .normal)→NextOk {cx with way:=wy,pick:=p} w0 S0 st.T (st.H++frees (slotsAll ops.toList)) o a w→(Code.region id ops false).wp cx.P Q a w:=fun wy p hq hx=>by
    rw[←hq] at h hrk'
    rw[regionQ_ok (cx:={cx with way:=wy,pick:=p}) hK (hk .normal) hrk'] at h
    refine region_sim (cx:={cx with way:=wy,pick:=p}) hC hm hr (hk .normal _ (by rw[h];exact hrk)) (.inr ⟨rfl,fun i o' hi hp=> ?_,fun o' ho'=> ?_⟩) fun a' w' hr'=>hQ .normal _ a' w' hr' h
    ·cases i with
     |zero=>omega
     |succ i=>
      rw[hl,List.getElem?_cons_succ] at hi
      cases hx':isNextO o' with
      |false=>rfl
      |true=>rw[List.any_eq_true.2 ⟨o',List.mem_of_getElem? hi,hx'⟩] at hln;cases hln
    ·rw[hl] at ho'
     simp only[List.getElem?_cons_zero,Option.some.injEq] at ho'
     exact ho'▸hx
   rcases NextOk.split (cx:=cx) ho hg hu hb1 hr1 with ⟨hre,hx⟩|⟨i,hi,hx⟩
   ·exact go 1 cx.pick (g1 hre) hx
   ·exact go 2 i (g2 i hi) hx
 | .seq x y,st,k,a,w,Q,hk,hr,h,hQ=>by
  have hs:Strict (seqK (fun st k=>runK cx y (cutG cx y st) k) k):=fun ex st' h'=>by
   cases ex with
   |normal=>exact cutG_ok (runK_strict hK y _ k hk h')
   |exit i=>exact hk _ _ h'
   |ret=>exact hk _ _ h'
  refine wp_seq (runK_sound hrk x st _ a w _ hs hr h fun ex st' a' w' hr' h'=> ?_)
  cases ex with
  |normal=>exact runK_sound hrk y (cutG cx y st') k a' w' Q hk (cutG_sound hpn hr' (runK_strict hK y _ k hk (by rw[show runK cx y (cutG cx y st') k=r from h'];exact hrk))) h' hQ
  |exit i=>exact hQ (.exit i) st' a' w' hr' h'
  |ret=>exact hQ .ret st' a' w' hr' h'
 | .cond c x y,st,k,a,w,Q,hk,hr,h,hQ=>by
  simp only[runK] at h
  obtain ⟨μ,S,h1,hst,h2,h3⟩:=hr
  cases hv:unw (ev st.T c)<;>simp only[hv] at h<;>try (rw[←h] at hrk;simp[Res.bad] at hrk;done)
  rename_i b
  have hgb:grd (ev st.T c)=true:=by
   cases b with
   |true=>
    have:=runK_strict hK x _ k hk (by simp only[cond_true] at h;rw[h];exact hrk)
    simp only[Bool.and_eq_true] at this;exact this.1
   |false=>
    have:=runK_strict hK y _ k hk (by simp only[cond_false] at h;rw[h];exact hrk)
    simp only[Bool.and_eq_true] at this;exact this.1
  have he:=vr_bool (hv▸evu_sound h1.hr.glob h3 c hgb)
  cases b with
  |true=>exact wp_cond_true he (runK_sound hrk x {st with ok:=grd (ev st.T c)&&st.ok} k a w Q hk ⟨μ,S,h1,hst,h2,h3⟩ h hQ)
  |false=>exact wp_cond_false he (runK_sound hrk y {st with ok:=grd (ev st.T c)&&st.ok} k a w Q hk ⟨μ,S,h1,hst,h2,h3⟩ h hQ)
 | .block id c,st,k,a,w,Q,hk,hr,h,hQ=>by
  have hs:Strict (blockK id k):=fun ex st' h'=>by
   cases ex with
   |normal=>exact hk _ _ h'
   |exit i=>
    simp only[blockK] at h'
    cases hi:(i==id)<;>rw[hi] at h'<;>exact hk _ _ h'
   |ret=>exact hk _ _ h'
  refine wp_block (runK_sound hrk c st _ a w _ hs hr h fun ex st' a' w' hr' h'=> ?_)
  cases ex with
  |normal=>exact hQ .normal st' a' w' hr' h'
  | exit i=>
   simp only[Ex.to,Exit.inBlock]
   simp only[blockK] at h'
   cases hi:(i==id) with
   |true=>
    rw[hi] at h'
    rw[if_pos (by simpa using hi)]
    exact hQ .normal st' a' w' hr' h'
   |false=>
    rw[hi] at h'
    rw[if_neg (by simpa using hi)]
    exact hQ (.exit i) st' a' w' hr' h'
  |ret=>exact hQ .ret st' a' w' hr' h'
 | .loop c,st,k,a,w,Q,hk,hr,h,hQ=>by
  simp only[runK] at h
  have hok:(gc cx.pin (cx.live (firstRegion c)) st).ok=true:=loopK_strict (fun st k hk h=>runK_strict hK c st k hk h) hk _ _ (by rw[h];exact hrk)
  exact (loop_sound hK hpn hk hrk (fun st k a w Q hk hr h hQ=>runK_sound hrk c st k a w Q hk hr h hQ) hQ _ _ a w (gc_sound hpn hr hok) h).loop
 | .exit id,st,k,a,w,Q,hk,hr,h,hQ=>wp_exit (hQ (.exit id) st a w hr h)
 | .label l,st,k,a,w,Q,hk,hr,h,hQ=>wp_label (hQ .normal st a w hr h)
 | .ret,st,k,a,w,Q,hk,hr,h,hQ=>wp_ret (hQ .ret st a w hr h)
 | .goto _,st,k,a,w,Q,hk,hr,h,hQ=>by rw[←h] at hrk;simp[runK,Res.bad] at hrk
 | .scope c,st,k,a,w,Q,hk,hr,h,hQ=>wp_scope_straight (runK_sound hrk c st k a w _ hk hr h fun ex st' a' w' hr' h'=>by
  have:=hQ ex st' a' w' hr' h'
  cases ex<;>exact this)
 | .rangeFunc _ _ _ _,st,k,a,w,Q,hk,hr,h,hQ=>by rw[←h] at hrk;simp[runK,Res.bad] at hrk
 | .refuse _,st,k,a,w,Q,hk,hr,h,hQ=>by rw[←h] at hrk;simp[runK,Res.bad] at hrk
end
end Go.Abs
