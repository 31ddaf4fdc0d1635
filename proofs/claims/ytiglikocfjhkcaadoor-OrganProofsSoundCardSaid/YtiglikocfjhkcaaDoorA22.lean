/- Contracts of functions that take closures, too. -/
import Derived.Test.YtiglikocfjhkcaaDoorA21
set_option linter.all false
set_option linter.unusedVariables false
set_option linter.unusedSimpArgs false
namespace Go.Abs
variable [Globs]
variable {os:List TypeId}
inductive Sh where
 |one|agg (n:Nat)|clo (f:FuncId) (m:Bool) (caps:List (Option Nat))
 |ref (n:Nat)
def groupC:List (Option Nat)→List AV→List AV
 |[],_=>[]
 |none::r,cs=>nth .junk cs 0::groupC r (dropL cs 1)
 |some n::r,cs=> .rptr (takeL cs n) 0::groupC r (dropL cs n)
def sizeC:List (Option Nat)→Nat
 |[]=>0
 |none::r=>1+sizeC r
 |some n::r=>n+sizeC r
def groupS:List Sh→List AV→List AV
 |[],_=>[]
 | .one::r,cs=>nth .junk cs 0::groupS r (dropL cs 1)
 | .agg n::r,cs=> .agg (takeL cs n)::groupS r (dropL cs n)
 | .ref n::r,cs=> .rptr (takeL cs n) 0::groupS r (dropL cs n)
 | .clo f m caps::r,cs=> .clo (f,m) (groupC caps (takeL cs (sizeC caps)))::groupS r (dropL cs (sizeC caps))
def flatC:List AV→List AV
 |[]=>[]
 | .rptr cs _::r=>cs++flatC r
 |v::r=>v::flatC r
def isRp (n:Nat):AV→Bool| .rptr cs j=>j==0&&cs.length==n|_=>false
theorem isRp_spec {n:Nat} {v:AV} (h:isRp n v=true):∃cs,v= .rptr cs 0∧cs.length=n:=by
 cases v<;>simp[isRp] at h
 obtain ⟨rfl,h⟩:=h
 exact ⟨_,rfl,h⟩
def fitsC:List (Option Nat)→List AV→Bool
 |[],[]=>true
 |none::r,v::vs=>pure1 v&&fitsC r vs
 |some n::r,v::vs=>isRp n v&&fitsC r vs
 |_,_=>false
def isRpV:AV→Bool| .rptr _ _=>true|_=>false
def flatS:List AV→List AV
 |[]=>[]
 | .rptr cs _::r=>cs++flatS r
 | .clo _ caps::r=>flatC caps++flatS r
 |v::r=>cellsA v++flatS r
def fitsS:List Sh→List AV→Bool
 |[],[]=>true
 | .one::r,v::vs=>isV v&& !isAggV v&& !isRpV v&&fitsS r vs
 | .ref n::r,v::vs=>isRp n v&&fitsS r vs
 | .agg n::r,v::vs=>(match v with| .agg cs=>cs.length==n|_=>false)&&fitsS r vs
 | .clo f m caps::r,v::vs=>(match v with| .clo f' cs=>decide (f'=(f,m))&&fitsC caps cs|_=>false)&&fitsS r vs
 |_,_=>false
def tspecS (shape:List Sh) (K:CK) (res:List (Option Nat)) (R:CK) (ok:CT K→Bool) (M:CT K→CT R) (vs:List AV) (Hi:List Blk):Res:=
 ⟨Hi.isEmpty&&(fitsS shape vs&&((flatS vs).length==width K&&(decOk K (flatS vs)&&ok (dec K (flatS vs))))),one (groupA res (enc R (M (dec K (flatS vs))))),[]⟩
section
variable {w:World} {S:Nat→Prop} {μ:Nat→Value}
def Stands (w:World) (S:Nat→Prop) (μ:Nat→Value) (a b:AV):Prop:=∀u,VR [] μ w S a u→VR [] μ w S b u
theorem pvC_of {v:AV} {u:Value} (h:VR [] μ w S v u) (hp:pureC v=true):PV w S v u:=by
 cases h with
 |pv h=>exact h
 |_=>simp[pureC,pure1] at hp
theorem flatC_len:∀(caps:List (Option Nat)) (vs:List AV),fitsC caps vs=true→(flatC vs).length=sizeC caps
 |[],[],_=>rfl
 |[],_::_,h=>by simp[fitsC] at h
 |none::r,[],h=>by simp[fitsC] at h
 |some n::r,[],h=>by simp[fitsC] at h
 |none::r,v::vs,h=>by
  simp only[fitsC,Bool.and_eq_true] at h
  have ih:=flatC_len r vs h.2
  cases v<;>simp[pure1] at h<;>simp[flatC,sizeC,ih]<;>omega
 |some n::r,v::vs,h=>by
  simp only[fitsC,Bool.and_eq_true] at h
  have ih:=flatC_len r vs h.2
  obtain ⟨cs,rfl,hcs⟩:=isRp_spec h.1
  simp[flatC,sizeC,ih,hcs]
theorem groupC_sound:∀(caps:List (Option Nat)) (vs cs:List AV),fitsC caps vs=true→cs.length=(flatC vs).length→(∀q,q<cs.length→Stands w S μ (nth .junk (flatC vs) q) (nth .junk cs q)∧∀u,PV w S (nth .junk (flatC vs) q) u→PV w S (nth .junk cs q) u)→
  (groupC caps cs).length=vs.length∧∀i,i<vs.length→∀u,PV w S (nth .junk vs i) u→PV w S (nth .junk (groupC caps cs) i) u
 |[],[],cs,_,_,_=>⟨rfl,fun i hi=>by simp at hi⟩
 |[],_::_,_,h,_,_=>by simp[fitsC] at h
 |none::r,[],_,h,_,_=>by simp[fitsC] at h
 |some n::r,[],_,h,_,_=>by simp[fitsC] at h
 | none::r,v::vs,cs,h,hl,hc=>by
  simp only[fitsC,Bool.and_eq_true] at h
  obtain ⟨h1,h3⟩:=h
  have he:flatC (v::vs)=v::flatC vs:=by cases v<;>first|rfl|simp[pure1] at h1
  rw[he] at hl hc
  simp only[List.length_cons] at hl
  obtain ⟨g1,g2⟩:=groupC_sound r vs (dropL cs 1) h3 (by rw[dropL_eq,List.length_drop];omega) (fun q hq=>by
   rw[dropL_eq,List.length_drop] at hq
   rw[dropL_eq,nth_drop]
   have:=hc (1+q) (by omega)
   rw[show 1+q=q+1 by omega] at this⊢
   exact this)
  refine ⟨by simp[groupC,g1],fun i hi u hu=> ?_⟩
  cases i with
  |zero=>exact (hc 0 (by omega)).2 u hu
  |succ i=>exact g2 i (by simpa using hi) u hu
 | some n::r,v::vs,cs,h,hl,hc=>by
  simp only[fitsC,Bool.and_eq_true] at h
  obtain ⟨h1,h3⟩:=h
  obtain ⟨as,rfl,h1⟩:=isRp_spec h1
  have he:flatC (.rptr as 0::vs)=as++flatC vs:=rfl
  rw[he] at hl hc
  simp only[List.length_append] at hl
  obtain ⟨g1,g2⟩:=groupC_sound r vs (dropL cs n) h3 (by rw[dropL_eq,List.length_drop];omega) (fun q hq=>by
   rw[dropL_eq,List.length_drop] at hq
   rw[dropL_eq,nth_drop]
   have:=hc (n+q) (by omega)
   rwa [nth_append,if_neg (by omega),show n+q-as.length=q by omega] at this)
  refine ⟨by simp[groupC,g1],fun i hi u hu=> ?_⟩
  cases i with
  |succ i=>exact g2 i (by simpa using hi) u hu
  | zero=>
   simp only[groupC,nth] at hu⊢
   cases hu with
   |rptr _ _ B o uu hB hcell hp=>
    have htl:(takeL cs n).length=as.length:=by rw[takeL_eq,List.length_take];omega
    refine .rptr _ 0 B o uu hB (fun i hi=>hcell i (by omega)) fun i hi=> ?_
    rw[htl] at hi
    rw[takeL_eq,nth_take _ _ _ _ (by omega)]
    exact (hc i (by omega)).2 _ (by rw[nth_append,if_pos hi];exact hp i hi)
theorem vr_clo_pv {f:FuncId×Bool} {cs:List AV} {u:Value} (h:VR [] μ w S (.clo f cs) u) (hp:∀i,i<cs.length→pureC (nth .junk cs i)=true):∃vs:Array Value,u=cloV f vs∧cs.length=vs.size∧∀i,i<cs.length→PV w S (nth .junk cs i) (vs.getD i undef):=by
 cases h with
 |pv h=>cases h with|clo _ _ vs hl hc=>exact ⟨vs,rfl,hl,hc⟩
 |clo _ _ vs hl hc=>
  refine ⟨vs,rfl,hl,fun i hi=> ?_⟩
  exact pvC_of (hc i hi) (hp i hi)
theorem fitsC_pure:∀(caps:List (Option Nat)) (vs:List AV),fitsC caps vs=true→∀i,i<vs.length→pureC (nth .junk vs i)=true
 |[],[],_,i,hi=>by simp at hi
 |[],_::_,h,_,_=>by simp[fitsC] at h
 |none::r,[],h,_,_=>by simp[fitsC] at h
 |some n::r,[],h,_,_=>by simp[fitsC] at h
 |none::r,v::vs,h,i,hi=>by
  simp only[fitsC,Bool.and_eq_true] at h
  cases i with
  |zero=>cases v<;>simp_all [pure1,pureC,nth]
  |succ i=>exact fitsC_pure r vs h.2 i (by simpa using hi)
 |some n::r,v::vs,h,i,hi=>by
  simp only[fitsC,Bool.and_eq_true] at h
  cases i with
  |zero=>obtain ⟨cs,rfl,_⟩:=isRp_spec h.1;rfl
  |succ i=>exact fitsC_pure r vs h.2 i (by simpa using hi)
theorem groupS_sound:∀(shape:List Sh) (vs cs:List AV),fitsS shape vs=true→cs.length=(flatS vs).length→(∀q,q<cs.length→Stands w S μ (nth .junk (flatS vs) q) (nth .junk cs q)∧∀u,PV w S (nth .junk (flatS vs) q) u→PV w S (nth .junk cs q) u)→
  (groupS shape cs).length=vs.length∧∀i,i<vs.length→Stands w S μ (nth .junk vs i) (nth .junk (groupS shape cs) i)
 |[],[],cs,_,_,_=>⟨rfl,fun i hi=>by simp at hi⟩
 |[],_::_,_,h,_,_=>by simp[fitsS] at h
 | .one::r,[],_,h,_,_=>by simp[fitsS] at h
 | .agg n::r,[],_,h,_,_=>by simp[fitsS] at h
 | .ref n::r,[],_,h,_,_=>by simp[fitsS] at h
 | .clo f m caps::r,[],_,h,_,_=>by simp[fitsS] at h
 | .one::r,v::vs,cs,h,hl,hc=>by
  simp only[fitsS,Bool.and_eq_true,Bool.not_eq_true'] at h
  obtain ⟨⟨⟨h1,h2⟩,h4⟩,h3⟩:=h
  have he:flatS (v::vs)=v::flatS vs:=by cases v<;>first|rfl|(simp[isV] at h1;done)|(simp[isAggV] at h2;done)|(simp[isRpV] at h4;done)
  rw[he] at hl hc
  simp only[List.length_cons] at hl
  obtain ⟨g1,g2⟩:=groupS_sound r vs (dropL cs 1) h3 (by rw[dropL_eq,List.length_drop];omega) (fun q hq=>by
   rw[dropL_eq,List.length_drop] at hq
   rw[dropL_eq,nth_drop]
   have:=hc (1+q) (by omega)
   rw[show 1+q=q+1 by omega] at this⊢
   exact this)
  refine ⟨by simp[groupS,g1],fun i hi u hu=> ?_⟩
  cases i with
  |zero=>exact (hc 0 (by omega)).1 u hu
  |succ i=>exact g2 i (by simpa using hi) u hu
 | .agg n::r,v::vs,cs,h,hl,hc=>by
  simp only[fitsS,Bool.and_eq_true] at h
  obtain ⟨h1,h3⟩:=h
  cases v<;>simp at h1
  rename_i as
  have he:flatS (.agg as::vs)=as++flatS vs:=rfl
  rw[he] at hl hc
  simp only[List.length_append] at hl
  obtain ⟨g1,g2⟩:=groupS_sound r vs (dropL cs n) h3 (by rw[dropL_eq,List.length_drop];omega) (fun q hq=>by
   rw[dropL_eq,List.length_drop] at hq
   rw[dropL_eq,nth_drop]
   have:=hc (n+q) (by omega)
   rwa [nth_append,if_neg (by omega),show n+q-as.length=q by omega] at this)
  refine ⟨by simp[groupS,g1],fun i hi u hu=> ?_⟩
  cases i with
  |succ i=>exact g2 i (by simpa using hi) u hu
  |zero=>
   simp only[groupS,nth] at hu⊢
   obtain ⟨us,rfl,q1,q2⟩:=vr_agg hu
   have htl:(takeL cs n).length=as.length:=by rw[takeL_eq,List.length_take];omega
   refine .agg _ _ (by rw[htl];exact q1) fun j hj=> ?_
   rw[htl] at hj
   rw[takeL_eq,nth_take _ _ _ _ (by omega)]
   exact (hc j (by omega)).1 _ (by rw[nth_append,if_pos hj];exact q2 j hj)
 | .ref n::r,v::vs,cs,h,hl,hc=>by
  simp only[fitsS,Bool.and_eq_true] at h
  obtain ⟨h1,h3⟩:=h
  obtain ⟨as,rfl,h1⟩:=isRp_spec h1
  have he:flatS (.rptr as 0::vs)=as++flatS vs:=rfl
  rw[he] at hl hc
  simp only[List.length_append] at hl
  obtain ⟨g1,g2⟩:=groupS_sound r vs (dropL cs n) h3 (by rw[dropL_eq,List.length_drop];omega) (fun q hq=>by
   rw[dropL_eq,List.length_drop] at hq
   rw[dropL_eq,nth_drop]
   have:=hc (n+q) (by omega)
   rwa [nth_append,if_neg (by omega),show n+q-as.length=q by omega] at this)
  refine ⟨by simp[groupS,g1],fun i hi u hu=> ?_⟩
  cases i with
  |succ i=>exact g2 i (by simpa using hi) u hu
  | zero=>
   simp only[groupS,nth] at hu⊢
   cases hu with
   | pv hu=>
    cases hu with
    |rptr _ _ B o uu hB hcell hp=>
     have htl:(takeL cs n).length=as.length:=by rw[takeL_eq,List.length_take];omega
     refine .pv (.rptr _ 0 B o uu hB (fun i hi=>hcell i (by omega)) fun i hi=> ?_)
     rw[htl] at hi
     rw[takeL_eq,nth_take _ _ _ _ (by omega)]
     exact (hc i (by omega)).2 _ (by rw[nth_append,if_pos hi];exact hp i hi)
 | .clo f m caps::r,v::vs,cs,h,hl,hc=>by
  simp only[fitsS,Bool.and_eq_true] at h
  obtain ⟨h1,h3⟩:=h
  cases v<;>simp at h1
  rename_i f' as
  obtain ⟨rfl,h1⟩:=h1
  have he:flatS (.clo (f,m) as::vs)=flatC as++flatS vs:=rfl
  rw[he] at hl hc
  have hfl:=flatC_len caps as h1
  simp only[List.length_append,hfl] at hl
  obtain ⟨g1,g2⟩:=groupS_sound r vs (dropL cs (sizeC caps)) h3 (by rw[dropL_eq,List.length_drop];omega) (fun q hq=>by
   rw[dropL_eq,List.length_drop] at hq
   rw[dropL_eq,nth_drop]
   have:=hc (sizeC caps+q) (by omega)
   rwa [nth_append,if_neg (by omega),show sizeC caps+q-(flatC as).length=q by omega] at this)
  refine ⟨by simp[groupS,g1],fun i hi u hu=> ?_⟩
  cases i with
  |succ i=>exact g2 i (by simpa using hi) u hu
  | zero=>
   simp only[groupS,nth] at hu⊢
   obtain ⟨us,rfl,q1,q2⟩:=vr_clo_pv hu (fitsC_pure caps as h1)
   have htl:(takeL cs (sizeC caps)).length=(flatC as).length:=by rw[takeL_eq,List.length_take];omega
   obtain ⟨k1,k2⟩:=groupC_sound (w:=w) (S:=S) (μ:=μ) caps as (takeL cs (sizeC caps)) h1 htl (fun q hq=>by
    rw[htl] at hq
    have:=hc q (by omega)
    rw[nth_append,if_pos hq] at this
    rw[takeL_eq,nth_take _ _ _ _ (by omega)]
    exact this)
   refine .pv (.clo _ _ _ (by rw[k1];exact q1) fun j hj=> ?_)
   rw[k1] at hj
   exact k2 j hj _ (q2 j hj)
theorem decPV_sound {w:World} {S:Nat→Prop}:∀(k:CK) (cs:List AV),decOk k cs=true→∀j,j<width k→∀u,PV w S (nth .junk cs j) u→PV w S (nth .junk (enc k (dec k cs)) j) u
 | .bool,cs,hk,j,hj,u,h=>by
  obtain rfl:j=0:=by simp[width] at hj;exact hj
  simp only[decOk] at hk
  cases hv:nth .junk cs 0<;>simp[hv,isB] at hk
  simpa [enc,dec,nth,hv,asB] using hv▸h
 | .int k,cs,hk,j,hj,u,h=>by
  obtain rfl:j=0:=by simp[width] at hj;exact hj
  simp only[decOk] at hk
  cases hv:nth .junk cs 0<;>simp[hv,isInt] at hk
  subst hk
  simpa [enc,dec,nth,hv,asInt] using hv▸h
 | .str,cs,hk,j,hj,u,h=>by
  obtain rfl:j=0:=by simp[width] at hj;exact hj
  simp only[decOk] at hk
  cases hv:nth .junk cs 0<;>simp[hv,isStr] at hk
  simpa [enc,dec,nth,hv,asStr] using hv▸h
 | .slice e k,cs,hk,j,hj,u,h=>by
  obtain rfl:j=0:=by simp[width] at hj;exact hj
  simp only[decOk] at hk
  simpa [enc,dec,nth] using h.asL hk
 | .map ka va kk vk,cs,hk,j,hj,u,h=>by
  obtain rfl:j=0:=by simp[width] at hj;exact hj
  simp only[decOk] at hk
  simpa [enc,dec,nth] using h.asM hk
 | .other,cs,hk,j,hj,u,h=>by
  obtain rfl:j=0:=by simp[width] at hj;exact hj
  exact .junk _
 | .pair a b,cs,hk,j,hj,u,h=>by
  simp only[decOk,Bool.and_eq_true] at hk
  simp only[width] at hj
  simp only[enc,dec]
  rw[nth_append,enc_length]
  by_cases hja:j<width a
  ·rw[if_pos hja];exact decPV_sound a cs hk.1 j hja u h
  ·rw[if_neg hja]
   exact decPV_sound b (dropL cs (width a)) hk.2 (j-width a) (by omega) u (by rw[dropL_eq,nth_drop,show width a+(j-width a)=j by omega];exact h)
end
theorem CSound.typedS {P:Program} {C:FuncId→List AV→List Blk→Res} {f:FuncId} {fn:Func} {shape:List Sh} {res:List (Option Nat)} {K R:CK} {ok:CT K→Bool} {M:CT K→CT R} (hC:CSound P C) (hm:P.follows .mixedOrders=true) (hf:P.funcs[f]?=some fn) (hn:(fn.name== "runtime.NumGoroutine")=false) (hb:fn.body.isNone=false)
  (mode:FuncId→List Bool) (live:Nat→List Nat) (fuel:CT K→Nat) (Kc:FuncId→Option (List AV→List Blk→(Res→Res)→Res)) (hK:∀fu pin,KOk {P:=P,C:=C,mode:=mode,fuel:=fu,live:=live,pin:=pin,K:=Kc})
  (hs:∀x,ok x=true→Ret res R (runF {P:=P,C:=C,mode:=mode,fuel:=fuel x,live:=live,pin:=0,K:=Kc,nx:=true,os:=os} fn (groupS shape (enc K x)) []) (M x)):
  CSound P (fun g vs Hi=>bif g==f then tspecS shape K res R ok M vs Hi else C g vs Hi):=by
 intro g vs Hi us w S M' μ hok hl hh hM hv
 cases hg:(g==f) with
 |false=>
  simp only[hg,cond_false] at hok⊢
  exact hC g vs Hi us w S M' μ hok hl hh hM hv
 | true=>
  simp only[hg,cond_true] at hok⊢
  have hgf:g=f:=by simpa using hg
  subst hgf
  refine ⟨⟨fn,hf,hn,hb⟩,?_⟩
  simp only[tspecS,Bool.and_eq_true,beq_iff_eq,List.isEmpty_iff] at hok
  obtain ⟨he,h1,h2,h3,h4⟩:=hok
  subst he
  have key:=hs _ h4
  obtain ⟨g1,g2⟩:=groupS_sound (μ:=μ) (w:=w) (S:=S) shape vs (enc K (dec K (flatS vs))) h1 (by rw[enc_length,h2]) (fun q hq=>by
   rw[enc_length] at hq
   exact ⟨fun u hu=>decP_sound K _ h3 q hq u hu,fun u hu=>decPV_sound K _ h3 q hq u hu⟩)
  have:=runF_sound (cx:={P:=P,C:=C,mode:=mode,fuel:=fuel (dec K (flatS vs)),live:=live,pin:=0,K:=Kc,nx:=true,os:=os}) (fn:=fn) (vs:=groupS shape (enc K (dec K (flatS vs)))) (Hi:=[]) hC hm rfl (hK 0 0) hf key.ok (by rw[g1];exact hl) hh hM (fun i hi=>g2 i (by rw[g1] at hi;exact hi) _ (hv i (by rw[g1] at hi;exact hi)))
  refine this.mono fun e w' hw=> ?_
  generalize hr:runF {P:=P,C:=C,mode:=mode,fuel:=fuel (dec K (flatS vs)),live:=live,pin:=0,K:=Kc,nx:=true,os:=os} fn (groupS shape (enc K (dec K (flatS vs)))) []=r at*
  obtain ⟨v,rfl,hk,μ',S',hh',hs1,hs2,hs3,_,hv'⟩:=hw
  obtain ⟨hfz,hfb⟩:=hh'.frozen ((valsOf r.val).flatMap refs)
  refine ⟨v,rfl,hk,μ',SF r.heap μ' S' ((valsOf r.val).flatMap refs),⟨fun b=>by rw[show (tspecS shape K res R ok M vs []).heap=[] from rfl,nth_nil];trivial,fun b b' B hb=>by rw[show (tspecS shape K res R ok M vs []).heap=[] from rfl,nth_nil] at hb;exact absurd hb (by simp[Blk.live]),hfz.stab,hfz.glob⟩,
   fun B h=> .inl (hs1 B h),fun B h=>(hfb B h).elim (hs2 B) .inr,hs3,fun b hb=>absurd hb (by simp),?_⟩
  have key2:=key.eq
  show VR [] μ' w' _ (Go.Abs.one (groupA res (enc R (M (dec K (flatS vs)))))) v
  rw[←key2]
  have hview:∀(x:AV) (u:Value),x∈valsOf r.val→VR r.heap μ' w' S' x u→VR [] μ' w' (SF r.heap μ' S' ((valsOf r.val).flatMap refs)) (view r.heap x) u:=fun x u hx hu=>
   .pv (view_sound hh' hu (List.all_eq_true.1 key.vs x hx) fun b hb=>List.mem_flatMap.2 ⟨x,hx,hb⟩)
  have hgr:=groupA_sound (H:=[]) (μ:=μ') (w:=w') (S:=SF r.heap μ' S' ((valsOf r.val).flatMap refs)) res (roVs r) (enc R (dec R (flatA (roVs r)))) key.fits (by rw[enc_length,key.len]) (fun q hq u hu=>by
   rw[enc_length] at hq
   exact decP_sound R _ key.good q hq u hu)
  by_cases ht:∃ws,r.val= .tup ws
  ·obtain ⟨ws,hws⟩:=ht
   have hro:roVs r=ws.map (view r.heap):=by simp only[roVs,hws,valsOf]
   rw[hws] at hv'
   obtain ⟨us',rfl,q1,q2⟩:=vr_tup hv'
   have hlen:(groupA res (enc R (dec R (flatA (roVs r))))).length=ws.length:=by rw[hgr.1,hro,List.length_map]
   have comp:∀i,i<ws.length→VR [] μ' w' (SF r.heap μ' S' ((valsOf r.val).flatMap refs)) (nth .junk (groupA res (enc R (dec R (flatA (roVs r))))) i) (us'.getD i undef):=fun i hi=>by
    refine hgr.2 i (by rw[hro,List.length_map];exact hi) _ ?_
    rw[hro,nth_map AV.junk AV.junk (view r.heap) ws i hi]
    exact hview _ _ (by rw[hws];show nth .junk ws i∈ws;rw[nth_lt _ _ _ hi];exact List.getElem_mem hi) (q2 i hi)
   by_cases h1:ws.length=1
   ·exact absurd h1 (key.one ws hws)
   ·have e1:Go.Abs.one (groupA res (enc R (dec R (flatA (roVs r)))))= .tup (groupA res (enc R (dec R (flatA (roVs r))))):=by
     rcases hgl:groupA res (enc R (dec R (flatA (roVs r)))) with _|⟨x,_|⟨y,l⟩⟩
     ·rfl
     ·rw[hgl] at hlen;simp at hlen;omega
     ·rfl
    rw[e1]
    exact .tup _ _ (by rw[hlen];exact q1) fun i hi=>comp i (by rw[←hlen];exact hi)
  ·have hvo:valsOf r.val=[r.val]:=by
    cases hrv:r.val<;>first|rfl|exact absurd ⟨_,hrv⟩ ht
   have hro:roVs r=[view r.heap r.val]:=by simp only[roVs,hvo,List.map_cons,List.map_nil]
   have hlen:(groupA res (enc R (dec R (flatA (roVs r))))).length=1:=by rw[hgr.1,hro];rfl
   have c0:=hgr.2 0 (by rw[hro];simp) v (by rw[hro];exact hview _ _ (by rw[hvo];simp) hv')
   match hgl:groupA res (enc R (dec R (flatA (roVs r)))),hlen with
   |[x],_=>rw[hgl] at c0;exact c0
theorem Ret.of {res:List (Option Nat)} {R:CK} {r r':Res} {y:CT R} (h:r=r') (h':Ret res R r' y):Ret res R r y:=h▸h'
theorem Tab.addTyS {P:Program} {C C':FuncId→List AV→List Blk→Res} {mode:FuncId→List Bool} {K K':KT} {f:FuncId} {fn:Func} {shape:List Sh} {res:List (Option Nat)} {KK R:CK} {ok:CT KK→Bool} {M:CT KK→CT R} (h:Tab P C mode K) (h':Tab P C' mode K') (hf:P.funcs[f]?=some fn) (hn:(fn.name== "runtime.NumGoroutine")=false) (hb:fn.body.isNone=false)
  (hkn:K f=Option.none) (live:Nat→List Nat) (fuel:CT KK→Nat)
  (hs:∀x,ok x=true→Ret res R (runF {P:=P,C:=C',mode:=mode,fuel:=fuel x,live:=live,pin:=0,K:=K',nx:=true,os:=os} fn (groupS shape (enc KK x)) []) (M x)):
  Tab P (addC f (tspecS shape KK res R ok M) C) mode K:=
 h.one (CSound.typedS h'.sound h.mixed hf hn hb mode live fuel K' (fun fu pin=>h'.go fu _ pin) hs) hkn
theorem CSound.core {P:Program} {C:FuncId→List AV→List Blk→Res} {f:FuncId} {fn:Func} {res:List (Option Nat)} {R:CK} {spec:List AV→List Blk→Res} (hC:CSound P C) (hm:P.follows .mixedOrders=true) (hf:P.funcs[f]?=some fn) (hn:(fn.name== "runtime.NumGoroutine")=false) (hb:fn.body.isNone=false)
  (mode:FuncId→List Bool) (live:Nat→List Nat) (Kc:FuncId→Option (List AV→List Blk→(Res→Res)→Res)) (hK:∀fu pin,KOk {P:=P,C:=C,mode:=mode,fuel:=fu,live:=live,pin:=pin,K:=Kc})
  (hs:∀vs Hi,(spec vs Hi).ok=true→Hi=[]∧∃y:CT R,(spec vs Hi).val=Go.Abs.one (groupA res (enc R y))∧(spec vs Hi).heap=[]∧∀(us:Array Value) (w:World) (S:Nat→Prop) (μ:Nat→Value),vs.length=us.size→(∀i,i<vs.length→VR [] μ w S (nth .junk vs i) (us.getD i undef))→
   ∃(vs':List AV) (fuel:Nat),vs'.length=us.size∧(∀i,i<vs'.length→VR [] μ w S (nth .junk vs' i) (us.getD i undef))∧Ret res R (runF {P:=P,C:=C,mode:=mode,fuel:=fuel,live:=live,pin:=0,K:=Kc,nx:=true,os:=os} fn vs' []) y):
  CSound P (fun g vs Hi=>bif g==f then spec vs Hi else C g vs Hi):=by
 intro g vs Hi us w S M' μ hok hl hh hM hv
 cases hg:(g==f) with
 |false=>
  simp only[hg,cond_false] at hok⊢
  exact hC g vs Hi us w S M' μ hok hl hh hM hv
 | true=>
  simp only[hg,cond_true] at hok⊢
  have hgf:g=f:=by simpa using hg
  subst hgf
  refine ⟨⟨fn,hf,hn,hb⟩,?_⟩
  obtain ⟨he,y,hval,hheap,hrest⟩:=hs vs Hi hok
  subst he
  obtain ⟨vs',fuel,hl',hv',key⟩:=hrest us w S μ hl hv
  have:=runF_sound (cx:={P:=P,C:=C,mode:=mode,fuel:=fuel,live:=live,pin:=0,K:=Kc,nx:=true,os:=os}) (fn:=fn) (vs:=vs') (Hi:=[]) hC hm rfl (hK 0 0) hf key.ok hl' hh hM hv'
  clear hv'
  refine this.mono fun e w' hw=> ?_
  generalize hr:runF {P:=P,C:=C,mode:=mode,fuel:=fuel,live:=live,pin:=0,K:=Kc,nx:=true,os:=os} fn vs' []=r at*
  obtain ⟨v,rfl,hk,μ',S',hh',hs1,hs2,hs3,_,hv'⟩:=hw
  obtain ⟨hfz,hfb⟩:=hh'.frozen ((valsOf r.val).flatMap refs)
  refine ⟨v,rfl,hk,μ',SF r.heap μ' S' ((valsOf r.val).flatMap refs),⟨fun b=>by rw[hheap,nth_nil];trivial,fun b b' B hb=>by rw[hheap,nth_nil] at hb;exact absurd hb (by simp[Blk.live]),hfz.stab,hfz.glob⟩,
   fun B h=> .inl (hs1 B h),fun B h=>(hfb B h).elim (hs2 B) .inr,hs3,fun b hb=>absurd hb (by simp),?_⟩
  have key2:=key.eq
  rw[hval,hheap]
  show VR [] μ' w' _ (Go.Abs.one (groupA res (enc R y))) v
  rw[←key2]
  have hview:∀(x:AV) (u:Value),x∈valsOf r.val→VR r.heap μ' w' S' x u→VR [] μ' w' (SF r.heap μ' S' ((valsOf r.val).flatMap refs)) (view r.heap x) u:=fun x u hx hu=>
   .pv (view_sound hh' hu (List.all_eq_true.1 key.vs x hx) fun b hb=>List.mem_flatMap.2 ⟨x,hx,hb⟩)
  have hgr:=groupA_sound (H:=[]) (μ:=μ') (w:=w') (S:=SF r.heap μ' S' ((valsOf r.val).flatMap refs)) res (roVs r) (enc R (dec R (flatA (roVs r)))) key.fits (by rw[enc_length,key.len]) (fun q hq u hu=>by
   rw[enc_length] at hq
   exact decP_sound R _ key.good q hq u hu)
  by_cases ht:∃ws,r.val= .tup ws
  ·obtain ⟨ws,hws⟩:=ht
   have hro:roVs r=ws.map (view r.heap):=by simp only[roVs,hws,valsOf]
   rw[hws] at hv'
   obtain ⟨us',rfl,q1,q2⟩:=vr_tup hv'
   have hlen:(groupA res (enc R (dec R (flatA (roVs r))))).length=ws.length:=by rw[hgr.1,hro,List.length_map]
   have comp:∀i,i<ws.length→VR [] μ' w' (SF r.heap μ' S' ((valsOf r.val).flatMap refs)) (nth .junk (groupA res (enc R (dec R (flatA (roVs r))))) i) (us'.getD i undef):=fun i hi=>by
    refine hgr.2 i (by rw[hro,List.length_map];exact hi) _ ?_
    rw[hro,nth_map AV.junk AV.junk (view r.heap) ws i hi]
    exact hview _ _ (by rw[hws];show nth .junk ws i∈ws;rw[nth_lt _ _ _ hi];exact List.getElem_mem hi) (q2 i hi)
   by_cases h1:ws.length=1
   ·exact absurd h1 (key.one ws hws)
   ·have e1:Go.Abs.one (groupA res (enc R (dec R (flatA (roVs r)))))= .tup (groupA res (enc R (dec R (flatA (roVs r))))):=by
     rcases hgl:groupA res (enc R (dec R (flatA (roVs r)))) with _|⟨x,_|⟨y,l⟩⟩
     ·rfl
     ·rw[hgl] at hlen;simp at hlen;omega
     ·rfl
    rw[e1]
    exact .tup _ _ (by rw[hlen];exact q1) fun i hi=>comp i (by rw[←hlen];exact hi)
  ·have hvo:valsOf r.val=[r.val]:=by
    cases hrv:r.val<;>first|rfl|exact absurd ⟨_,hrv⟩ ht
   have hro:roVs r=[view r.heap r.val]:=by simp only[roVs,hvo,List.map_cons,List.map_nil]
   have hlen:(groupA res (enc R (dec R (flatA (roVs r))))).length=1:=by rw[hgr.1,hro];rfl
   have c0:=hgr.2 0 (by rw[hro];simp) v (by rw[hro];exact hview _ _ (by rw[hvo];simp) hv')
   match hgl:groupA res (enc R (dec R (flatA (roVs r)))),hlen with
   |[x],_=>rw[hgl] at c0;exact c0
end Go.Abs
