/- Contracts of functions over plain values. -/
import Derived.Test.YtiglikocfjhkcaaDoorA16
set_option linter.all false
set_option linter.unusedVariables false
set_option linter.unusedSimpArgs false
namespace Go.Abs
variable [Globs]
variable {os:List TypeId}
open Go.RowKit (Below)
def groupA:List (Option Nat)→List AV→List AV
 |[],_=>[]
 |none::r,cs=>nth .junk cs 0::groupA r (dropL cs 1)
 |some n::r,cs=> .agg (takeL cs n)::groupA r (dropL cs n)
def fitsA:List (Option Nat)→List AV→Bool
 |[],[]=>true
 |none::r,v::vs=>isV v&& !isAggV v&&fitsA r vs
 |some n::r,v::vs=>(match v with| .agg cs=>cs.length==n|_=>false)&&fitsA r vs
 |_,_=>false
def flatA (vs:List AV):List AV:=vs.flatMap cellsA
def tspec (shape:List (Option Nat)) (K:CK) (res:List (Option Nat)) (R:CK) (ok:CT K→Bool) (M:CT K→CT R) (vs:List AV) (Hi:List Blk):Res:=
 ⟨Hi.isEmpty&&(fitsA shape vs&&((flatA vs).length==width K&&(decOk K (flatA vs)&&ok (dec K (flatA vs))))),one (groupA res (enc R (M (dec K (flatA vs))))),[]⟩
theorem decP_sound {w:World} {S:Nat→Prop} {H:List Blk} {μ:Nat→Value}:∀(k:CK) (cs:List AV),decOk k cs=true→∀j,j<width k→∀u,VR H μ w S (nth .junk cs j) u→VR H μ w S (nth .junk (enc k (dec k cs)) j) u
 | .bool,cs,hk,j,hj,u,h=>by
  obtain rfl:j=0:=by simp[width] at hj;exact hj
  simp only[decOk] at hk
  cases hv:nth .junk cs 0<;>simp[hv,isB] at hk
  simpa [enc,dec,nth,hv,asB] using hv▸h
 | .int k,cs,hk,j,hj,u,h=>by
  obtain rfl:j=0:=by simp[width] at hj;exact hj
  simp only[decOk] at hk
  cases hv:nth .junk cs 0<;>simp[hv,isInt] at hk
  subst hk
  simpa [enc,dec,nth,hv,asInt] using hv▸h
 | .str,cs,hk,j,hj,u,h=>by
  obtain rfl:j=0:=by simp[width] at hj;exact hj
  simp only[decOk] at hk
  cases hv:nth .junk cs 0<;>simp[hv,isStr] at hk
  simpa [enc,dec,nth,hv,asStr] using hv▸h
 | .slice e k,cs,hk,j,hj,u,h=>by
  obtain rfl:j=0:=by simp[width] at hj;exact hj
  simp only[decOk] at hk
  simpa [enc,dec,nth] using h.asL hk
 | .map ka va kk vk,cs,hk,j,hj,u,h=>by
  obtain rfl:j=0:=by simp[width] at hj;exact hj
  simp only[decOk] at hk
  simpa [enc,dec,nth] using h.asM hk
 | .other,cs,hk,j,hj,u,h=>by
  obtain rfl:j=0:=by simp[width] at hj;exact hj
  exact .junk _
 | .pair a b,cs,hk,j,hj,u,h=>by
  simp only[decOk,Bool.and_eq_true] at hk
  simp only[width] at hj
  simp only[enc,dec]
  rw[nth_append,enc_length]
  by_cases hja:j<width a
  ·rw[if_pos hja];exact decP_sound a cs hk.1 j hja u h
  ·rw[if_neg hja]
   exact decP_sound b (dropL cs (width a)) hk.2 (j-width a) (by omega) u (by rw[dropL_eq,nth_drop,show width a+(j-width a)=j by omega];exact h)
theorem vr_one {H:List Blk} {μ:Nat→Value} {w:World} {S:Nat→Prop} {v:AV} (h:isV v=true) (ha:isAggV v=false):cellsA v=[v]:=by
 cases v<;>first|rfl|simp[isAggV] at ha
theorem groupA_sound {H:List Blk} {μ:Nat→Value} {w:World} {S:Nat→Prop}:∀(shape:List (Option Nat)) (vs cs:List AV),fitsA shape vs=true→cs.length=(flatA vs).length→(∀q,q<cs.length→∀u,VR H μ w S (nth .junk (flatA vs) q) u→VR H μ w S (nth .junk cs q) u)→
  (groupA shape cs).length=vs.length∧∀i,i<vs.length→∀u,VR H μ w S (nth .junk vs i) u→VR H μ w S (nth .junk (groupA shape cs) i) u
 |[],[],cs,_,_,_=>⟨rfl,fun i hi=>by simp at hi⟩
 |[],_::_,_,h,_,_=>by simp[fitsA] at h
 |none::r,[],_,h,_,_=>by simp[fitsA] at h
 |some n::r,[],_,h,_,_=>by simp[fitsA] at h
 | none::r,v::vs,cs,h,hl,hc=>by
  simp only[fitsA,Bool.and_eq_true,Bool.not_eq_true'] at h
  obtain ⟨⟨h1,h2⟩,h3⟩:=h
  have he:flatA (v::vs)=v::flatA vs:=by simp[flatA,vr_one (H:=H) (μ:=μ) (w:=w) (S:=S) h1 h2]
  rw[he] at hl hc
  simp only[List.length_cons] at hl
  obtain ⟨g1,g2⟩:=groupA_sound r vs (dropL cs 1) h3 (by rw[dropL_eq,List.length_drop];omega) (fun q hq u hu=>by
   rw[dropL_eq,List.length_drop] at hq
   rw[dropL_eq,nth_drop]
   refine hc (1+q) (by omega) u ?_
   rw[show 1+q=q+1 by omega]
   exact hu)
  refine ⟨by simp[groupA,g1],fun i hi u hu=> ?_⟩
  cases i with
  |zero=>exact hc 0 (by omega) u hu
  |succ i=>exact g2 i (by simpa using hi) u hu
 | some n::r,v::vs,cs,h,hl,hc=>by
  simp only[fitsA,Bool.and_eq_true] at h
  obtain ⟨h1,h3⟩:=h
  cases v<;>simp at h1
  rename_i as
  have he:flatA (.agg as::vs)=as++flatA vs:=rfl
  rw[he] at hl hc
  simp only[List.length_append] at hl
  obtain ⟨g1,g2⟩:=groupA_sound r vs (dropL cs n) h3 (by rw[dropL_eq,List.length_drop];omega) (fun q hq u hu=>by
   rw[dropL_eq,List.length_drop] at hq
   rw[dropL_eq,nth_drop]
   refine hc (n+q) (by omega) u ?_
   rw[nth_append,if_neg (by omega),show n+q-as.length=q by omega]
   exact hu)
  refine ⟨by simp[groupA,g1],fun i hi u hu=> ?_⟩
  cases i with
  |succ i=>exact g2 i (by simpa using hi) u hu
  |zero=>
   simp only[groupA,nth] at hu⊢
   obtain ⟨us,rfl,q1,q2⟩:=vr_agg hu
   have htl:(takeL cs n).length=as.length:=by rw[takeL_eq,List.length_take];omega
   refine .agg _ _ (by rw[htl];exact q1) fun j hj=> ?_
   rw[htl] at hj
   rw[takeL_eq,nth_take _ _ _ _ (by omega)]
   exact hc j (by omega) _ (by rw[nth_append,if_pos hj];exact q2 j hj)
def valsOf:AV→List AV
 | .tup vs=>vs
 |v=>[v]
def roVs (r:Res):List AV:=(valsOf r.val).map (view r.heap)
structure Ret (res:List (Option Nat)) (R:CK) (r:Res) (y:CT R):Prop where
 ok:r.ok=true
 vs:(valsOf r.val).all isV=true
 fits:fitsA res (roVs r)=true
 len:(flatA (roVs r)).length=width R
 good:decOk R (flatA (roVs r))=true
 eq:dec R (flatA (roVs r))=y
 one:∀ws,r.val= .tup ws→ws.length≠1
theorem CSound.typed {P:Program} {C:FuncId→List AV→List Blk→Res} {f:FuncId} {fn:Func} {shape res:List (Option Nat)} {K R:CK} {ok:CT K→Bool} {M:CT K→CT R} (hC:CSound P C) (hm:P.follows .mixedOrders=true) (hf:P.funcs[f]?=some fn) (hn:(fn.name== "runtime.NumGoroutine")=false) (hb:fn.body.isNone=false)
  (mode:FuncId→List Bool) (live:Nat→List Nat) (fuel:CT K→Nat) (Kc:FuncId→Option (List AV→List Blk→(Res→Res)→Res)) (hK:∀fu pin,KOk {P:=P,C:=C,mode:=mode,fuel:=fu,live:=live,pin:=pin,K:=Kc})
  (hs:∀x,ok x=true→Ret res R (runF {P:=P,C:=C,mode:=mode,fuel:=fuel x,live:=live,pin:=0,K:=Kc,nx:=true,os:=os} fn (groupA shape (enc K x)) []) (M x)):
  CSound P (fun g vs Hi=>bif g==f then tspec shape K res R ok M vs Hi else C g vs Hi):=by
 intro g vs Hi us w S M' μ hok hl hh hM hv
 cases hg:(g==f) with
 |false=>
  simp only[hg,cond_false] at hok⊢
  exact hC g vs Hi us w S M' μ hok hl hh hM hv
 | true=>
  simp only[hg,cond_true] at hok⊢
  have hgf:g=f:=by simpa using hg
  subst hgf
  refine ⟨⟨fn,hf,hn,hb⟩,?_⟩
  simp only[tspec,Bool.and_eq_true,beq_iff_eq,List.isEmpty_iff] at hok
  obtain ⟨he,h1,h2,h3,h4⟩:=hok
  subst he
  have key:=hs _ h4
  obtain ⟨g1,g2⟩:=groupA_sound (H:=[]) (μ:=μ) (w:=w) (S:=S) shape vs (enc K (dec K (flatA vs))) h1 (by rw[enc_length,h2]) (fun q hq u hu=>by
   rw[enc_length] at hq
   exact decP_sound K _ h3 q hq u hu)
  have:=runF_sound (cx:={P:=P,C:=C,mode:=mode,fuel:=fuel (dec K (flatA vs)),live:=live,pin:=0,K:=Kc,nx:=true,os:=os}) (fn:=fn) (vs:=groupA shape (enc K (dec K (flatA vs)))) (Hi:=[]) hC hm rfl (hK 0 0) hf key.ok (by rw[g1];exact hl) hh hM (fun i hi=>g2 i (by rw[g1] at hi;exact hi) _ (hv i (by rw[g1] at hi;exact hi)))
  refine this.mono fun e w' hw=> ?_
  generalize hr:runF {P:=P,C:=C,mode:=mode,fuel:=fuel (dec K (flatA vs)),live:=live,pin:=0,K:=Kc,nx:=true,os:=os} fn (groupA shape (enc K (dec K (flatA vs)))) []=r at*
  obtain ⟨v,rfl,hk,μ',S',hh',hs1,hs2,hs3,_,hv'⟩:=hw
  obtain ⟨hfz,hfb⟩:=hh'.frozen ((valsOf r.val).flatMap refs)
  refine ⟨v,rfl,hk,μ',SF r.heap μ' S' ((valsOf r.val).flatMap refs),⟨fun b=>by rw[show (tspec shape K res R ok M vs []).heap=[] from rfl,nth_nil];trivial,fun b b' B hb=>by rw[show (tspec shape K res R ok M vs []).heap=[] from rfl,nth_nil] at hb;exact absurd hb (by simp[Blk.live]),hfz.stab,hfz.glob⟩,
   fun B h=> .inl (hs1 B h),fun B h=>(hfb B h).elim (hs2 B) .inr,hs3,fun b hb=>absurd hb (by simp),?_⟩
  have key2:=key.eq
  show VR [] μ' w' _ (one (groupA res (enc R (M (dec K (flatA vs)))))) v
  rw[←key2]
  have hview:∀(x:AV) (u:Value),x∈valsOf r.val→VR r.heap μ' w' S' x u→VR [] μ' w' (SF r.heap μ' S' ((valsOf r.val).flatMap refs)) (view r.heap x) u:=fun x u hx hu=>
   .pv (view_sound hh' hu (List.all_eq_true.1 key.vs x hx) fun b hb=>List.mem_flatMap.2 ⟨x,hx,hb⟩)
  have hgr:=groupA_sound (H:=[]) (μ:=μ') (w:=w') (S:=SF r.heap μ' S' ((valsOf r.val).flatMap refs)) res (roVs r) (enc R (dec R (flatA (roVs r)))) key.fits (by rw[enc_length,key.len]) (fun q hq u hu=>by
   rw[enc_length] at hq
   exact decP_sound R _ key.good q hq u hu)
  by_cases ht:∃ws,r.val= .tup ws
  ·obtain ⟨ws,hws⟩:=ht
   have hro:roVs r=ws.map (view r.heap):=by simp only[roVs,hws,valsOf]
   rw[hws] at hv'
   obtain ⟨us',rfl,q1,q2⟩:=vr_tup hv'
   have hlen:(groupA res (enc R (dec R (flatA (roVs r))))).length=ws.length:=by rw[hgr.1,hro,List.length_map]
   have comp:∀i,i<ws.length→VR [] μ' w' (SF r.heap μ' S' ((valsOf r.val).flatMap refs)) (nth .junk (groupA res (enc R (dec R (flatA (roVs r))))) i) (us'.getD i undef):=fun i hi=>by
    refine hgr.2 i (by rw[hro,List.length_map];exact hi) _ ?_
    rw[hro,nth_map AV.junk AV.junk (view r.heap) ws i hi]
    exact hview _ _ (by rw[hws];show nth .junk ws i∈ws;rw[nth_lt _ _ _ hi];exact List.getElem_mem hi) (q2 i hi)
   by_cases h1:ws.length=1
   ·exact absurd h1 (key.one ws hws)
   ·have e1:one (groupA res (enc R (dec R (flatA (roVs r)))))= .tup (groupA res (enc R (dec R (flatA (roVs r))))):=by
     rcases hgl:groupA res (enc R (dec R (flatA (roVs r)))) with _|⟨x,_|⟨y,l⟩⟩
     ·rfl
     ·rw[hgl] at hlen;simp at hlen;omega
     ·rfl
    rw[e1]
    exact .tup _ _ (by rw[hlen];exact q1) fun i hi=>comp i (by rw[←hlen];exact hi)
  ·have hvo:valsOf r.val=[r.val]:=by
    cases hrv:r.val<;>first|rfl|exact absurd ⟨_,hrv⟩ ht
   have hro:roVs r=[view r.heap r.val]:=by simp only[roVs,hvo,List.map_cons,List.map_nil]
   have hlen:(groupA res (enc R (dec R (flatA (roVs r))))).length=1:=by rw[hgr.1,hro];rfl
   have c0:=hgr.2 0 (by rw[hro];simp) v (by rw[hro];exact hview _ _ (by rw[hvo];simp) hv')
   match hgl:groupA res (enc R (dec R (flatA (roVs r)))),hlen with
   |[x],_=>rw[hgl] at c0;exact c0
end Go.Abs
namespace Go.Abs
variable [Globs]
variable {os:List TypeId}
def addC (f:FuncId) (spec:List AV→List Blk→Res) (C:FuncId→List AV→List Blk→Res):FuncId→List AV→List Blk→Res:=fun g vs Hi=>bif g==f then spec vs Hi else C g vs Hi
def noC:FuncId→List AV→List Blk→Res:=fun _ _ _=> .bad
abbrev KT:=FuncId→Option (List AV→List Blk→(Res→Res)→Res)
def noK:KT:=fun _=>none
def addK (f:FuncId) (k:List AV→List Blk→(Res→Res)→Res) (K:KT):KT:=fun g=>bif g==f then some k else K g
def cxI (P:Program) (C:FuncId→List AV→List Blk→Res) (mode:FuncId→List Bool) (K:KT) (n:Nat):Cx:={P:=P,C:=C,mode:=mode,fuel:=0,live:=fun _=>[],pin:=n,K:=K}
noncomputable def inl (P:Program) (C:FuncId→List AV→List Blk→Res) (mode:FuncId→List Bool) (K:KT) (fn:Func) (vs:List AV) (Hi:List Blk):Res:=runF (cxI P C mode K Hi.length) fn vs Hi
noncomputable def inlK (P:Program) (C:FuncId→List AV→List Blk→Res) (mode:FuncId→List Bool) (K:KT) (fn:Func) (vs:List AV) (Hi:List Blk) (κ:Res→Res):Res:=runFK (cxI P C mode K Hi.length) fn vs Hi κ
structure Tab (P:Program) (C:FuncId→List AV→List Blk→Res) (mode:FuncId→List Bool) (K:KT):Prop where
 sound:CSound P C
 mixed:P.follows .mixedOrders=true
 go:∀fu live pin,KOk {P:=P,C:=C,mode:=mode,fuel:=fu,live:=live,pin:=pin,K:=K}
theorem Tab.none {P:Program} {mode:FuncId→List Bool} (hm:P.follows .mixedOrders=true):Tab P noC mode noK:=⟨CSound.empty,hm,fun _ _ _ f k h=>by simp[noK] at h⟩
theorem Tab.addInl {P:Program} {C C':FuncId→List AV→List Blk→Res} {mode:FuncId→List Bool} {K K':KT} {f:FuncId} {fn:Func} (h:Tab P C mode K) (h':Tab P C' mode K') (hf:P.funcs[f]?=some fn) (hn:(fn.name== "runtime.NumGoroutine")=false) (hb:fn.body.isNone=false):
  Tab P (addC f (inl P C' mode K' fn) C) mode (addK f (inlK P C' mode K' fn) K):=by
 refine ⟨fun g vs Hi us w S M μ hok hl hh hM hv=> ?_,h.mixed,fun fu live pin g k hg vs H κ hok κ'=> ?_⟩
 ·simp only[addC] at hok⊢
  cases hgf:(g==f) with
  |false=>rw[hgf] at hok;exact h.sound g vs Hi us w S M μ hok hl hh hM hv
  |true=>
   rw[hgf] at hok
   have:g=f:=by simpa using hgf
   subst this
   exact ⟨⟨fn,hf,hn,hb⟩,runF_sound (cx:=cxI P C' mode K' Hi.length) h'.sound h.mixed rfl (h'.go _ _ _) hf hok hl hh hM hv⟩
 simp only[addK,addC] at hg hok⊢
 cases hgf:(g==f) with
 |true=>
  simp only[hgf,cond_true,Option.some.injEq] at hg
  subst hg
  exact runFK_det (h'.go _ _ _) rfl hok κ'
 |false=>
  simp only[hgf,cond_false] at hg
  exact h.go fu live pin g k hg vs H κ hok κ'
theorem CSound.one {P:Program} {C C':FuncId→List AV→List Blk→Res} {f:FuncId} {spec:List AV→List Blk→Res} (h:CSound P C) (h':CSound P (addC f spec C')):CSound P (addC f spec C):=by
 intro g vs Hi us w S M μ hok hl hh hM hv
 have h2:=h' g vs Hi us w S M μ
 simp only[addC] at hok h2⊢
 cases hgf:(g==f) with
 |false=>rw[hgf] at hok;exact h g vs Hi us w S M μ hok hl hh hM hv
 |true=>rw[hgf] at hok h2;exact h2 hok hl hh hM hv
theorem Tab.one {P:Program} {C C':FuncId→List AV→List Blk→Res} {mode:FuncId→List Bool} {K:KT} {f:FuncId} {spec:List AV→List Blk→Res} (h:Tab P C mode K) (h':CSound P (addC f spec C')) (hkn:K f=Option.none):Tab P (addC f spec C) mode K:=by
 refine ⟨h.sound.one h',h.mixed,fun fu live pin g k hg vs H κ hok κ'=> ?_⟩
 have:=h.go fu live pin g k hg vs H κ hok κ'
 simp only[addC]
 cases hgf:(g==f) with
 |true=>
  have:g=f:=by simpa using hgf
  subst this
  have hg':K g=some k:=hg
  rw[hkn] at hg'
  cases hg'
 |false=>exact this
theorem Tab.addTy {P:Program} {C C':FuncId→List AV→List Blk→Res} {mode:FuncId→List Bool} {K K':KT} {f:FuncId} {fn:Func} {shape res:List (Option Nat)} {KK R:CK} {ok:CT KK→Bool} {M:CT KK→CT R} (h:Tab P C mode K) (h':Tab P C' mode K') (hf:P.funcs[f]?=some fn) (hn:(fn.name== "runtime.NumGoroutine")=false) (hb:fn.body.isNone=false)
  (hkn:K f=Option.none) (live:Nat→List Nat) (fuel:CT KK→Nat)
  (hs:∀x,ok x=true→Ret res R (runF {P:=P,C:=C',mode:=mode,fuel:=fuel x,live:=live,pin:=0,K:=K',nx:=true,os:=os} fn (groupA shape (enc KK x)) []) (M x)):
  Tab P (addC f (tspec shape KK res R ok M) C) mode K:=
 h.one (CSound.typed h'.sound h.mixed hf hn hb mode live fuel K' (fun fu pin=>h'.go fu _ pin) hs) hkn
theorem Tab.add {P:Program} {C C':FuncId→List AV→List Blk→Res} {mode:FuncId→List Bool} {K K':KT} {f:FuncId} {fn:Func} {spec:List AV→List Blk→Res} (h:Tab P C mode K) (h':Tab P C' mode K') (hf:P.funcs[f]?=some fn) (hn:(fn.name== "runtime.NumGoroutine")=false) (hb:fn.body.isNone=false)
  (hkn:K f=Option.none) (live:Nat→List Nat) (fuel:List AV→List Blk→Nat)
  (hs:∀vs Hi,(spec vs Hi).ok=true→runF {P:=P,C:=C',mode:=mode,fuel:=fuel vs Hi,live:=live,pin:=Hi.length,K:=K'} fn vs Hi=spec vs Hi):
  Tab P (addC f spec C) mode K:=
 h.one (CSound.insert h'.sound h.mixed hf hn hb mode live fuel K' false (fun fu pin=>h'.go fu _ pin) hs) hkn
end Go.Abs

namespace Go.Abs
theorem wrap_id {n:Int} (h: -9223372036854775808≤n) (h':n≤9223372036854775807):IntKind.wrap IntKind.i64 n=n:=by rw[IntKind.wrap_i64];omega
theorem wrap_succ {i:Nat} (h:i<9223372036854775807):IntKind.wrap IntKind.i64 ((i:Int)+1)=((i+1:Nat):Int):=by rw[wrap_id (by omega) (by omega)];omega
theorem wrapu_id {n:Int} (h:0≤n) (h':n≤9223372036854775807):IntKind.wrap IntKind.u64 n=n:=by simp[IntKind.wrap,IntKind.signed,IntKind.bits];omega
theorem drop_nth {α:Type} (d:α) (xs:List α) {i:Nat} (h:i<xs.length):xs.drop i=nth d xs i::xs.drop (i+1):=by rw[nth_lt _ _ _ h];exact List.drop_eq_getElem_cons h
theorem take_nth {α:Type} (d:α) (xs:List α) {i:Nat} (h:i<xs.length):xs.take (i+1)=xs.take i++[nth d xs i]:=by rw[nth_lt _ _ _ h];exact List.take_succ_eq_append_getElem h
theorem nth_mem {α:Type} (d:α) (xs:List α) {i:Nat} (h:i<xs.length):nth d xs i∈xs:=by rw[nth_lt _ _ _ h];exact List.getElem_mem h
theorem drop_len {α:Type} (xs:List α) {i:Nat} (h:xs.length≤i):xs.drop i=[]:=List.drop_of_length_le h
theorem shl_one {b:Int} (h:0≤b) (h':b≤62):shlI .i64 1 b=2^b.toNat:=by
 have e:min b.toNat (IntKind.bits .i64)=b.toNat:=by simp[IntKind.bits];omega
 have hp:(2:Int)^b.toNat≤2^62:=by
  have:=Nat.pow_le_pow_right (n:=2) (by omega) (show b.toNat≤62 by omega)
  exact_mod_cast this
 have hq:(0:Int)≤2^b.toNat:=Int.pow_nonneg (by omega)
 simp only[shlI,e,Int.one_mul]
 exact wrap_id (by omega) (by omega)
theorem Ret.bool (b:Bool):Ret [none] .bool ⟨true, .bool b,[]⟩ b:=⟨rfl,rfl,rfl,rfl,rfl,rfl,fun _ h=>by cases h⟩
theorem Ret.int (k:IntKind) (n:Int):Ret [none] (.int k) ⟨true, .int k n,[]⟩ n:=⟨rfl,rfl,rfl,rfl,by simp[roVs,valsOf,view,view1,flatA,cellsA,decOk,nth,isInt],rfl,fun _ h=>by cases h⟩
theorem nble (a b:Nat):Nat.ble a b=decide (a≤b):=by rw[Bool.eq_iff_iff];simp[Nat.ble_eq]
theorem beq_ne {a b:Int}:(a !=b)= !decide (a=b):=by
 rw[Bool.eq_iff_iff];simp
end Go.Abs
