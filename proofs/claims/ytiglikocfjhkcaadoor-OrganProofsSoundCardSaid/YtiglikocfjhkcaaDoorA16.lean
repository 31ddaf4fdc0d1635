/- A function: from its arguments to what it hands back. -/
import Derived.Test.YtiglikocfjhkcaaDoorA14
set_option linter.all false
set_option linter.unusedVariables false
set_option linter.unusedSimpArgs false
namespace Go.Abs
variable [Globs]
open Go.RowKit (Below)
section
variable {H:List Blk} {μ:Nat→Value} {w:World} {S:Nat→Prop} {w0:World} {S0:Sc} {cx:Cx} {P:Program}
def resG (P:Program) (w:World) (tmps:Array Value):ResultVar→Value
 | .tmp t=>tmps.getD t undef
 | .cell ad t=>match (do loadVar t (←asAddr (tmps.getD ad undef)):Sem Value).run P w with| .ok u _=>u|_=>undef
def resS (tmps:Array Value):ResultVar→Sem Value
 | .tmp t=>pure (tmps.getD t undef)
 | .cell ad t=>do loadVar t (←asAddr (tmps.getD ad undef))
theorem results_eq (fn:Func) (tmps:Array Value):results fn tmps=(do let vs ←fn.results.mapM (resS tmps);pure (if h:vs.size=1 then vs[0] else .tuple vs)):=by
 unfold results
 congr 1
theorem res_run {st:St} {a:Act} {base:Nat→Prop} (hh:HR st.H μ w S base) (hT:TR st.H μ w S st.T a.tmps) {r:ResultVar} (h:resOk P st r=true):
  (resS a.tmps r).run P w= .ok (resG P w a.tmps r) w∧VR st.H μ w S (resV P st r) (resG P w a.tmps r):=by
 have tmp:∀t,grd (nth .junk st.T t)=true→VR st.H μ w S (unw (nth .junk st.T t)) (a.tmps.getD t undef):=fun t h=>by
  rcases Nat.lt_or_ge t st.T.length with ht|ht
  ·exact vr_unw (hT.2 t ht) h
  ·rw[nth_ge _ _ _ ht];exact .junk _
 cases r with
 |tmp t=>exact ⟨rfl,tmp t h⟩
 | cell ad t=>
  simp only[resOk,Bool.and_eq_true] at h
  obtain ⟨u,h1,h2⟩:=loadE_run (P:=P) hh (tmp ad h.1) h.2
  have hp:∃q,a.tmps.getD ad undef= .pointer (some q):=by
   have hv:=tmp ad h.1
   have hc:=h.2
   generalize unw (nth .junk st.T ad)=x at hv hc
   generalize a.tmps.getD ad undef=v at hv
   cases hv with
   |ptr b off cs B _ _=>exact ⟨_,rfl⟩
   |eptr b ver i j r B o _ _ _=>exact ⟨_,rfl⟩
   |tptr b ver p i j r B o _ _ _=>exact ⟨_,rfl⟩
   |pv hp=>cases hp<;>first|exact ⟨_,rfl⟩|(simp[loadE,Eff.bad] at hc)
   |_=>simp[loadE,Eff.bad] at hc
  obtain ⟨q,hq⟩:=hp
  have hrun:(do loadVar t (←asAddr (a.tmps.getD ad undef)):Sem Value).run P w= .ok u w:=by
   rw[hq] at h1⊢
   simpa [Instr.loadAt,Instr.sureAddr,asAddr] using h1
  refine ⟨?_,?_⟩
  ·simp only[resG,hrun];exact hrun
  ·simp only[resG,hrun];exact h2
theorem rep_length {α:Type} (x:α):∀n,(rep x n).length=n
 |0=>rfl
 |n+1=>by simp[rep,rep_length x n]
theorem nth_rep {α:Type} (x:α):∀n i,nth x (rep x n) i=x
 |0,i=>nth_nil _ _
 |n+1,0=>rfl
 |n+1,i+1=>nth_rep x n i
theorem endK_strict {fn:Func}:Strict (endK cx fn):=fun ex st h=>by
 cases ex with
 |exit i=>simp[endK,Res.bad] at h
 |_=>simp only[endK,endRes,Bool.and_eq_true] at h;exact h.2.2
theorem ren_not_tup {pin:Nat} {ord:List Nat} {v:AV} {l:List AV}:ren pin H ord v≠ .tup l:=by
 have n1:∀x,ren1 pin H ord x≠ .tup l:=fun x=>by
  cases x with
  |ptr b off=>
   simp only[ren1]
   cases idx b ord 0<;>(intro h;cases h)
  |csl b off n=>
   simp only[ren1]
   cases idx b ord 0<;>(intro h;cases h)
  |mp b=>
   simp only[ren1]
   cases idx b ord 0<;>(intro h;cases h)
  |it b=>
   simp only[ren1]
   cases idx b ord 0<;>(intro h;cases h)
  |eptr b ver i j=>
   simp only[ren1]
   cases idx b ord 0 with
   |none=>intro h;cases h
   |some c=>simp only;cases (ver==verOf H b)<;>(intro h;cases h)
  |sl b ver off len=>
   simp only[ren1]
   cases idx b ord 0 with
   |none=>intro h;cases h
   |some c=>simp only;cases (ver==verOf H b)<;>(intro h;cases h)
  |tsl b ver p=>
   simp only[ren1]
   cases idx b ord 0 with
   |none=>intro h;cases h
   |some c=>simp only;cases (ver==vpOf H b p)<;>(intro h;cases h)
  |tptr b ver p i j=>
   simp only[ren1]
   cases idx b ord 0 with
   |none=>intro h;cases h
   |some c=>simp only;cases (ver==vpOf H b p)<;>(intro h;cases h)
  |_=>intro h;cases h
 cases v with
 |agg cs=>intro h;cases h
 |clo f cs=>intro h;cases h
 |ptr b off=>exact n1 (.ptr b off)
 |mp b=>exact n1 (.mp b)
 |it b=>exact n1 (.it b)
 |csl b off n=>exact n1 (.csl b off n)
 |eptr b ver i j=>exact n1 (.eptr b ver i j)
 |sl b ver off len=>exact n1 (.sl b ver off len)
 |tsl b ver p=>exact n1 (.tsl b ver p)
 |tptr b ver p i j=>exact n1 (.tptr b ver p i j)
 |_=>intro h;cases h
theorem one_sound {Hh:List Blk} {μh:Nat→Value} {vs:List AV} {us:List Value} (hl:vs.length=us.length) (ht:∀v∈vs,∀l,v≠ .tup l) (h:∀i,i<vs.length→VR Hh μh w S (nth .junk vs i) (us.getD i undef)):
  VR Hh μh w S (one vs) (if h:us.toArray.size=1 then us.toArray[0] else .tuple us.toArray):=by
 have tup:us.toArray.size≠1→VR Hh μh w S (.tup vs) (if h:us.toArray.size=1 then us.toArray[0] else .tuple us.toArray):=fun h1=>by
  rw[dif_neg h1]
  refine .tup _ _ (by simpa using hl) fun i hi=> ?_
  have e:us.toArray.getD i undef=us.getD i undef:=by rw[Array.getD_eq_getD_getElem?,List.getD_eq_getElem?_getD];simp
  rw[e];exact h i hi
 cases vs with
 |nil=>
  have:us=[]:=List.eq_nil_of_length_eq_zero hl.symm
  subst this
  exact tup (by simp)
 | cons v vs=>
  cases vs with
  | nil=>
   obtain ⟨u,rfl⟩:∃u,us=[u]:=by
    match us,hl with
    |[u],_=>exact ⟨u,rfl⟩
   have h0:=h 0 (by simp)
   simpa [one,nth] using h0
  |cons v' vs=>exact tup (by simp at hl⊢;omega)
theorem runF_sound {f:FuncId} {fn:Func} {vs:List AV} {Hi:List Blk} {us:Array Value} {w:World} {S M:Nat→Prop} {μ:Nat→Value} (hC:CSound cx.P cx.C) (hm:cx.P.follows .mixedOrders=true) (hpn:Hi.length=cx.pin) (hK:KOk cx) (hf:cx.P.funcs[f]?=some fn) (hok:(runF cx fn vs Hi).ok=true) (hl:vs.length=us.size)
  (hh:HR Hi μ w S M) (hM:∀B,w.heap.size≤B→M B) (hv:∀i,i<vs.length→VR Hi μ w S (nth .junk vs i) (us.getD i undef)):
  Calls cx.P f us w fun e w'=>∃v,e= .returned v∧Kept M w w'∧∃μ' S',HR (runF cx fn vs Hi).heap μ' w' S' M∧(∀B,S B→S' B)∧(∀B,S' B→S B∨M B)∧
   (∀B,S B→w'.heap[B]?=w.heap[B]?)∧Pinned ⟨S,M,Hi.length,Hi,μ⟩ (runF cx fn vs Hi).heap μ'∧VR (runF cx fn vs Hi).heap μ' w' S' (runF cx fn vs Hi).val v:=by
 cases hb:fn.body with
 |none=>simp[runF,hb,Res.bad] at hok
 | some c=>
  have hrun:runF cx fn vs Hi=runK cx c {T:=vs++rep .junk (fn.ntmps-vs.length),H:=Hi,ok:=true} (endK cx fn):=by simp only[runF,hb]
  generalize hr:runF cx fn vs Hi=r at*
  refine calls_of_wp hf hb ?_
  have hrep:RepTH w ⟨S,M,Hi.length,Hi,μ⟩ (vs++rep .junk (fn.ntmps-vs.length)) Hi {tmps:=us++Array.replicate (fn.ntmps-us.size) undef,defers:=[]} w:=by
   refine ⟨μ,S,⟨hh,Kept.refl _ _,fun _ h=>h,fun _ h=> .inl h,hM,fun b _=>⟨fun cs h=>⟨⟨cs,h⟩,rfl⟩,fun r h=>⟨r,h,rfl,fun _ _=>⟨rfl,rfl⟩⟩,fun h=>⟨h,rfl⟩,fun h=>⟨h,rfl⟩,fun d h=>⟨d,h,fun p _ _=>SameP.refl d _ p⟩⟩⟩,fun _ _=>rfl,rfl,by simp[rep_length,hl],fun i hi=> ?_⟩
   rw[nth_append]
   by_cases h:i<vs.length
   ·rw[if_pos h]
    have:=hv i h
    rw[Array.getD_eq_getD_getElem?,Array.getElem?_append_left (by omega),←Array.getD_eq_getD_getElem?]
    exact this
   ·rw[if_neg h,nth_rep];exact .junk _
  refine runK_sound (w0:=w) (S0:=⟨S,M,Hi.length,Hi,μ⟩) hC hm hpn hK hok c _ _ _ w _ endK_strict hrep hrun.symm fun ex st' a' w' hrp hk=> ?_
  obtain ⟨μ1,S1,h1,hst,h2,h3⟩:=hrp
  have fin:endRes cx st'.H (fn.results.toList.map (resV cx.P st')) (fn.results.toList.all (resOk cx.P st')&&st'.ok)=r→
    a'.defers=[]∧∃v,(results fn a'.tmps).run cx.P w'= .ok v w'∧∃v',Ending.returned v= .returned v'∧Kept M w w'∧∃μ' S',HR r.heap μ' w' S' M∧(∀B,S B→S' B)∧(∀B,S' B→S B∨M B)∧
     (∀B,S B→w'.heap[B]?=w.heap[B]?)∧Pinned ⟨S,M,Hi.length,Hi,μ⟩ r.heap μ'∧VR r.heap μ' w' S' r.val v':=fun he=>by
   rw[←he] at hok⊢
   simp only[endRes,Bool.and_eq_true] at hok⊢
   obtain ⟨o0,o1,_⟩:=hok
   have hres:∀x∈fn.results.toList,(resS a'.tmps x).run cx.P w'= .ok (resG cx.P w' a'.tmps x) w'∧VR st'.H μ1 w' S1 (resV cx.P st' x) (resG cx.P w' a'.tmps x):=fun x hx=>res_run h1.hr h3 (List.all_eq_true.1 o1 x hx)
   have hmap:=amapM_run (P:=cx.P) (w:=w') (f:=resS a'.tmps) (g:=resG cx.P w' a'.tmps) fn.results fun x hx=>(hres x hx).1
   refine ⟨h2,(if h:(fn.results.toList.map (resG cx.P w' a'.tmps)).toArray.size=1 then (fn.results.toList.map (resG cx.P w' a'.tmps)).toArray[0] else .tuple (fn.results.toList.map (resG cx.P w' a'.tmps)).toArray),?_,_,rfl,h1.below,
    renM μ1 (gcOrd cx.pin st'.H (fn.results.toList.map (resV cx.P st'))),S1,ren_HR (reach_nodup _ _ _ List.nodup_nil) h1.hr fun b _ hlv B hB=> ?_,h1.sub,h1.sup,hst,h1.pins.ren hpn o0,?_⟩
   ·rw[results_eq]
    simp only[Sem.run_bind,hmap,Result.andThen_ok,Sem.run_pure]
   ·cases hx:nth .free st'.H b with
    |free=>rw[hx] at hlv;exact absurd hlv id
    |fro _ _ _ _=>rw[hx] at hlv;exact absurd hlv id
    |cells cs=>
     obtain ⟨B',_,_,hm,_,ho,_⟩:=h1.hr.cellsB hx
     rw[hm] at hB
     simp only[Owns,blkOf,Option.some.injEq] at hB
     exact hB▸ho
    |fmap _ _ _ _ _=>rw[hx] at hlv;exact absurd hlv id
    |map _ _ _ _ _=>
     obtain ⟨B',hm,ho,_⟩:=h1.hr.mapB hx
     rw[hm] at hB
     simp only[Owns,blkOf,Option.some.injEq] at hB
     exact hB▸ho
    |iter _ _ _ _ _ _=>
     obtain ⟨B',hm,ho,_⟩:=h1.hr.iterB hx
     rw[hm] at hB
     simp only[Owns,blkOf,Option.some.injEq] at hB
     exact hB▸ho
    |row _ _ _ _=>exact h1.hr.rowBase hx hB
    |tab _ _ _ _ _ _ _ _=>exact h1.hr.tabBase hx hlv hB
   ·refine one_sound (by simp) (fun v hv l e=> ?_) fun i hi=> ?_
    ·obtain ⟨x,_,rfl⟩:=List.mem_map.1 hv
     exact ren_not_tup e
    ·have hi':i<fn.results.toList.length:=by simpa using hi
     rw[nth_map AV.junk AV.junk (ren cx.pin st'.H _) _ i (by simpa using hi'),nth_lt _ _ _ (by simpa using hi'),List.getD_eq_getElem?_getD,List.getElem?_map,List.getElem?_eq_getElem hi']
     simp only[List.getElem_map,Option.map_some,Option.getD_some]
     exact ren_sound (hres _ (List.getElem_mem hi')).2
  cases ex with
  |normal=>exact fin hk
  |ret=>exact fin hk
  |exit i=>simp only[endK] at hk;rw[←hk] at hok;simp[Res.bad] at hok
theorem loopK_det {c:Code} {gcf:St→St} {k:Ex→St→Res} (hc:∀st k,(runK cx c st k).ok=true→∃ex st',∀k':Ex→St→Res,runK cx c st k'=k' ex st'):∀n st,(loopK (runK cx c) gcf k n st).ok=true→∃ex st',∀k':Ex→St→Res,loopK (runK cx c) gcf k' n st=k' ex st'
 |0,_,h=>by simp[loopK,Res.bad] at h
 | n+1,st,h=>by
  simp only[loopK] at h⊢
  obtain ⟨ex,st',h1⟩:=hc _ _ h
  rw[h1] at h
  cases ex with
  |normal=>
   obtain ⟨ex2,st2,h2⟩:=loopK_det hc n _ h
   exact ⟨ex2,st2,fun k'=>by rw[h1];exact h2 k'⟩
  |exit i=>exact ⟨.exit i,st',fun k'=>by rw[h1];rfl⟩
  |ret=>exact ⟨.ret,st',fun k'=>by rw[h1];rfl⟩
theorem runK_det (hK:KOk cx) (hnx:cx.nx=false):∀(c:Code) (st:St) (k:Ex→St→Res),(runK cx c st k).ok=true→∃ex st',∀k':Ex→St→Res,runK cx c st k'=k' ex st'
 | .skip,st,k,h=>⟨_,_,fun _=>rfl⟩
 | .region id ops draw,st,k,h=>by
  simp only[runK] at h⊢
  cases hn:hasNext ops with
  |false=>
   rw[hn] at h
   simp only[cond_false] at h⊢
   exact ⟨.normal,_,fun k'=>regionQ_det hK h _⟩
  |true=>
   rw[hn] at h
   simp only[cond_true] at h
   have hb:=nextR_nx h
   rw[hnx] at hb
   cases hb
 | .seq a b,st,k,h=>by
  simp only[runK] at h⊢
  obtain ⟨ex,st',h1⟩:=runK_det hK hnx a st _ h
  rw[h1] at h
  cases ex with
  |normal=>
   obtain ⟨ex2,st2,h2⟩:=runK_det hK hnx b _ _ h
   exact ⟨ex2,st2,fun k'=>by rw[h1];exact h2 k'⟩
  |exit i=>exact ⟨.exit i,st',fun k'=>by rw[h1];rfl⟩
  |ret=>exact ⟨.ret,st',fun k'=>by rw[h1];rfl⟩
 | .cond c x y,st,k,h=>by
  simp only[runK] at h⊢
  cases hu:unw (ev st.T c)<;>simp only[hu] at h⊢ <;>try (simp[Res.bad] at h;done)
  rename_i b
  cases b with
  |true=>exact runK_det hK hnx x _ k h
  |false=>exact runK_det hK hnx y _ k h
 | .block id c,st,k,h=>by
  simp only[runK] at h⊢
  obtain ⟨ex,st',h1⟩:=runK_det hK hnx c st _ h
  cases ex with
  |normal=>exact ⟨.normal,st',fun k'=>by rw[h1];rfl⟩
  |exit i=>
   cases hi:(i==id) with
   |true=>exact ⟨.normal,st',fun k'=>by rw[h1];simp only[blockK,hi];rfl⟩
   |false=>exact ⟨.exit i,st',fun k'=>by rw[h1];simp only[blockK,hi];rfl⟩
  |ret=>exact ⟨.ret,st',fun k'=>by rw[h1];rfl⟩
 | .loop c,st,k,h=>by
  simp only[runK] at h⊢
  exact loopK_det (fun st k h=>runK_det hK hnx c st k h) _ _ h
 | .exit id,st,k,h=>⟨_,_,fun _=>rfl⟩
 | .label l,st,k,h=>⟨_,_,fun _=>rfl⟩
 | .ret,st,k,h=>⟨_,_,fun _=>rfl⟩
 | .goto _,st,k,h=>by simp[runK,Res.bad] at h
 | .scope c,st,k,h=>runK_det hK hnx c st k h
 | .rangeFunc _ _ _ _,st,k,h=>by simp[runK,Res.bad] at h
 | .refuse _,st,k,h=>by simp[runK,Res.bad] at h
theorem runFK_det (hK:KOk cx) (hnx:cx.nx=false) {fn:Func} {vs:List AV} {H:List Blk} {κ:Res→Res} (h:(runFK cx fn vs H κ).ok=true) (κ':Res→Res):runFK cx fn vs H κ'=κ' (runF cx fn vs H):=by
 unfold runFK runF at*
 cases hb:fn.body with
 |none=>simp[hb,Res.bad] at h
 |some c=>
  simp only[hb] at h⊢
  obtain ⟨ex,st',h1⟩:=runK_det hK hnx c _ _ h
  rw[h1,h1]
theorem CSound.insert {P:Program} {C:FuncId→List AV→List Blk→Res} {f:FuncId} {fn:Func} {spec:List AV→List Blk→Res} (hC:CSound P C) (hm:P.follows .mixedOrders=true) (hf:P.funcs[f]?=some fn) (hn:(fn.name== "runtime.NumGoroutine")=false) (hb:fn.body.isNone=false)
  (mode:FuncId→List Bool) (live:Nat→List Nat) (fuel:List AV→List Blk→Nat) (K:FuncId→Option (List AV→List Blk→(Res→Res)→Res)) (nx:Bool) (hK:∀fu pin,KOk {P:=P,C:=C,mode:=mode,fuel:=fu,live:=live,pin:=pin,K:=K})
  (hs:∀vs Hi,(spec vs Hi).ok=true→runF {P:=P,C:=C,mode:=mode,fuel:=fuel vs Hi,live:=live,pin:=Hi.length,K:=K,nx:=nx} fn vs Hi=spec vs Hi):
  CSound P (fun g vs Hi=>bif g==f then spec vs Hi else C g vs Hi):=by
 intro g vs Hi us w S M μ hok hl hh hM hv
 cases hg:(g==f) with
 |false=>
  simp only[hg,cond_false] at hok⊢
  exact hC g vs Hi us w S M μ hok hl hh hM hv
 |true=>
  simp only[hg,cond_true] at hok⊢
  have hgf:g=f:=by simpa using hg
  subst hgf
  refine ⟨⟨fn,hf,hn,hb⟩,?_⟩
  have he:=hs vs Hi hok
  rw[←he] at hok⊢
  exact runF_sound (cx:={P:=P,C:=C,mode:=mode,fuel:=fuel vs Hi,live:=live,pin:=Hi.length,K:=K,nx:=nx}) hC hm rfl (hK 0 0) hf hok hl hh hM hv
theorem CSound.empty {P:Program}:CSound P (fun _ _ _=> .bad):=fun f vs Hi us w S M μ h=>by simp[Res.bad] at h
end
end Go.Abs

namespace Go.Abs
variable [Globs]
noncomputable def loopsOf (cx:Cx):Code→(Ex→St→Res)→List (Code×(Ex→St→Res))
 | .seq a b,k=>loopsOf cx a (seqK (fun st k=>runK cx b (cutG cx b st) k) k)++loopsOf cx b k
 | .cond _ x y,k=>loopsOf cx x k++loopsOf cx y k
 | .block id c,k=>loopsOf cx c (blockK id k)
 | .scope c,k=>loopsOf cx c k
 | .loop c,k=>[(c,k)]
 |_,_=>[]
def nthLoop (l:List (Code×(Ex→St→Res))) (i:Nat):Code×(Ex→St→Res):=nth (.skip,fun _ _=> .bad) l i
def bodyOf (fn:Func):Code:=match fn.body with|some c=>c|none=> .skip
noncomputable def Lp (cx:Cx) (p:Code×(Ex→St→Res)) (n:Nat) (st:St):Res:=loopK (runK cx p.1) (gc cx.pin (cx.live (firstRegion p.1))) p.2 n st
noncomputable def outer (cx:Cx) (fn:Func) (i:Nat):Code×(Ex→St→Res):=nthLoop (loopsOf cx (bodyOf fn) (endK cx fn)) i
def loopBy (l:List (Code×(Ex→St→Res))) (id:Nat):Code×(Ex→St→Res):=
 match l with
 |[]=>(.skip,fun _ _=> .bad)
 |p::r=>bif firstRegion p.1==id then p else loopBy r id
noncomputable def innersOf (cx:Cx) (p:Code×(Ex→St→Res)) (n:Nat):List (Code×(Ex→St→Res)):=
 loopsOf cx p.1 (backK (loopK (runK cx p.1) (gc cx.pin (cx.live (firstRegion p.1))) p.2 n) (gc cx.pin (cx.live (firstRegion p.1))) p.2)
def frGo:Nat→Nat→List (Nat×AV)→List AV
 |0,_,_=>[]
 |n+1,i,[]=> .junk::frGo n (i+1) []
 |n+1,i,(j,v)::l=>bif i==j then v::frGo n (i+1) l else .junk::frGo n (i+1) ((j,v)::l)
def fr (n:Nat) (l:List (Nat×AV)):List AV:=frGo n 0 l
theorem hideE {α:Type} (a:α):∃b,b=a:=⟨a,rfl⟩
def liveTab (l:List (Nat×List Nat)) (i:Nat):List Nat:=match l with|[]=>[]|(j,s)::r=>bif i==j then s else liveTab r i
end Go.Abs
