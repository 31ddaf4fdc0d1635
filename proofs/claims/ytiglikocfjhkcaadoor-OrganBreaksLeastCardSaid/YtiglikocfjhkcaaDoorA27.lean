/- Contracts of functions that are handed a pointer with the memory behind it, leave that as it is, and hand back values that are read only. -/
import Derived.Test.YtiglikocfjhkcaaDoorA24
import Derived.Test.YtiglikocfjhkcaaDoorA26
set_option linter.all false
set_option linter.unusedVariables false
set_option linter.unusedSimpArgs false
namespace Go.Abs
variable [Globs]
open Go.RowKit (Below)
def frzV (r:Res):AV:=match r.val with
 | .tup ws=> .tup (ws.map (view r.heap))
 |v=>view r.heap v
def frzR (r:Res):Res:=⟨r.ok&&(valsOf r.val).all isV,frzV r,sets r.heap (frozenB r.heap ((valsOf r.val).flatMap refs))⟩
theorem CSound.insertF {P:Program} {C:FuncId→List AV→List Blk→Res} {f:FuncId} {fn:Func} {spec:List AV→List Blk→Res} (hC:CSound P C) (hm:P.follows .mixedOrders=true) (hf:P.funcs[f]?=some fn) (hn:(fn.name== "runtime.NumGoroutine")=false) (hb:fn.body.isNone=false)
  (mode:FuncId→List Bool) (live:Nat→List Nat) (fuel:List AV→List Blk→Nat) (Kc:KT) (hK:∀fu pin,KOk {P:=P,C:=C,mode:=mode,fuel:=fu,live:=live,pin:=pin,K:=Kc})
  (hs:∀vs Hi,(spec vs Hi).ok=true→spec vs Hi=frzR (runF {P:=P,C:=C,mode:=mode,fuel:=fuel vs Hi,live:=live,pin:=Hi.length,K:=Kc} fn vs Hi)):
  CSound P (addC f spec C):=by
 intro g vs Hi us w S M' μ hok hl hh hM hv
 simp only[addC] at hok⊢
 cases hg:(g==f) with
 |false=>
  simp only[hg,cond_false] at hok⊢
  exact hC g vs Hi us w S M' μ hok hl hh hM hv
 | true=>
  simp only[hg,cond_true] at hok⊢
  have hgf:g=f:=by simpa using hg
  subst hgf
  refine ⟨⟨fn,hf,hn,hb⟩,?_⟩
  have key:=hs vs Hi hok
  rw[key] at hok⊢
  simp only[frzR,Bool.and_eq_true] at hok
  have:=runF_sound (cx:={P:=P,C:=C,mode:=mode,fuel:=fuel vs Hi,live:=live,pin:=Hi.length,K:=Kc}) (fn:=fn) (vs:=vs) (Hi:=Hi) hC hm rfl (hK _ _) hf hok.1 hl hh hM hv
  refine this.mono fun e w' hw=> ?_
  generalize hr:runF {P:=P,C:=C,mode:=mode,fuel:=fuel vs Hi,live:=live,pin:=Hi.length,K:=Kc} fn vs Hi=r at*
  obtain ⟨v,rfl,hk,μ',S',hh',hs1,hs2,hs3,hpin,hv'⟩:=hw
  obtain ⟨hfz,hfb⟩:=hh'.frozen ((valsOf r.val).flatMap refs)
  refine ⟨v,rfl,hk,μ',SF r.heap μ' S' ((valsOf r.val).flatMap refs),hfz,fun B h=> .inl (hs1 B h),fun B h=>(hfb B h).elim (hs2 B) .inr,hs3,hpin.ext (Ext.frozen _),?_⟩
  have hview:∀(x:AV) (u:Value),x∈valsOf r.val→VR r.heap μ' w' S' x u→VR (frzR r).heap μ' w' (SF r.heap μ' S' ((valsOf r.val).flatMap refs)) (view r.heap x) u:=fun x u hx hu=>
   .pv (view_sound hh' hu (List.all_eq_true.1 hok.2 x hx) fun b hb=>List.mem_flatMap.2 ⟨x,hx,hb⟩)
  show VR (frzR r).heap μ' w' _ (frzV r) v
  by_cases ht:∃ws,r.val= .tup ws
  ·obtain ⟨ws,hws⟩:=ht
   rw[hws] at hv'
   obtain ⟨us',rfl,q1,q2⟩:=vr_tup hv'
   have e1:frzV r= .tup (ws.map (view r.heap)):=by simp only[frzV,hws]
   rw[e1]
   refine .tup _ _ (by rw[List.length_map];exact q1) fun i hi=> ?_
   rw[List.length_map] at hi
   rw[nth_map AV.junk AV.junk (view r.heap) ws i hi]
   exact hview _ _ (by rw[hws];show nth .junk ws i∈ws;rw[nth_lt _ _ _ hi];exact List.getElem_mem hi) (q2 i hi)
  ·have hvo:valsOf r.val=[r.val]:=by
    cases hrv:r.val<;>first|rfl|exact absurd ⟨_,hrv⟩ ht
   have e1:frzV r=view r.heap r.val:=by
    unfold frzV
    split
    ·rename_i ws hws;exact absurd ⟨ws,hws⟩ ht
    ·rfl
   rw[e1]
   exact hview _ _ (by rw[hvo];simp) hv'
theorem Tab.addF {P:Program} {C C':FuncId→List AV→List Blk→Res} {mode:FuncId→List Bool} {K K':KT} {f:FuncId} {fn:Func} {spec:List AV→List Blk→Res} (h:Tab P C mode K) (h':Tab P C' mode K') (hf:P.funcs[f]?=some fn) (hn:(fn.name== "runtime.NumGoroutine")=false) (hb:fn.body.isNone=false)
  (hkn:K f=Option.none) (live:Nat→List Nat) (fuel:List AV→List Blk→Nat)
  (hs:∀vs Hi,(spec vs Hi).ok=true→spec vs Hi=frzR (runF {P:=P,C:=C',mode:=mode,fuel:=fuel vs Hi,live:=live,pin:=Hi.length,K:=K'} fn vs Hi)):
  Tab P (addC f spec C) mode K:=
 h.one (CSound.insertF h'.sound h.mixed hf hn hb mode live fuel K' (fun fu pin=>h'.go fu _ pin) hs) hkn
end Go.Abs

namespace Go.Abs
def isPtr0:AV→Bool| .ptr b o=>Nat.beq b 0&&Nat.beq o 0|_=>false
theorem isPtr0_eq {v:AV} (h:isPtr0 v=true):v= .ptr 0 0:=by
 cases v<;>simp[isPtr0] at h
 obtain ⟨rfl,rfl⟩:=h
 rfl
def isNilsX:AV→Bool| .nils=>true|_=>false
theorem isNilsX_eq {v:AV} (h:isNilsX v=true):v= .nils:=by
 cases v<;>simp[isNilsX] at h
 rfl
def isMp1:AV→Bool| .mp b=>Nat.beq b 1|_=>false
theorem isMp1_eq {v:AV} (h:isMp1 v=true):v= .mp 1:=by
 cases v<;>simp[isMp1] at h
 subst h
 rfl
theorem isI_eq {v:AV} (h:isInt .i64 v=true):v= .int .i64 (asInt v):=by
 cases v<;>simp[isInt] at h
 obtain ⟨rfl,_⟩:=h
 rfl
def isMapX (kk vk:CK):Blk→Bool| .map ka va kk' vk' _=>ka&&(!va&&(decide (kk'=kk)&&decide (vk'=vk)))|_=>false
def asMapX (kk vk:CK):Blk→List (CT kk×CT vk)| .map _ _ kk' vk' m=>asM kk vk (.rmap true false kk' vk' m)|_=>[]
theorem isMapX_eq {kk vk:CK} {b:Blk} (h:isMapX kk vk b=true):b= .map true false kk vk (asMapX kk vk b):=by
 cases b<;>simp[isMapX] at h
 rename_i ka va kk' vk' m
 obtain ⟨rfl,rfl,rfl,rfl⟩:=h
 simp[asMapX,asM]
end Go.Abs

namespace Go.Abs
variable [Globs]
open Go.RowKit (Below)
def isSlB:AV→Bool| .sl .. =>true|_=>false
def cutV (n:Nat) (v:AV):Bool:=(pure1 v||(isMpB v||isSlB v))&&(refs1 v).all fun b=>Nat.blt b n
def cutB (n:Nat):Blk→Bool| .cells cs=>cs.all (cutV n)|_=>true
theorem VR.cut {H H':List Blk} {μ:Nat→Value} {w:World} {S:Nat→Prop} {n:Nat} {v:AV} {u:Value} (h:VR H μ w S v u) (hb:∀b,b<n→nth .free H' b=nth .free H b) (hk:cutV n v=true):VR H' μ w S v u:=by
 simp only[cutV,Bool.and_eq_true,Bool.or_eq_true] at hk
 obtain ⟨hk,hr⟩:=hk
 have hlt:∀b∈refs1 v,b<n:=fun b hb=>by have:=List.all_eq_true.1 hr b hb;simpa [Nat.blt_eq] using this
 rcases hk with hk|hk|hk
 ·exact .pv (pv_of_pure h hk)
 ·cases v<;>simp[isMpB] at hk
  rename_i b
  cases h with
  |pv h=>cases h
  |mp _ B h1 h2=>exact .mp b B (by rw[hb b (hlt b (by simp[refs1]))];exact h1) h2
 ·cases v<;>simp[isSlB] at hk
  rename_i b ver off lw
  cases h with
  |pv h=>cases h
  |sl _ _ _ _ len r A c h1 h2 h3 h4 h5=>exact .sl b ver off lw len r A c (by rw[hb b (hlt b (by simp[refs1]))];exact h1) h2 h3 h4 h5
theorem HR.cut {H H':List Blk} {μ:Nat→Value} {w:World} {S M:Nat→Prop} (hh:HR H μ w S M) (hb:∀b,b<H'.length→nth .free H' b=nth .free H b) (hk:H'.all (cutB H'.length)=true):HR H' μ w S M:=by
 have hfree:∀b,¬b<H'.length→nth .free H' b= .free:=fun b hb=>nth_ge _ _ _ (by omega)
 refine ⟨fun b=> ?_,fun b b' B h1 h2 hne h3=> ?_,hh.stab,hh.glob⟩
 ·by_cases hlt:b<H'.length
  ·have h:=hh.blk b
   have hkb:cutB H'.length (nth .free H' b)=true:=List.all_eq_true.1 hk _ (by rw[nth_lt _ _ _ hlt];exact List.getElem_mem hlt)
   rw[hb b hlt] at hkb⊢
   cases hc:nth .free H b with
   |cells cs=>
    rw[hc] at h hkb
    obtain ⟨B,arr,t,q1,q2,q3,q4,q5,q6⟩:=h
    refine ⟨B,arr,t,q1,q2,q3,q4,q5,fun i hi=>(q6 i hi).cut (n:=H'.length) hb ?_⟩
    exact List.all_eq_true.1 hkb _ (by rw[nth_lt _ _ _ hi];exact List.getElem_mem hi)
   |tab fz _ _ _ _ _ _ _=>rw[hc] at h;cases fz<;>exact h
   |_=>rw[hc] at h;exact h
  ·rw[hfree b hlt];trivial
 ·have hl:∀b,(nth .free H' b).live→b<H'.length:=fun b h=>Classical.byContradiction fun hn=>by rw[hfree b hn] at h;exact h
  have hl1:=hl b h1
  have hl2:=hl b' h2
  rw[hb b hl1] at h1
  rw[hb b' hl2] at h2
  exact hh.inj b b' B h1 h2 hne h3
theorem CSound.insertC {P:Program} {C:FuncId→List AV→List Blk→Res} {f:FuncId} {fn:Func} {spec:List AV→List Blk→Res} (hC:CSound P C) (hm:P.follows .mixedOrders=true) (hf:P.funcs[f]?=some fn) (hn:(fn.name== "runtime.NumGoroutine")=false) (hb:fn.body.isNone=false)
  (mode:FuncId→List Bool) (live:Nat→List Nat) (fuel:List AV→List Blk→Nat) (Kc:KT) (hK:∀fu pin,KOk {P:=P,C:=C,mode:=mode,fuel:=fu,live:=live,pin:=pin,K:=Kc})
  (hs:∀vs Hi,(spec vs Hi).ok=true→∃r,runF {P:=P,C:=C,mode:=mode,fuel:=fuel vs Hi,live:=live,pin:=Hi.length,K:=Kc} fn vs Hi=r∧r.ok=true∧(valsOf r.val).all isV=true∧(spec vs Hi).val=frzV r∧(spec vs Hi).heap=Hi∧
   (∀b,b<Hi.length→nth .free r.heap b=nth .free Hi b)∧(∀b∈(valsOf r.val).flatMap refs,Hi.length≤b)∧Hi.all (cutB Hi.length)=true):
  CSound P (addC f spec C):=by
 intro g vs Hi us w S M' μ hok hl hh hM hv
 simp only[addC] at hok⊢
 cases hg:(g==f) with
 |false=>
  simp only[hg,cond_false] at hok⊢
  exact hC g vs Hi us w S M' μ hok hl hh hM hv
 | true=>
  simp only[hg,cond_true] at hok⊢
  have hgf:g=f:=by simpa using hg
  subst hgf
  refine ⟨⟨fn,hf,hn,hb⟩,?_⟩
  obtain ⟨r,hr,r1,r2,r3,r4,r5,r6,r7⟩:=hs vs Hi hok
  have:=runF_sound (cx:={P:=P,C:=C,mode:=mode,fuel:=fuel vs Hi,live:=live,pin:=Hi.length,K:=Kc}) (fn:=fn) (vs:=vs) (Hi:=Hi) hC hm rfl (hK _ _) hf (by rw[hr];exact r1) hl hh hM hv
  refine this.mono fun e w' hw=> ?_
  rw[hr] at hw
  obtain ⟨v,rfl,hk,μ',S',hh',hs1,hs2,hs3,hpin,hv'⟩:=hw
  obtain ⟨hfz,hfb⟩:=hh'.frozen ((valsOf r.val).flatMap refs)
  have hnf:∀b,b<Hi.length→nth .free (sets r.heap (frozenB r.heap ((valsOf r.val).flatMap refs))) b=nth .free Hi b:=fun b hb=>by
   have hq:=frozenB_nth r.heap ((valsOf r.val).flatMap refs) r.heap (fun _=> .inl rfl) rfl b
   have hnc:((valsOf r.val).flatMap refs).contains b=false:=by
    rw[Bool.eq_false_iff]
    intro hc
    have:=r6 b (by simpa using hc)
    omega
   rw[hnc] at hq
   exact hq.trans ((by cases nth .free r.heap b<;>rfl:frz false (nth .free r.heap b)=_).trans (r5 b hb))
  refine ⟨v,rfl,hk,μ',SF r.heap μ' S' ((valsOf r.val).flatMap refs),?_,fun B h=> .inl (hs1 B h),fun B h=>(hfb B h).elim (hs2 B) .inr,hs3,?_,?_⟩
  ·rw[r4];exact hfz.cut (fun b hb=>(hnf b hb).symm) r7
  ·rw[r4]
   intro b hb
   have:=hpin b hb
   rw[r5 b hb] at this
   exact this
  have hview:∀(x:AV) (u:Value),x∈valsOf r.val→VR r.heap μ' w' S' x u→VR (spec vs Hi).heap μ' w' (SF r.heap μ' S' ((valsOf r.val).flatMap refs)) (view r.heap x) u:=fun x u hx hu=>
   .pv (view_sound hh' hu (List.all_eq_true.1 r2 x hx) fun b hb=>List.mem_flatMap.2 ⟨x,hx,hb⟩)
  rw[r3]
  by_cases ht:∃ws,r.val= .tup ws
  ·obtain ⟨ws,hws⟩:=ht
   rw[hws] at hv'
   obtain ⟨us',rfl,q1,q2⟩:=vr_tup hv'
   have e1:frzV r= .tup (ws.map (view r.heap)):=by simp only[frzV,hws]
   rw[e1]
   refine .tup _ _ (by rw[List.length_map];exact q1) fun i hi=> ?_
   rw[List.length_map] at hi
   rw[nth_map AV.junk AV.junk (view r.heap) ws i hi]
   exact hview _ _ (by rw[hws];show nth .junk ws i∈ws;rw[nth_lt _ _ _ hi];exact List.getElem_mem hi) (q2 i hi)
  ·have hvo:valsOf r.val=[r.val]:=by
    cases hrv:r.val<;>first|rfl|exact absurd ⟨_,hrv⟩ ht
   have e1:frzV r=view r.heap r.val:=by
    unfold frzV
    split
    ·rename_i ws hws;exact absurd ⟨ws,hws⟩ ht
    ·rfl
   rw[e1]
   exact hview _ _ (by rw[hvo];simp) hv'
theorem Tab.addCut {P:Program} {C C':FuncId→List AV→List Blk→Res} {mode:FuncId→List Bool} {K K':KT} {f:FuncId} {fn:Func} {spec:List AV→List Blk→Res} (h:Tab P C mode K) (h':Tab P C' mode K') (hf:P.funcs[f]?=some fn) (hn:(fn.name== "runtime.NumGoroutine")=false) (hb:fn.body.isNone=false)
  (hkn:K f=Option.none) (live:Nat→List Nat) (fuel:List AV→List Blk→Nat)
  (hs:∀vs Hi,(spec vs Hi).ok=true→∃r,runF {P:=P,C:=C',mode:=mode,fuel:=fuel vs Hi,live:=live,pin:=Hi.length,K:=K'} fn vs Hi=r∧r.ok=true∧(valsOf r.val).all isV=true∧(spec vs Hi).val=frzV r∧(spec vs Hi).heap=Hi∧
   (∀b,b<Hi.length→nth .free r.heap b=nth .free Hi b)∧(∀b∈(valsOf r.val).flatMap refs,Hi.length≤b)∧Hi.all (cutB Hi.length)=true):
  Tab P (addC f spec C) mode K:=
 h.one (CSound.insertC h'.sound h.mixed hf hn hb mode live fuel K' (fun fu pin=>h'.go fu _ pin) hs) hkn
end Go.Abs

namespace Go.Abs
variable [Globs]
open Go.RowKit (Below)
section
variable {μ:Nat→Value} {w:World} {S M:Nat→Prop}
end
end Go.Abs
