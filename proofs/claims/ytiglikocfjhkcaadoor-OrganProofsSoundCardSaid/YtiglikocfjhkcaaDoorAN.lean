/- Maps: what operations do. -/
import Derived.Test.YtiglikocfjhkcaaDoorAM
import Derived.Test.YtiglikocfjhkcaaDoorA6
import Derived.Maps.RangeRun
set_option linter.all false
set_option linter.unusedVariables false
set_option linter.unusedSimpArgs false
namespace Go.Abs
variable [Globs]
open Go.RowKit (Below)
section
variable {H:List Blk} {μ:Nat→Value} {w:World} {S:Nat→Prop} {P:Program} {w0:World} {S0:Sc}
theorem makeMap_after {base:Nat} {t:TypeId} {ka va:Bool} {kk vk:CK} (hr:RepAt w0 S0 H μ S w) (hf:FreeAt H base 1) {f:Eff} (hval:f.val= .mp base) (hwr:f.wr=[(base, .map ka va kk vk [])]):
  ∃u w',(Instr.makeMap t none).run P w= .ok u w'∧After w0 S0 H μ S w f u w':=by
 obtain ⟨h0,hlt⟩:=hf.zero (by omega)
 have hh:HR (put H base (.map ka va kk vk [])) (setI μ base (.map (some w.heap.size))) (w.alloc (.map #[] 0)) S S0.own:=by
  refine hr.hr.setFree h0 hlt (Grow.alloc _ _) (fun B h=>by simp only[Owns,blkOf,Option.some.injEq] at h;omega) ?_
  refine ⟨w.heap.size,by simp[setI],hr.fresh _ hr.below.size,fun h=> ?_, #[],0,heap_alloc_new w _,⟨List.nodup_nil,fun e he=>by simp at he⟩,trivial⟩
  have:=hr.hr.stab _ h
  omega
 refine ⟨.map (some w.heap.size),w.alloc (.map #[] 0),rfl,setI μ base (.map (some w.heap.size)),S,?_,?_,fun _ h=>h,fun B h=>(Grow.alloc _ _).old B (hr.hr.stab B h),?_⟩
 ·rw[hwr]
  exact ⟨hh,(Grow.alloc _ _).below hr.below,hr.sub,hr.sup,hr.fresh,hr.pins.ext (Ext.setFree h0)⟩
 ·rw[hwr];exact Ext.setFree h0
 ·rw[hwr,hval]
  exact .mp _ _ (by rw[show sets H [(base,Blk.map ka va kk vk [])]=put H base _ from rfl,nth_put_eq hlt];rfl) (by simp[setI])
theorem one_cells {x:AV} {u:Value} (h:VR H μ w S x u) (hv:isV x=true) (ha:isAggV x=false):cellsA x=[x]:=by
 cases x<;>first|rfl|simp[isAggV] at ha
theorem asK_sound {t : TypeId} {x : AV} {u : Value} (h : VR H μ w S x u) (hk:asK P t x=true):VR H μ w S (packB (isAggT P t) (enc (kE P t) (dec (kE P t) (cellsA x)))) u:=by
 simp only[asK,Bool.and_eq_true,beq_iff_eq] at hk
 obtain ⟨h1,h2,h3,h4⟩:=hk
 cases ha:isAggV x with
 |true=>
  rw[←h2,ha]
  cases x<;>simp[isAggV] at ha
  rename_i cs
  obtain ⟨vs,rfl,hl,hc⟩:=vr_agg h
  refine .agg _ _ (by rw[enc_length',←h3];exact hl) fun i hi=> ?_
  rw[enc_length'] at hi
  exact decV_sound _ cs (fun i=>vs.getD i undef) h4 (fun j hj=>hc j (by rw[←h3] at hj;exact hj)) i hi
 |false=>
  rw[←h2,ha]
  rw[one_cells h h1 ha] at h3 h4⊢
  have hw:width (kE P t)=1:=h3.symm
  exact decV_sound _ [x] (fun _ => u) h4 (fun j hj => by obtain rfl:j=0:=by omega
                                                         exact h) 0 (by omega)
theorem asK_pv {t:TypeId} {x:AV} {u:Value} (h:PV w S x u) (hk:asK P t x=true):PV w S (packB (isAggT P t) (enc (kE P t) (dec (kE P t) (cellsA x)))) u:=by
 simp only[asK,Bool.and_eq_true,beq_iff_eq] at hk
 obtain ⟨h1,h2,h3,h4⟩:=hk
 cases ha:isAggV x with
 |true=>
  rw[←h2,ha]
  cases x<;>simp[isAggV] at ha
  rename_i cs
  cases h with
  |agg _ vs hl hc=>
  refine .agg _ _ (by rw[enc_length',←h3];exact hl) fun i hi=> ?_
  rw[enc_length'] at hi
  exact dec_sound _ cs (fun i=>vs.getD i undef) h4 (fun j hj=>hc j (by rw[←h3] at hj;exact hj)) i hi
 |false=>
  rw[←h2,ha]
  rw[one_cells (.pv h:VR [] (fun _=>undef) w S x u) h1 ha] at h3 h4⊢
  have hw:width (kE P t)=1:=h3.symm
  exact dec_sound _ [x] (fun _ => u) h4 (fun j hj => by obtain rfl:j=0:=by omega
                                                        exact h) 0 (by omega)
theorem encV_pv:∀(k:CK) (x:CT k),keyC k=true→∀i,i<width k→PV w S (nth .junk (enc k x) i) ((encV k x).getD i undef)
 | .bool,b,_,i,hi=>by
  obtain rfl:i=0:=by simp[width] at hi;exact hi
  exact .bool b
 | .int q,n,_,i,hi=>by
  obtain rfl:i=0:=by simp[width] at hi;exact hi
  exact .int q n
 | .str,s,_,i,hi=>by
  obtain rfl:i=0:=by simp[width] at hi;exact hi
  exact .str ⟨⟨s⟩⟩
 | .pair a b,x,hk,i,hi=>by
  simp only[keyC,Bool.and_eq_true] at hk
  simp only[width] at hi
  simp only[enc,encV,List.getD_eq_getElem?_getD]
  by_cases h1:i<width a
  ·rw[List.getElem?_append_left (by rw[encV_length];exact h1),←List.getD_eq_getElem?_getD,nth_appL _ _ _ _ (by rw[enc_length'];exact h1)]
   exact encV_pv a x.1 hk.1 i h1
  ·rw[List.getElem?_append_right (by rw[encV_length];omega),encV_length,←List.getD_eq_getElem?_getD]
   have e:=nth_appR AV.junk (enc a x.1) (enc b x.2) (i-width a)
   rw[enc_length',show width a+(i-width a)=i by omega] at e
   rw[e]
   exact encV_pv b x.2 hk.2 (i-width a) (by omega)
theorem keyV_pv {ka:Bool} {kk:CK} (hk:keyC kk=true) (hw:ka=true∨width kk=1) (x:CT kk):PV w S (packB ka (enc kk x)) (keyV ka kk x):=by
 cases ka with
 |true=>
  refine .agg _ _ (by simp[enc_length',encV_length]) fun i hi=> ?_
  rw[enc_length'] at hi
  simpa using encV_pv (w:=w) (S:=S) kk x hk i hi
 |false=>
  have hw1:width kk=1:=by simpa using hw
  exact encV_pv kk x hk 0 (by omega)
theorem EntR.keys {ka va:Bool} {kk vk:CK} (hk:keyC kk=true) (hw:ka=true∨width kk=1) {m:List (CT kk×CT vk)} {es:List MapEntry} (h:All2 (EntR w S ka va kk vk) m es):All2 (KeyR ka kk) m es:=
 h.imp fun p e h=>keyV_of (H:=[]) (μ:=fun _=>undef) hk hw (.pv h.1)
theorem mapT_spec {t:TypeId} {ke:TypeId×TypeId} (h:mapT P t=some ke):P.underlying t=some (.map ke.1 ke.2):=by
 unfold mapT at h
 cases hu:P.underlying t with
 |none=>simp[hu] at h
 |some d=>
  cases d<;>simp[hu] at h
  subst h
  rfl
theorem lookup_run {base:Nat→Prop} {t:TypeId} {x ix:AV} {v vi:Value} {ok:Bool} (hh:HR H μ w S base) (hx:VR H μ w S x v) (hi:VR H μ w S ix vi) (hc:(lookupE P t H x ix ok).chk=true):
  ∃u,(Instr.lookup t v vi ok).run P w= .ok u w∧VR H μ w S (lookupE P t H x ix ok).val u∧(lookupE P t H x ix ok).wr=[]:=by
 unfold lookupE at hc⊢
 cases ht:mapT P t with
 |none=>simp[ht,Eff.bad] at hc
 | some ke=>
  have hu:=mapT_spec ht
  simp only[ht] at hc⊢
  cases hd:mapV H x with
  |none=>simp[hd,Eff.bad] at hc
  |some d=>
  rw[hd] at hc
  simp only at hc⊢
  have hms:=mapV_sound hh hx hd
  obtain ⟨ka,va,kk,vk,m⟩:=d
  simp only[lookV,Bool.and_eq_true,decide_eq_true_eq,beq_iff_eq] at hc⊢
  simp only at hms
  obtain ⟨c1,c2,c3,c4,c5,c6,c7,c8⟩:=hc
  subst c2 c3 c4 c5
  have hL:=keyLaw_of c1
  have hki:vi=keyV (isAggT P ke.1) (kE P ke.1) (dec (kE P ke.1) (cellsA ix)):=keyV_of hL.kc hL.one (asK_sound hi c6)
  have fin:∀(a:Value) (g:Bool) (p:AV),VR H μ w S p a→VR H μ w S (bif ok then .tup [p, .bool g] else p) (if ok=true then .tuple #[a, .bool g] else a):=fun a g p hp=>by
   cases ok with
   |false=>exact hp
   |true=>
    refine .tup _ _ rfl fun i hi=> ?_
    match i with
    |0=>exact hp
    |1=>exact .pv (.bool g)
    |n+2=>exact absurd hi (by simp)
  obtain ⟨z,inf,hzi,hz,hzz,_⟩:=zeroA_run (P:=P) (H:=H) (μ:=μ) (w:=w) (S:=S) (t:=ke.2) (by
    simp only[asK,Bool.and_eq_true] at c8;exact c8.1)
  have hzv:VR H μ w S (zeroA P ke.2) z:=by
   simp only[zeroA,hzi,hzz,Option.bind_some]
   exact .pv (ofV_sound w S 4 z)
  rcases hms with ⟨rfl,hm0,_⟩|⟨B,rfl,es,clock,hg,_,hal⟩
  ·subst hm0
   subst hki
   refine ⟨(if ok=true then .tuple #[z, .bool false] else z),?_,?_,trivial⟩
   ·have h0:=hL.find (V:=CT (kE P ke.2)) w (dec (kE P ke.1) (cellsA ix)) [] [] trivial
    simp only[findP] at h0
    simp only[Instr.lookup,Sem.run_bind,run_underlying hu,Result.andThen_ok,Sem.run_pure,hL.check,h0,hz]
   ·exact fin z false _ (asK_sound hzv c8)
  have hkeys:All2 (KeyR (isAggT P ke.1) (kE P ke.1)) m es.toList:=EntR.keys hL.kc hL.one hal
  have hfind:=hL.find w (dec (kE P ke.1) (cellsA ix)) m es.toList hkeys
  subst hki
  rcases findP_spec (ka:=isAggT P ke.1) (dec (kE P ke.1) (cellsA ix)) m es.toList 0 hal.len with ⟨h1,h2,h3,_⟩|⟨j,p,e,h1,h2,h3,_,h5,h6,_⟩
  ·rw[h1] at hfind
   refine ⟨(if ok=true then .tuple #[z, .bool false] else z),?_,?_,trivial⟩
   rotate_left
   ·rw[h2,h3]
    exact fin z false _ (asK_sound hzv c8)
   ·simp only[Instr.lookup,Sem.run_bind,run_underlying hu,Result.andThen_ok,Sem.run_pure,MapKept.run_getObj_map hg,hL.check,hfind,hz]
  ·rw[h1] at hfind
   have hent:EntR w S (isAggT P ke.1) (isAggT P ke.2) (kE P ke.1) (kE P ke.2) p e:=by
    have:=hal.get (p) (e) j (by have:=(List.getElem?_eq_some_iff.1 h2).1;exact this)
    rw[nth_lt _ _ _ (List.getElem?_eq_some_iff.1 h2).1,nth_lt _ _ _ (List.getElem?_eq_some_iff.1 h3).1,(List.getElem?_eq_some_iff.1 h2).2,(List.getElem?_eq_some_iff.1 h3).2] at this
    exact this
   refine ⟨(if ok=true then .tuple #[e.val, .bool true] else e.val),?_,?_,trivial⟩
   rotate_left
   ·rw[h5,h6]
    exact fin e.val true _ (.pv hent.2)
   ·simp only[Instr.lookup,Sem.run_bind,run_underlying hu,Result.andThen_ok,Sem.run_pure,MapKept.run_getObj_map hg,hL.check,hfind]
theorem Ext.map {b:Nat} {ka va:Bool} {kk vk:CK} {m:List (CT kk×CT vk)} {x:Blk} (hb:nth .free H b= .map ka va kk vk m) (hx:isMapB x=true):Ext H μ (put H b x) (setI μ b (μ b)):=by
 intro i
 by_cases hi:i=b
 ·subst hi
  refine ⟨fun cs h=>(by rw[hb] at h;cases h),fun r h=>(by rw[hb] at h;simp[rdOf] at h),fun _=>⟨by rw[nth_put_eq (lt_of_live (by rw[hb];simp))];exact hx,by simp[setI]⟩,fun h=>(by rw[hb] at h;cases h),fun d h=>(by rw[hb] at h;cases h)⟩
 ·rw[nth_put_ne hi]
  exact ⟨fun cs h=>⟨cs,h,by simp[setI,hi]⟩,fun r h=>⟨r,h,rfl,Nat.le_refl _,fun _=>⟨rfl,by simp[setI,hi]⟩⟩,fun h=>⟨h,by simp[setI,hi]⟩,fun h=>⟨h,by simp[setI,hi]⟩,fun d h=>⟨d,h,Nat.le_refl _,Nat.le_refl _,fun p _=>by simp[setI,hi,SameP.refl]⟩⟩
theorem All2.set {α β:Type} {R:α→β→Prop} {a':α} {f:β→β}:∀ {as:List α} {bs:List β} (j:Nat) {a:α} {b:β},All2 R as bs→as[j]?=some a→bs[j]?=some b→R a' (f b)→All2 R (as.set j a') (bs.modify j f)
 |[],_,j,a,b,_,h,_,_=>by simp at h
 |_::_,[],_,_,_,h,_,_,_=>absurd h id
 |x::as,y::bs,0,a,b,h,h1,h2,hr=>by
  simp only[List.getElem?_cons_zero,Option.some.injEq] at h1 h2
  subst h1 h2
  exact ⟨hr,h.2⟩
 |x::as,y::bs,j+1,a,b,h,h1,h2,hr=>by
  simp only[List.getElem?_cons_succ] at h1 h2
  exact ⟨h.1,All2.set j h.2 h1 h2 hr⟩
theorem sameBits_1:∀(k:CK) (x:CT k) (n:Nat),keyC k=true→∀v∈encV k x,Instr.sameBits (n+1) v v=true
 | .bool,b,n,_,v,hv=>by simp[encV] at hv;subst hv;simp[Instr.sameBits];exact @beq_self_eq_true Bool _ _ b
 | .int q,b,n,_,v,hv=>by simp[encV] at hv;subst hv;simp[Instr.sameBits];exact @beq_self_eq_true Int _ _ b
 | .str,s,n,_,v,hv=>by
  simp[encV] at hv
  subst hv
  simp only[Instr.sameBits]
  exact (MapKept.bytes_beq _ _).2 rfl
 | .pair a b,x,n,hk,v,hv=>by
  simp only[keyC,Bool.and_eq_true] at hk
  simp only[encV,List.mem_append] at hv
  rcases hv with hv|hv
  ·exact sameBits_1 a x.1 n hk.1 v hv
  ·exact sameBits_1 b x.2 n hk.2 v hv
theorem zip_self {α:Type} (p:α→α→Bool):∀(l:List α),(∀x∈l,p x x=true)→((l.zip l).all fun (x,y)=>p x y)=true
 |[],_=>rfl
 |x::l,h=>by
  simp only[List.zip_cons_cons,List.all_cons,h x (by simp),Bool.true_and]
  exact zip_self p l fun y hy=>h y (List.mem_cons_of_mem _ hy)
theorem stays_run {ka:Bool} {kk:CK} (hk:keyC kk=true) (hw:ka=true∨width kk=1) (x:CT kk):(Instr.keyThatStays (keyV ka kk x) (keyV ka kk x)).run P w= .ok (keyV ka kk x) w:=by
 have h:Instr.sameBits 10000 (keyV ka kk x) (keyV ka kk x)=true:=by
  cases ka with
  |true=>
   simp only[keyV,cond_true,Instr.sameBits]
   simp only[beq_self_eq_true,Bool.true_and]
   exact zip_self (fun a b=>Instr.sameBits 9999 a b) _ fun v hv=>sameBits_1 kk x 9998 hk v (by simpa using hv)
  |false=>
   have hw1:width kk=1:=by simpa using hw
   refine sameBits_1 kk x 9999 hk _ ?_
   simp only[keyV,cond_false,List.getD_eq_getElem?_getD]
   rw[List.getElem?_eq_getElem (by rw[encV_length];omega)]
   exact List.getElem_mem _
 simp only[Instr.keyThatStays,h,if_true,Sem.run_pure]
theorem heap_set' {B:Nat} {o o':Obj} (h:w.heap[B]?=some o):(w.heap.setIfInBounds B o')[B]?=some o':=by
 have hlt:B<w.heap.size:=by
  rcases Nat.lt_or_ge B w.heap.size with h1|h1
  ·exact h1
  ·rw[Array.getElem?_eq_none h1] at h;cases h
 simp[Array.getElem?_setIfInBounds,hlt]
theorem heap_set_ne {B B':Nat} {o':Obj} (h:B'≠B):(w.heap.setIfInBounds B o')[B']?=w.heap[B']?:=by
 simp[Array.getElem?_setIfInBounds,Ne.symm h]
theorem bornsOk_push {es:Array MapEntry} {clock:Nat} {k v:Value} (h:bornsOk es clock):bornsOk (es.push {key:=k,val:=v,born:=clock}) (clock+1):=by
 obtain ⟨h1,h2⟩:=h
 refine ⟨?_,fun e he=> ?_⟩
 ·rw[Array.toList_push,List.map_append,List.nodup_append]
  refine ⟨h1,by simp,fun a ha b hb=> ?_⟩
  simp only[List.map_cons,List.map_nil,List.mem_singleton] at hb
  obtain ⟨e,he,rfl⟩:=List.mem_map.1 ha
  have:=h2 e he
  omega
 ·rw[Array.toList_push,List.mem_append,List.mem_singleton] at he
  rcases he with he|rfl
  ·have:=h2 e he;omega
  ·simp
theorem map_born_modify {f:MapEntry→MapEntry} (hf:∀e,(f e).born=e.born):∀(l:List MapEntry) (j:Nat),(l.modify j f).map (·.born)=l.map (·.born)
 |[],j=>by simp
 |e::l,0=>by simp[hf]
 |e::l,j+1=>by simp[map_born_modify hf l j]
theorem bornsOk_modify {es:Array MapEntry} {clock j:Nat} {f:MapEntry→MapEntry} (h:bornsOk es clock) (hf:∀e,(f e).born=e.born):bornsOk (es.modify j f) clock:=by
 obtain ⟨h1,h2⟩:=h
 have e:=map_born_modify hf es.toList j
 refine ⟨by rw[Array.toList_modify,e];exact h1,fun x hx=> ?_⟩
 rw[Array.toList_modify] at hx
 have:x.born∈es.toList.map (·.born):=e▸List.mem_map.2 ⟨x,hx,rfl⟩
 obtain ⟨y,hy,hyx⟩:=List.mem_map.1 this
 have:=h2 y hy
 omega
theorem update_after {t:TypeId} {x ix xv:AV} {v vi u:Value} (hr:RepAt w0 S0 H μ S w) (hx:VR H μ w S x v) (hi:VR H μ w S ix vi) (hv:VR H μ w S xv u) (hc:(updateE P t H x ix xv).chk=true) (r:Value):
  ∃w',(Instr.mapUpdate t v vi u).run P w= .ok () w'∧After w0 S0 H μ S w (updateE P t H x ix xv) r w':=by
 unfold updateE at hc⊢
 cases ht:mapT P t with
 |none=>simp[ht,Eff.bad] at hc
 | some ke=>
  have hu:=mapT_spec ht
  simp only[ht] at hc⊢
  cases x<;>simp only[Eff.bad] at hc⊢ <;>try (simp at hc;done)
  rename_i b
  cases hb:nth .free H b<;>simp only[hb] at hc⊢ <;>try (simp at hc;done)
  rename_i ka va kk vk m
  simp only[Bool.and_eq_true,decide_eq_true_eq,beq_iff_eq] at hc
  obtain ⟨c1,c2,c3,c4,c5,c6,c7,c8,c9⟩:=hc
  subst c2 c3 c4 c5
  have hL:=keyLaw_of c1
  obtain ⟨hf1,hf2⟩:=hr.hr.frozen (refs xv)
  have hnn:=frozenB_nth H (refs xv) H (fun _=> .inl rfl) rfl b
  rw[hb] at hnn
  have hn':nth .free (sets H (frozenB H (refs xv))) b= .map (isAggT P ke.1) (isAggT P ke.2) (kE P ke.1) (kE P ke.2) m:=by
   rw[hnn,show (refs xv).contains b=false by simpa using c9];rfl
  obtain ⟨B,hm,hbase,hnS,es,clock,hg,hbo,hal⟩:=hf1.mapB hn'
  have hvv:v= .map (some B):=by
   cases hx with
   |pv h=>cases h
   |mp _ B' hb' hm'=>rw[hm'] at hm;exact hm
  subst hvv
  have hki:vi=keyV (isAggT P ke.1) (kE P ke.1) (dec (kE P ke.1) (cellsA ix)):=keyV_of hL.kc hL.one (asK_sound hi c6)
  have hval:PV w (SF H μ S (refs xv)) (packB (isAggT P ke.2) (enc (kE P ke.2) (dec (kE P ke.2) (cellsA (view H xv))))) u:=asK_pv (view_sound hr.hr hv (by
   cases xv<;>first|rfl|(simp[view,view1,pureA,pure1] at c8;done)) (l:=refs xv) (fun _ h=>h)) c7
  have hkeys:All2 (KeyR (isAggT P ke.1) (kE P ke.1)) m es.toList:=EntR.keys hL.kc hL.one hal
  have hfind:=hL.find w (dec (kE P ke.1) (cellsA ix)) m es.toList hkeys
  have hmb:Owns (μ b) B:=by rw[hm];rfl
  have fin:∀(es':Array MapEntry) (clock':Nat) (m':List (CT (kE P ke.1)×CT (kE P ke.2))),All2 (EntR w (SF H μ S (refs xv)) (isAggT P ke.1) (isAggT P ke.2) (kE P ke.1) (kE P ke.2)) m' es'.toList→bornsOk es' clock'→
    After w0 S0 H μ S w {val:= .junk,chk:=true,wr:=frozenB H (refs xv)++[(b, .map (isAggT P ke.1) (isAggT P ke.2) (kE P ke.1) (kE P ke.2) m')]} r {w with heap:=w.heap.setIfInBounds B (.map es' clock')}:=by
   intro es' clock' m' hal' hbo'
   have hx':Ext (sets H (frozenB H (refs xv))) μ (put (sets H (frozenB H (refs xv))) b (.map (isAggT P ke.1) (isAggT P ke.2) (kE P ke.1) (kE P ke.2) m')) (setI μ b (μ b)):=Ext.map hn' rfl
   have hstay:∀B',SF H μ S (refs xv) B'→(w.heap.setIfInBounds B (.map es' clock'))[B']?=w.heap[B']?:=fun B' h=>heap_set_ne (fun e=>hnS (e▸h))
   refine ⟨setI μ b (μ b),SF H μ S (refs xv),?_,?_,fun B h=> .inl h,fun B' h=>hstay B' (.inl h), .junk _⟩
   ·simp only[sets_append]
    refine ⟨hf1.change (w':={w with heap:=w.heap.setIfInBounds B (.map es' clock')}) (by rw[hn'];trivial) hx' (by simp) (fun B' _ hne=>heap_set_ne (fun e=>hne (e▸hmb))) (fun B' h=>by rw[hm] at h;have h:some B=some B':=h;simp only[Option.some.injEq] at h;subst h;exact hnS) (fun B' h=> .inl h) ?_,
     hr.below.trans ⟨rfl,rfl,rfl,by simp,fun k _ hk=>heap_set_ne (fun e=>hk (e▸hbase))⟩,fun B h=> .inl (hr.sub B h),fun B h=>(hf2 B h).elim (hr.sup B) .inr,hr.fresh,hr.pins.ext ((Ext.frozen _).trans hx')⟩
    exact ⟨B,by simp[setI,hm],hbase,hnS,es',clock',heap_set' hg,hbo',hal'.imp fun _ _ h=>h.mono (fun _ h=>h) hstay⟩
   ·simp only[sets_append]
    exact (Ext.frozen _).trans hx'
  subst hki
  rcases findP_spec (ka:=isAggT P ke.1) (dec (kE P ke.1) (cellsA ix)) m es.toList 0 hal.len with ⟨h1,_,_,h4⟩|⟨j,p,e,h1,h2,h3,hq,_,_,h7⟩
  ·rw[h1] at hfind
   rw[h4]
   refine ⟨_,?_,fin (es.push {key:=keyV (isAggT P ke.1) (kE P ke.1) (dec (kE P ke.1) (cellsA ix)),val:=u,born:=clock}) (clock+1) _ ?_ ?_⟩
   ·simp only[Instr.mapUpdate,Sem.run_bind,run_underlying hu,Result.andThen_ok,MapKept.run_getObj_map hg,hL.check,hfind,MapKept.run_setObj_map _ hg]
   ·rw[Array.toList_push]
    exact hal.append ⟨⟨keyV_pv hL.kc hL.one _,hval⟩,trivial⟩
   ·exact bornsOk_push hbo
  ·rw[h1] at hfind
   rw[h7]
   have hkp:dec (kE P ke.1) (cellsA ix)=p.1:=(eqK_spec _ _ _ hL.kc).1 hq
   have hej:es[j]?=some e:=by simpa using h3
   have hek:e.key=keyV (isAggT P ke.1) (kE P ke.1) p.1:=by
    have:=hkeys.get p e j (List.getElem?_eq_some_iff.1 h2).1
    rw[nth_lt _ _ _ (List.getElem?_eq_some_iff.1 h2).1,nth_lt _ _ _ (List.getElem?_eq_some_iff.1 h3).1,(List.getElem?_eq_some_iff.1 h2).2,(List.getElem?_eq_some_iff.1 h3).2] at this
    exact this
   refine ⟨_,?_,fin (es.modify j fun e=>{e with key:=keyV (isAggT P ke.1) (kE P ke.1) p.1,val:=u}) clock _ ?_ ?_⟩
   ·rw[hkp] at hfind⊢
    simp only[Instr.mapUpdate,Sem.run_bind,run_underlying hu,Result.andThen_ok,MapKept.run_getObj_map hg,hL.check,hfind,Nat.zero_add,hej,Option.map_some,Option.getD_some,hek,stays_run hL.kc hL.one,MapKept.run_setObj_map _ hg]
   ·rw[Array.toList_modify]
    exact hal.set j h2 h3 ⟨keyV_pv hL.kc hL.one _,hval⟩
   ·exact bornsOk_modify hbo fun _=>rfl
theorem mapV_SF {base:Nat→Prop} (hh:HR H μ w S base) {x:AV} {v:Value} {d:MapD} (hv:VR H μ w S x v) (h:mapV H x=some d) (hne:(bif isMpB x then true else !d.m.isEmpty)=true):∃B,v= .map (some B)∧SF H μ S (refs x) B∧MapAt w S d.ka d.va d.kk d.vk d.m B:=by
 cases x<;>simp[mapV] at h
 ·rename_i b
  obtain ⟨B,h1,h2⟩:=hh.mapD h
  cases hv with
  |pv h=>cases h
  |mp _ B' hb hm=>
   have e:B'=B:=by rw[hm] at h1;simpa using h1
   subst e
   exact ⟨B',rfl,mapB_SF hh (by simp[refs,refs1]) hb (by rw[hm];rfl),h2⟩
 ·subst h
  cases hv with
  |pv h=>
   rcases pv_rmap h with ⟨_,h0⟩|⟨B,h1,h0,h2⟩
   ·subst h0;simp[isMpB] at hne
   ·exact ⟨B,h1, .inl h0,h2⟩
theorem range_after {base:Nat} {t:TypeId} {x:AV} {v:Value} (hr:RepAt w0 S0 H μ S w) (hf:FreeAt H base 1) (hx:VR H μ w S x v) (hc:(rangeE P t H base x).chk=true):
  ∃u w',(Instr.range t v).run P w= .ok u w'∧After w0 S0 H μ S w (rangeE P t H base x) u w':=by
 unfold rangeE at hc⊢
 cases ht:mapT P t with
 |none=>simp[ht,Eff.bad] at hc
 | some ke=>
  have hu:=mapT_spec ht
  simp only[ht] at hc⊢
  cases hd:mapV H x with
  |none=>simp[hd,Eff.bad] at hc
  |some d=>
  simp only
  obtain ⟨B,rfl,hSB,es,clock,hg,hbo,hal⟩:=mapV_SF hr.hr hx hd (by rw[hd] at hc;exact hc)
  obtain ⟨h0,hlt⟩:=hf.zero (by omega)
  obtain ⟨hf1,hf2⟩:=hr.hr.frozen (refs x)
  have hn0:nth .free (sets H (frozenB H (refs x))) base= .free:=by
   rw[frozenB_nth H (refs x) H (fun _=> .inl rfl) rfl base,h0];cases (refs x).contains base<;>rfl
  have hlt':base<(sets H (frozenB H (refs x))).length:=by rw[sets_length];exact hlt
  have hgr:=Grow.alloc w (.mapIter (some B) clock #[] clock)
  have hBlt:B<w.heap.size:=hf1.stab B hSB
  have hh:HR (put (sets H (frozenB H (refs x))) base (.iter d.ka d.va d.kk d.vk d.m [])) (setI μ base (.pointer (some ⟨w.heap.size,0,none⟩))) (w.alloc (.mapIter (some B) clock #[] clock)) (SF H μ S (refs x)) S0.own:=by
   refine hf1.setFree hn0 hlt' hgr (fun B h=>by simp only[Owns,blkOf,Option.some.injEq] at h;omega) ?_
   refine ⟨w.heap.size,by simp[setI],hr.fresh _ hr.below.size,fun h=> ?_,B,es,clock, #[],heap_alloc_new w _,hSB,by rw[hgr.old B hBlt];exact hg,hbo,?_, .inl rfl⟩
   ·have:=hf1.stab _ h;omega
   ·have e:(es.toList.filter fun e=> !(#[]:Array Nat).contains e.born)=es.toList:=by simp
    rw[e]
    exact hal.imp fun _ _ h=>h.mono (fun _ h=> .inl h) fun B h=>hgr.old B (hr.hr.stab B h)
  refine ⟨.pointer (some ⟨w.heap.size,0,none⟩),w.alloc (.mapIter (some B) clock #[] clock),?_,setI μ base (.pointer (some ⟨w.heap.size,0,none⟩)),SF H μ S (refs x),?_,?_,fun _ h=> .inl h,fun B h=>hgr.old B (hr.hr.stab B h),?_⟩
  ·simp only[Instr.range,Sem.run_bind,run_underlying hu,Result.andThen_ok,MapKept.run_getObj_map hg,Sem.run_pure]
   rfl
  ·simp only[sets_append]
   exact ⟨hh,hgr.below hr.below,fun B h=> .inl (hr.sub B h),fun B h=>(hf2 B h).elim (hr.sup B) .inr,hr.fresh,hr.pins.ext ((Ext.frozen _).trans (Ext.setFree hn0))⟩
  ·simp only[sets_append]
   exact (Ext.frozen _).trans (Ext.setFree hn0)
  ·simp only[sets_append]
   exact .it _ _ (by rw[show sets (sets H (frozenB H (refs x))) [(base,Blk.iter d.ka d.va d.kk d.vk d.m [])]=put (sets H (frozenB H (refs x))) base _ from rfl,nth_put_eq hlt'];rfl) (by simp[setI])
theorem HR.iterB' {base:Nat→Prop} {b:Nat} (h:HR H μ w S base) {ka va:Bool} {kk vk:CK} {rest cur:List (CT kk×CT vk)} (hb:nth .free H b= .iter ka va kk vk rest cur):∃I,μ b= .pointer (some ⟨I,0,none⟩)∧base I∧¬S I∧IterAt w S ka va kk vk rest cur I:=by
 have:=h.blk b
 rw[hb] at this
 exact this
theorem vr_it {b:Nat} {v:Value} (h:VR H μ w S (.it b) v):∃I,v= .pointer (some ⟨I,0,none⟩)∧μ b= .pointer (some ⟨I,0,none⟩):=by
 cases h with
 |pv h=>cases h
 |it _ I _ hm=>exact ⟨I,rfl,hm⟩
theorem entry_run {base:Nat→Prop} {x:AV} {v:Value} (hh:HR H μ w S base) (hx:VR H μ w S x v) (hc:(entryE H x).chk=true):
  ∃u,(Instr.entry v).run P w= .ok u w∧VR H μ w S (entryE H x).val u∧(entryE H x).wr=[]:=by
 unfold entryE at hc⊢
 cases x<;>simp only[Eff.bad] at hc⊢ <;>try (simp at hc;done)
 rename_i b
 cases hb:nth .free H b<;>simp only[hb] at hc⊢ <;>try (simp at hc;done)
 rename_i ka va kk vk rest cur
 cases cur with
 |nil=>simp at hc
 | cons p cur=>
  obtain ⟨I,rfl,hm⟩:=vr_it hx
  obtain ⟨I',q1,_,_,B,es,clock,seen,g1,g2,g3,g4,g5,g6⟩:=hh.iterB' hb
  have e:I'=I:=by rw[hm] at q1;simpa using q1.symm
  subst e
  rcases g6 with h|⟨p',e,h1,h2,h3,h4⟩
  ·cases h
  ·cases h1
   obtain ⟨s,rfl⟩:∃s:Array Nat,seen=s.push e.born:=Array.back?_eq_some_iff.1 h3
   refine ⟨_,run_entry_at w I' B clock s es clock e g1 g3 h2 g4.1,?_,rfl⟩
   refine .tup _ _ rfl fun i hi=> ?_
   match i with
   |0=>exact .pv h4.1
   |1=>exact .pv h4.2
   |n+2=>exact absurd hi (by simp)
theorem Ext.iter {b:Nat} {x:Blk} (hb:isIterB (nth .free H b)=true) (hx:isIterB x=true):Ext H μ (put H b x) (setI μ b (μ b)):=by
 intro i
 by_cases hi:i=b
 ·subst hi
  have hlt:i<H.length:=lt_of_live fun e=>by rw[e] at hb;cases hb
  refine ⟨fun cs h=>(by rw[h] at hb;cases hb),fun r h=> ?_,fun h=> ?_,fun _=>⟨by rw[nth_put_eq hlt];exact hx,by simp[setI]⟩,fun d h=> ?_⟩
  ·cases hn:nth .free H i<;>rw[hn] at hb h<;>simp[isIterB,rdOf] at hb h
  ·cases hn:nth .free H i<;>rw[hn] at hb h<;>simp[isIterB,isMapB,mapD] at hb h
  ·cases hn:nth .free H i<;>rw[hn] at hb h<;>simp[isIterB,tabD] at hb h
 ·rw[nth_put_ne hi]
  exact ⟨fun cs h=>⟨cs,h,by simp[setI,hi]⟩,fun r h=>⟨r,h,rfl,Nat.le_refl _,fun _=>⟨rfl,by simp[setI,hi]⟩⟩,fun h=>⟨h,by simp[setI,hi]⟩,fun h=>⟨h,by simp[setI,hi]⟩,fun d h=>⟨d,h,Nat.le_refl _,Nat.le_refl _,fun p _=>by simp[setI,hi,SameP.refl]⟩⟩
theorem All2.eraseIdx {α β:Type} {R:α→β→Prop}:∀ {as:List α} {bs:List β} (i:Nat),All2 R as bs→All2 R (as.eraseIdx i) (bs.eraseIdx i)
 |[],[],_,_=>trivial
 |[],_::_,_,h=>absurd h id
 |_::_,[],_,h=>absurd h id
 |_::_,_::_,0,h=>h.2
 |_::_,_::_,i+1,h=>⟨h.1,All2.eraseIdx i h.2⟩
theorem filter_erase:∀(L:List MapEntry) (i:Nat) (e:MapEntry),(L.map (·.born)).Nodup→L[i]?=some e→(L.filter fun x=> !(x.born==e.born))=L.eraseIdx i
 |[],_,_,_,h=>by simp at h
 |x::L,0,e,hn,h=>by
  simp only[List.getElem?_cons_zero,Option.some.injEq] at h
  subst h
  simp only[List.map_cons,List.nodup_cons] at hn
  simp only[List.filter_cons,beq_self_eq_true,Bool.not_true,Bool.false_eq_true,if_false,List.eraseIdx_zero,List.tail_cons]
  rw[List.filter_eq_self]
  intro y hy
  have:y.born≠x.born:=fun h=>hn.1 (h▸List.mem_map.2 ⟨y,hy,rfl⟩)
  simpa using this
 |x::L,i+1,e,hn,h=>by
  simp only[List.getElem?_cons_succ] at h
  simp only[List.map_cons,List.nodup_cons] at hn
  have hmem:e∈L:=List.mem_of_getElem? h
  have:x.born≠e.born:=fun h'=>hn.1 (h'▸List.mem_map.2 ⟨e,hmem,rfl⟩)
  have hb:(!(x.born==e.born))=true:=by simpa using this
  simp only[List.filter_cons,hb,if_true,List.eraseIdx_cons_succ]
  rw[filter_erase L i e hn.2 h]
theorem left_push {es:List MapEntry} {seen:Array Nat} {i:Nat} {e:MapEntry} (hn:(es.map (·.born)).Nodup) (h:(es.filter fun e=> !seen.contains e.born)[i]?=some e):(es.filter fun x=> !(seen.push e.born).contains x.born)=(es.filter fun e=> !seen.contains e.born).eraseIdx i:=by
 rw[←filter_erase _ i e ?_ h,List.filter_filter]
 ·congr 1
  funext x
  rw[Array.contains_push]
  cases seen.contains x.born<;>cases (x.born==e.born)<;>simp_all [Bool.beq_comm]
 ·exact hn.sublist (List.Sublist.map _ List.filter_sublist)
theorem next_split {b:Nat} {v:Value} {ka va:Bool} {kk vk:CK} {rest cur:List (CT kk×CT vk)} (cx:Cx) (ty:TypeId) (hr:RepAt w0 S0 H μ S w) (hx:VR H μ w S (.it b) v) (hb:nth .free H b= .iter ka va kk vk rest cur):
  (rest=[]∧∀μ S,RepAt w0 S0 H μ S w→∃u w',(Instr.next v false ty).run P w= .ok u w'∧After w0 S0 H μ S w (nextE {cx with way:=1} H (.it b) false) u w')∨
  ∃i,i<rest.length∧∀μ S,RepAt w0 S0 H μ S w→VR H μ w S (.it b) v→∃u w',(Instr.next v false ty).run P w= .ok u w'∧After w0 S0 H μ S w (nextE {cx with way:=2,pick:=i} H (.it b) false) u w':=by
 obtain ⟨I,rfl,hm⟩:=vr_it hx
 obtain ⟨I',q1,_,_,B,es,clock,seen,g1,_,g3,g4,g5,_⟩:=hr.hr.iterB' hb
 have e:I'=I:=by rw[hm] at q1;simpa using q1.symm
 subst e
 have hleft:(leftOf es seen).toList=es.toList.filter fun e=> !seen.contains e.born:=by simp[leftOf]
 rcases run_next_at (P:=P) w ty I' B clock clock seen es clock g1 g3 g4.2 (Nat.le_refl _) with ⟨h0,hrun⟩|⟨e,he,w1,hw1,hrun⟩
 ·have hre:rest=[]:=List.eq_nil_of_length_eq_zero (by rw[g5.len,←hleft];simpa using h0)
  subst hre
  refine .inl ⟨rfl,fun μ S hr=>⟨_,_,hrun,?_⟩⟩
  simp only[nextE,hb]
  exact After.quiet hr rfl (.tup _ _ rfl fun i hi=>by
   match i with
   |0=>exact .pv (.bool false)
   |n+1=>exact absurd hi (by simp))
 ·rw [hleft] at he
  obtain ⟨i,hi,hie⟩:=List.getElem_of_mem he
  have hie':(es.toList.filter fun e=> !seen.contains e.born)[i]?=some e:=by rw[List.getElem?_eq_getElem hi,hie]
  have hil:i<rest.length:=by rw[g5.len];exact hi
  refine .inr ⟨i,hil,fun μ S hr hx=>⟨_,_,hrun,?_⟩⟩
  clear hm q1 g5
  obtain ⟨I2,e2,hm⟩:=vr_it hx
  have e2:I'=I2:=by simpa using e2
  subst e2
  obtain ⟨I3,q1,hown,hnS,B2,es2,clock2,seen2,g1',g2,g3',_,g5,g6⟩:=hr.hr.iterB' hb
  have e3:I3=I':=by rw[hm] at q1;simpa using q1.symm
  subst e3
  rw[g1] at g1'
  cases g1'
  rw[g3] at g3'
  cases g3'
  have hent:EntR w S ka va kk vk (nth (dflt kk,dflt vk) rest i) e:=by
   have:=g5.get (dflt kk,dflt vk) e i hil
   rw[nth_lt e _ _ hi,hie] at this
   exact this
  have hh1:w1.heap=w.heap∧w1.os=w.os∧w1.tape=w.tape∧w1.output=w.output:=by rcases hw1 with rfl|rfl<;>exact ⟨rfl,rfl,rfl,rfl⟩
  have hIlt:I3<w.heap.size:=(Array.getElem?_eq_some_iff.1 g1).1
  have hne:∀q,q≠I3→(Go.ChangeMaps.setBlock w1 I3 (.mapIter (some B) clock (seen.push e.born) clock)).heap[q]?=w.heap[q]?:=fun q hq=>by
   simp only[Go.ChangeMaps.setBlock,hh1.1]
   exact heap_set_ne hq
  have hBI:B≠I3:=fun e=>hnS (e▸g2)
  have hstay:∀B',S B'→(Go.ChangeMaps.setBlock w1 I3 (.mapIter (some B) clock (seen.push e.born) clock)).heap[B']?=w.heap[B']?:=fun B' h=>hne B' fun e=>hnS (e▸h)
  simp only[nextE,hb]
  have hx':Ext H μ (put H b (.iter ka va kk vk (rest.eraseIdx i) [nth (dflt kk,dflt vk) rest i])) (setI μ b (μ b)):=Ext.iter (by rw[hb];rfl) rfl
  have hmb:Owns (μ b) I3:=by rw[hm];rfl
  have hh:=hr.hr.change (w':=Go.ChangeMaps.setBlock w1 I3 (.mapIter (some B) clock (seen.push e.born) clock)) (v:=μ b) (by rw[hb];trivial) hx' (by simp[Go.ChangeMaps.setBlock,hh1.1]) (fun q _ hq=>hne q fun e=>hq (e▸hmb)) (fun q h=>by rw[hm] at h;have h:some I3=some q:=h;simp only[Option.some.injEq] at h;subst h;exact hnS) (fun q h=> .inl h)
   (x:= .iter ka va kk vk (rest.eraseIdx i) [nth (dflt kk,dflt vk) rest i]) (by
    refine ⟨I3,by simp[setI,hm],hown,hnS,B,es,clock,seen.push e.born,?_,g2,by rw[hne B hBI];exact g3,g4,?_, .inr ⟨_,e,rfl,?_,by simp,hent.mono (fun _ h=>h) hstay⟩⟩
    ·simp only[Go.ChangeMaps.setBlock,hh1.1]
     exact heap_set' g1
    ·rw[left_push g4.1 hie']
     exact (g5.eraseIdx i).imp fun _ _ h=>h.mono (fun _ h=>h) hstay
    ·exact (List.mem_filter.1 he).1)
  refine ⟨setI μ b (μ b),S,⟨hh,hr.below.trans ⟨hh1.2.1,hh1.2.2.1,hh1.2.2.2,by simp[Go.ChangeMaps.setBlock,hh1.1],fun k _ hk=>hne k fun e=>hk (e▸hown)⟩,hr.sub,hr.sup,hr.fresh,hr.pins.ext hx'⟩,hx',fun _ h=>h,hstay,?_⟩
  refine .tup _ _ rfl fun j hj=> ?_
  match j with
  |0=>exact .pv (.bool true)
  |1=>exact .pv (hent.1.mono (fun _ h=>h) hstay)
  |2=>exact .pv (hent.2.mono (fun _ h=>h) hstay)
  |n+3=>exact absurd hj (by simp)
end
end Go.Abs
