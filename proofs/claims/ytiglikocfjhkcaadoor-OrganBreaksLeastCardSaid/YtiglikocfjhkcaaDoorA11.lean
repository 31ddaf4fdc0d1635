/- One step of a region; what a step depends on. -/
import Derived.Test.YtiglikocfjhkcaaDoorA10
import Derived.Orders
set_option linter.all false
set_option linter.unusedVariables false
set_option linter.unusedSimpArgs false
namespace Go.Abs
variable [Globs]
open Go.RowKit (Below)
section
variable {H:List Blk} {μ:Nat→Value} {w:World} {S:Nat→Prop} {w0:World} {S0:Sc} {cx:Cx}
def stepChk (cx:Cx) (ops:List Oper) (base:Nat) (o:Oper) (T:List AV) (H:List Blk):Bool:=
 match guardB ops T o.guard with
 |none=>false
 |some g=>imp g (opG T o&&(opE cx ops T H base o).chk)
def stepVal (cx:Cx) (ops:List Oper) (base:Nat) (o:Oper) (T:List AV) (H:List Blk):AV:=
 valG o.guard ((guardB ops T o.guard).getD true) (opE cx ops T H base o).val
theorem opE_true {ops:List Oper} {T:List AV} {base:Nat} {o:Oper} (h:guardB ops T o.guard=some true):opE cx ops T H base o=opE0 cx T H base o:=by simp only[opE,h];rfl
theorem opE_false {ops:List Oper} {T:List AV} {base:Nat} {o:Oper} (h:guardB ops T o.guard=some false):opE cx ops T H base o={val:= .junk,chk:=true}:=by simp only[opE,h];rfl
theorem stepOp_ok {ops:List Oper} {base:Nat} {o:Oper} {st:St}:(stepOp cx ops base o st).ok=(stepChk cx ops base o st.T st.H&&st.ok):=by
 unfold stepOp stepChk
 cases guardB ops st.T o.guard with
 |none=>simp
 |some g=>simp only;rw[Bool.and_comm]
theorem stepOp_TH {ops:List Oper} {base:Nat} {o:Oper} {st:St} (h:stepChk cx ops base o st.T st.H=true):
  (stepOp cx ops base o st).T=putD st.T o.dst (stepVal cx ops base o st.T st.H)∧(stepOp cx ops base o st).H=sets st.H (opE cx ops st.T st.H base o).wr:=by
 unfold stepOp stepVal
 unfold stepChk at h
 cases hg:guardB ops st.T o.guard with
 |none=>simp[hg] at h
 |some g=>exact ⟨rfl,rfl⟩
def RepTH (w0:World) (S0:Sc) (T:List AV) (H:List Blk) (a:Act) (w:World):Prop:=
 ∃μ S,RepAt w0 S0 H μ S w∧(∀B,S0.rd B→w.heap[B]?=w0.heap[B]?)∧a.defers=[]∧TR H μ w S T a.tmps
theorem TR.put {T:List AV} {a:Act} {v:AV} {u:Value} {H':List Blk} {μ':Nat→Value} {w':World} {S':Nat→Prop} (hT:TR H μ w S T a.tmps) (hx:Ext H μ H' μ') (hS:∀B,S B→S' B) (hw:∀B,S B→w'.heap[B]?=w.heap[B]?) (d:Option Tmp) (hv:VR H' μ' w' S' v u):
  TR H' μ' w' S' (putD T d v) (a.put d u).tmps:=by
 cases d with
 |none=>exact ⟨hT.1,fun i hi=>(hT.2 i hi).mono hx hS hw⟩
 | some d=>
  refine ⟨by simp[putD,Act.put,put_length,hT.1],fun i hi=> ?_⟩
  simp only[putD,put_length] at hi
  simp only[putD,Act.put,nth_put]
  by_cases hd:d=i
  ·subst hd
   rw[if_pos ⟨rfl,hi⟩]
   have hlt:d<a.tmps.size:=by rw[←hT.1];exact hi
   simpa [Array.getD_eq_getD_getElem?,hlt] using hv
  ·rw[if_neg (fun h=>hd h.1)]
   have:=(hT.2 i hi).mono hx hS hw
   simpa [Array.getD_eq_getD_getElem?,Array.getElem?_setIfInBounds,hd] using this
theorem nth_some_toList {ops:Array Oper} {j:Nat}:nth none (ops.toList.map some) j=ops[j]?:=by
 rw[nth_get?,List.getElem?_map]
 cases h:ops[j]?<;>simp[h]
theorem step_sim {ops:Array Oper} {i:Nat} {o:Oper} {base:Nat} {T:List AV} {a:Act} (ho:ops[i]?=some o) (hC:CSound cx.P cx.C) (hr:RepAt w0 S0 H μ S w) (hst:∀B,S0.rd B→w.heap[B]?=w0.heap[B]?) (ha:a.defers=[]) (hT:TR H μ w S T a.tmps) (hf:FreeAt H base (slots o)) (hc:stepChk cx ops.toList base o T H=true)
  (hnx:∀x s,o.op= .next x s→∃u w',(Instr.next (a.eval x) s o.type).run cx.P w= .ok u w'∧After w0 S0 H μ S w (nextE cx H (unw (ev T x)) s) u w')
  {K:Act→World→Prop} {Q:Exit→Act→World→Prop} (hK:∀a' w',RepTH w0 S0 (putD T o.dst (stepVal cx ops.toList base o T H)) (sets H (opE cx ops.toList T H base o).wr) a' w'→K a' w'):wpOp cx.P ops Q i K a w:=by
 unfold wpOp
 rw[ho]
 have hput:∀v d,(a.put d v).defers=[]:=fun v d=>by cases d<;>exact ha
 unfold stepChk at hc
 cases hgd:o.guard with
 |none=>
  have hw:Region.wanted o (yielded ops a.tmps)=true:=by simp[Region.wanted,hgd]
  simp only[hw,if_true]
  have hoe:opE cx ops.toList T H base o=opE0 cx T H base o:=opE_true (by rw[hgd];rfl)
  rw[hoe] at hc hK
  simp only[hgd,guardB,imp,cond_true,Bool.and_eq_true] at hc
  refine .inl (op_sim hC hr hT hf hc.1 hc.2 hnx fun u w' h=> ?_)
  obtain ⟨μ',S',h1,h2,h3,h4,h5⟩:=h
  refine hK _ _ ⟨μ',S',h1,fun B h=>(h4 B (hr.sub B h)).trans (hst B h),hput _ _,hT.put h2 h3 h4 _ ?_⟩
  simp only[stepVal,hgd,valG,hoe]
  exact h5
 | some p=>
  obtain ⟨j,want⟩:=p
  have hc0:=hc
  simp only[hgd,guardB,nth_some_toList] at hc
  cases hd:(ops[j]?).bind (·.dst) with
  |none=>simp[hd] at hc
  | some d=>
   by_cases hsk:grd (nth .junk T d)=false
   ·have hg:guardB ops.toList T o.guard=some false:=by
     simp only[hgd,guardB,nth_some_toList,hd]
     cases hv:unw (nth .junk T d)<;>simp[hsk]
    have hlt:d<T.length:=Nat.lt_of_not_le fun h=>by rw[nth_ge _ _ _ h] at hsk;simp[grd] at hsk
    have hlt':d<a.tmps.size:=by rw[←hT.1];exact hlt
    have hvr:=hT.2 d hlt
    have hu:a.tmps.getD d undef=undef:=by
     generalize a.tmps.getD d undef=u at hvr
     cases hx:nth .junk T d<;>rw[hx] at hsk hvr<;>simp[grd] at hsk
     subst hsk
     cases hvr with
     |pv h=>cases h
     |when _ _ _ _ h=>exact h rfl
    have hy:yielded ops a.tmps j=none:=by
     rw[Array.getD_eq_getD_getElem?,Array.getElem?_eq_getElem hlt'] at hu
     simp only[Option.getD_some] at hu
     simp[yielded,hd,Array.getElem?_eq_getElem hlt',hu,undef]
    have hw:Region.wanted o (yielded ops a.tmps)=false:=by simp only[Region.wanted,hgd,hy];rfl
    have hsv:stepVal cx ops.toList base o T H= .when false (opE cx ops.toList T H base o).val:=by unfold stepVal;rw[hg,hgd];rfl
    rw[hsv,opE_false hg] at hK
    simp only[hw,Bool.false_eq_true,if_false]
    exact hK _ _ ⟨μ,S,hr,hst,hput _ _,hT.put (Ext.refl _ _) (fun _ h=>h) (fun _ _=>rfl) _ (.when _ _ _ (fun h=>by cases h) (fun _=>rfl))⟩
   have hskt:grd (nth .junk T d)=true:=by simpa using hsk
   simp only[hd] at hc
   cases hv:unw (nth .junk T d)<;>simp only[hv] at hc<;>try (simp[hskt] at hc;done)
   rename_i b
   have h1:=hc
   have hlt:d<T.length:=Nat.lt_of_not_le fun h=>by rw[nth_ge _ _ _ h] at hv;simp[unw] at hv
   have hlt':d<a.tmps.size:=by rw[←hT.1];exact hlt
   have hw:Region.wanted o (yielded ops a.tmps)=(grd (nth .junk T d)&&(bif want then b else !b)):=by
    have hvr:=hT.2 d hlt
    cases hgr:grd (nth .junk T d) with
    | true=>
     have hb:=vr_bool (hv▸vr_unw hvr hgr)
     have hy:yielded ops a.tmps j=some b:=by
      rw[Array.getD_eq_getD_getElem?,Array.getElem?_eq_getElem hlt'] at hb
      simp only[Option.getD_some] at hb
      simp[yielded,hd,Array.getElem?_eq_getElem hlt',hb]
     simp only[Region.wanted,hgd,hy];cases b<;>cases want<;>rfl
    | false=>
     have hu:a.tmps.getD d undef=undef:=by
      generalize a.tmps.getD d undef=u at hvr
      cases hx:nth .junk T d<;>rw[hx] at hgr hvr<;>simp[grd] at hgr
      subst hgr
      cases hvr with
      |pv h=>cases h
      |when _ _ _ _ h=>exact h rfl
     have hy:yielded ops a.tmps j=none:=by
      rw[Array.getD_eq_getD_getElem?,Array.getElem?_eq_getElem hlt'] at hu
      simp only[Option.getD_some] at hu
      simp[yielded,hd,Array.getElem?_eq_getElem hlt',hu,undef]
     simp only[Region.wanted,hgd,hy];rfl
   simp only[hw]
   have hg:guardB ops.toList T o.guard=some (grd (nth .junk T d)&&(bif want then b else !b)):=by simp only[hgd,guardB,nth_some_toList,hd,hv]
   have hsv:stepVal cx ops.toList base o T H= .when (grd (nth .junk T d)&&(bif want then b else !b)) (opE cx ops.toList T H base o).val:=by unfold stepVal;rw[hg,hgd];rfl
   rw[hsv] at hK
   cases hbw:(grd (nth .junk T d)&&(bif want then b else !b)) with
   |true=>
    simp only[if_true]
    rw[hbw] at h1 hK hg
    rw[opE_true hg] at h1 hK
    simp only[imp,cond_true,Bool.and_eq_true] at h1
    refine .inl (op_sim hC hr hT hf h1.1 h1.2 hnx fun u w' h=> ?_)
    obtain ⟨μ',S',q1,q2,q3,q4,q5⟩:=h
    exact hK _ _ ⟨μ',S',q1,fun B h=>(q4 B (hr.sub B h)).trans (hst B h),hput _ _,hT.put q2 q3 q4 _ (.when _ _ _ (fun _=>q5) (fun h=>by cases h))⟩
   |false=>
    simp only[Bool.false_eq_true,if_false]
    rw[hbw] at hK hg
    rw[opE_false hg] at hK
    exact hK _ _ ⟨μ,S,hr,hst,hput _ _,hT.put (Ext.refl _ _) (fun _ h=>h) (fun _ _=>rfl) _ (.when _ _ _ (fun h=>by cases h) (fun _=>rfl))⟩
theorem ev_congr {T T':List AV} {x:Operand} (h:∀t,x= .tmp t→nth .junk T t=nth .junk T' t):ev T x=ev T' x:=by
 cases x with
 |tmp t=>exact h t rfl
 |_=>rfl
theorem mem_tmps {l:List Operand} {t:Tmp} (h:Operand.tmp t∈l):t∈tmpsOf l:=by
 induction l with
 |nil=>cases h
 |cons x l ih=>
  rcases List.mem_cons.1 h with rfl|h'
  ·simp[tmpsOf]
  ·cases x<;>simp[tmpsOf,ih h']
theorem evs_congr {T T':List AV} {l:List Operand} (h:∀x∈l,ev T x=ev T' x):evs T l=evs T' l∧grds T l=grds T' l:=by
 induction l with
 |nil=>exact ⟨rfl,rfl⟩
 |cons x l ih=>
  have:=ih fun x hx=>h x (List.mem_cons_of_mem _ hx)
  simp only[evs,grds,h x (by simp),this.1,this.2,and_self]
theorem view1_congr {H H':List Blk} {v:AV} (h:∀b∈refs1 v,nth .free H b=nth .free H' b):view1 H v=view1 H' v:=by
 cases v with
 |mp b=>simp only[view1,h b (by simp[refs1])]
 |sl b ver off len=>simp only[view1,h b (by simp[refs1])]
 |tsl b ver p=>simp only[view1,h b (by simp[refs1])]
 |_=>rfl
theorem view_congr {H H':List Blk} {v:AV} (h:∀b∈refs v,nth .free H b=nth .free H' b):view H v=view H' v:=by
 cases v with
 |agg cs=>
  simp only[view]
  congr 1
  refine List.map_congr_left fun c hc=>view1_congr fun b hb=>h b ?_
  show b∈cs.flatMap refs1
  exact List.mem_flatMap.2 ⟨c,hc,hb⟩
 |sl b ver off len=>exact view1_congr (v:= .sl b ver off len) h
 |tsl b ver p=>exact view1_congr (v:= .tsl b ver p) h
 |mp b=>exact view1_congr (v:= .mp b) h
 |_=>rfl
theorem frozenB_congr {H H':List Blk} {l:List Nat} (h:∀b∈l,nth .free H b=nth .free H' b):frozenB H l=frozenB H' l:=by
 induction l with
 |nil=>rfl
 |cons b l ih=>
  have:=ih fun b hb=>h b (List.mem_cons_of_mem _ hb)
  simp only[frozenB,h b (by simp),this]
theorem deepC1_congr {H H':List Blk} {v:AV} (h:∀b∈deepC1 H v,nth .free H b=nth .free H' b):viewC H v=viewC H' v:=by
 cases v with
 | ptr b off=>
  have hb:=h b (by simp[deepC1])
  simp only[viewC,←hb]
  cases hx:nth .free H b with
  |cells cs=>
   simp only
   congr 1
   refine List.map_congr_left fun c hc=>view1_congr fun b' hb'=>h b' ?_
   simp only[deepC1,hx,blkRefs]
   refine List.mem_cons_of_mem _ (List.mem_flatMap.2 ⟨c,hc,?_⟩)
   cases c<;>first|exact hb'|simp[refs1] at hb'
  |_=>rfl
 |sl b ver off len=>exact view1_congr (v:= .sl b ver off len) h
 |tsl b ver p=>exact view1_congr (v:= .tsl b ver p) h
 |mp b=>exact view1_congr (v:= .mp b) h
 |_=>rfl
theorem viewA_congr {H H':List Blk} {v:AV} (h:∀b∈refs v++deepC H v,nth .free H b=nth .free H' b):viewA H v=viewA H' v:=by
 cases v with
 |clo f caps=>
  simp only[viewA]
  congr 1
  exact List.map_congr_left fun c hc=>deepC1_congr fun b hb=>h b (List.mem_append_right _ (List.mem_flatMap.2 ⟨c,hc,hb⟩))
 |ptr b off=>exact deepC1_congr (v:= .ptr b off) fun b' hb=>h b' (List.mem_append_right _ hb)
 |rptr cs j=>rfl
 |agg cs=>exact view_congr (v:= .agg cs) fun b hb=>h b (List.mem_append_left _ hb)
 |sl b ver off len=>exact view_congr (v:= .sl b ver off len) fun b' hb=>h b' (List.mem_append_left _ hb)
 |tsl b ver p=>exact view_congr (v:= .tsl b ver p) fun b' hb=>h b' (List.mem_append_left _ hb)
 |mp b=>exact view_congr (v:= .mp b) fun b' hb=>h b' (List.mem_append_left _ hb)
 |_=>rfl
theorem loadE_congr {P:Program} {t:TypeId} {H H':List Blk} {x:AV} (h:∀b∈refs x,nth .free H b=nth .free H' b):loadE P t H x=loadE P t H' x:=by
 cases x with
 |ptr b off=>simp only[loadE,h b (by simp[refs,refs1])]
 |eptr b ver i j=>simp only[loadE,h b (by simp[refs,refs1])]
 |tptr b ver p i j=>simp only[loadE,h b (by simp[refs,refs1])]
 |_=>rfl
theorem refs1_sub {x:AV}:∀b∈refs1 x,b∈refs x:=fun b hb=>by cases x<;>first|exact hb|simp[refs1] at hb
theorem rowV_congr {H H':List Blk} {os:List TypeId} {ek:TypeId×CK} {x:AV} (h:∀b∈refs1 x,nth .free H b=nth .free H' b):rowV H os ek x=rowV H' os ek x:=by
 cases x with
 |sl b ver off len=>simp only[rowV,h b (by simp[refs1])]
 |tsl b ver p=>simp only[rowV,h b (by simp[refs1])]
 |_=>rfl
theorem deadB_congr {H H':List Blk} {l:List Nat} (h:∀b∈l,nth .free H b=nth .free H' b):l.map (deadB H)=l.map (deadB H'):=List.map_congr_left fun c hc=>by simp only[deadB,h c hc]
theorem storeT_congr {P:Program} {t:TypeId} {H H':List Blk} {b ver:Nat} {p:Pth} {i j:Nat} {d:TD} {y:AV} (hy:∀b∈refs y,nth .free H b=nth .free H' b):storeT P t H b ver p i j d y=storeT P t H' b ver p i j d y:=by
 have h1:∀b∈refs1 y,nth .free H b=nth .free H' b:=fun b hb=>hy b (refs1_sub b hb)
 unfold storeT
 simp only[view_congr hy,frozenB_congr hy,deadB_congr h1]
 cases ownRange d.os (d.nd p).k j (P.cellsOf t) with
 |false=>rfl
 |true=>
  simp only[cond_true]
  cases ownC d.os (d.nd p).k j with
  |none=>rfl
  |some ek=>simp only[rowV_congr h1]
theorem storeE_congr {P:Program} {os:List TypeId} {t:TypeId} {H H':List Blk} {base:Nat} {x y:AV} (h:∀b∈refs x,nth .free H b=nth .free H' b) (hy:∀b∈refs y,nth .free H b=nth .free H' b):storeE P os t H base x y=storeE P os t H' base x y:=by
 cases x with
 |ptr b off=>simp only[storeE,h b (by simp[refs,refs1])]
 |eptr b ver i j=>simp only[storeE,h b (by simp[refs,refs1]),view_congr hy,frozenB_congr hy]
 |tptr b ver p i j=>simp only[storeE,h b (by simp[refs,refs1]),storeT_congr hy]
 |_=>rfl
theorem asClo_deep {H:List Blk} {x:AV}:deepC H (asClo x)=deepC H x:=by
 cases x with
 |fn f=>cases f<;>rfl
 |_=>rfl
theorem sliceE_congr {P:Program} {t:TypeId} {H H':List Blk} {x:AV} {lo hi mx:Option AV} (h:∀b∈refs x,nth .free H b=nth .free H' b):sliceE P t H x lo hi mx=sliceE P t H' x lo hi mx:=by
 unfold sliceE
 cases x with
 | sl b ver off len=>
  have e2:szOf H b=szOf H' b:=by simp only[szOf,h b (by simp[refs,refs1])]
  have e3:verOf H b=verOf H' b:=by simp only[verOf,h b (by simp[refs,refs1])]
  have e4:nOf H b=nOf H' b:=by simp only[nOf,h b (by simp[refs,refs1])]
  cases mx with
  |some m=>cases P.underlying t with
   |none=>rfl
   |some d=>cases d<;>rfl
  |none=>
   cases P.underlying t with
   |none=>rfl
   |some d=>cases d<;>first|rfl|simp only[e2,e3,e4]
 |_=>
  cases mx<;>cases P.underlying t<;>first|rfl|(rename_i d;cases d<;>rfl)
theorem indexAddrE_congr {P:Program} {t:TypeId} {H H':List Blk} {x ix:AV} (h:∀b∈refs x,nth .free H b=nth .free H' b):indexAddrE P t H x ix=indexAddrE P t H' x ix:=by
 unfold indexAddrE
 cases x with
 |sl b ver off len=>
  have e2:szOf H b=szOf H' b:=by simp only[szOf,h b (by simp[refs,refs1])]
  have e3:verOf H b=verOf H' b:=by simp only[verOf,h b (by simp[refs,refs1])]
  have e4:nOf H b=nOf H' b:=by simp only[nOf,h b (by simp[refs,refs1])]
  cases P.underlying t with
  |none=>rfl
  |some d=>cases d<;>first|rfl|(cases ix<;>first|rfl|simp only[e2,e3,e4])
 |tsl b ver p=>
  have e2:tabSz H b p=tabSz H' b p:=by simp only[tabSz,h b (by simp[refs,refs1])]
  have e3:tabVer H b ver p=tabVer H' b ver p:=by simp only[tabVer,h b (by simp[refs,refs1])]
  have e4:tabN H b p=tabN H' b p:=by simp only[tabN,h b (by simp[refs,refs1])]
  cases P.underlying t with
  |none=>rfl
  |some d=>cases d<;>first|rfl|(cases ix<;>first|rfl|simp only[e2,e3,e4])
 |_=>
  cases P.underlying t with
  |none=>rfl
  |some d=>cases d<;>first|rfl|(cases ix<;>rfl)
theorem appendE0_congr {P:Program} {t:TypeId} {H H':List Blk} {base:Nat} {s x:AV} (hs:∀b∈refs s,nth .free H b=nth .free H' b) (hx:∀b∈refs x,nth .free H b=nth .free H' b):appendE0 P t H base s x=appendE0 P t H' base s x:=by
 have h1:view1 H x=view1 H' x:=view1_congr fun b hb=>hx b (refs1_sub b hb)
 cases s with
 |sl b ver off len=>simp only[appendE0,h1,hs b (by simp[refs,refs1])]
 |_=>simp only[appendE0,h1]
theorem copyE_congr {P:Program} {t t':TypeId} {H H':List Blk} {s x:AV} (hs:∀b∈refs s,nth .free H b=nth .free H' b):copyE P t t' H s x=copyE P t t' H' s x:=by
 cases s with
 |sl b ver off len=>simp only[copyE,hs b (by simp[refs,refs1])]
 |_=>rfl
theorem appendE_congr {P:Program} {t:TypeId} {H H':List Blk} {base:Nat} {s x:AV} (hs:∀b∈refs s,nth .free H b=nth .free H' b) (hx:∀b∈refs x,nth .free H b=nth .free H' b):appendE P t H base s x=appendE P t H' base s x:=by
 have hx1:∀b∈refs1 x,nth .free H b=nth .free H' b:=fun b hb=>hx b (refs1_sub b hb)
 have h1:view1 H x=view1 H' x:=view1_congr hx1
 have h2:srcOk H x=srcOk H' x:=by
  cases x with
  |tsl b ver p=>simp only[srcOk,hx1 b (by simp[refs1])]
  |_=>rfl
 have h3:isTab0 H x=isTab0 H' x:=by
  cases x with
  |tsl b ver p=>simp only[isTab0,hx1 b (by simp[refs1])]
  |_=>rfl
 have h4:refBlk H x=refBlk H' x:=by
  cases x with
  |tsl b ver p=>simp only[refBlk,hx1 b (by simp[refs1])]
  |_=>rfl
 have h5:appendNT P t H base x=appendNT P t H' base x:=by
  cases x with
  |tsl b ver p=>simp only[appendNT,hx1 b (by simp[refs1])]
  |_=>rfl
 have h6:appendE0 P t H base s x=appendE0 P t H' base s x:=appendE0_congr hs hx
 cases s with
 |tsl b ver p=>
  have hb:=hs b (by simp[refs,refs1])
  cases p with
  |nil=>simp only[appendE,appendTT,hb,h4]
  |cons q p=>simp only[appendE,appendIn,hb,h4,h1,h2]
 |_=>simp only[appendE,h2,h3,h5,h6]
theorem takeCells_congr {H H':List Blk} {os:List TypeId} {k:CK}:∀(cs:List AV) (j:Nat),(∀c∈cs,∀b∈refs1 c,nth .free H b=nth .free H' b)→takeCells H os k cs j=takeCells H' os k cs j
 |[],_,_=>rfl
 |c::cs,j,h=>by
  simp only[takeCells,takeCells_congr cs (j+1) fun c' hc'=>h c' (List.mem_cons_of_mem _ hc')]
  congr 1
  cases ownC os k j with
  |none=>exact view1_congr (h c (by simp))
  |some ek=>exact rowV_congr (h c (by simp))
theorem cellsA_refs {x:AV}:∀c∈cellsA x,∀b∈refs1 c,b∈refs x:=fun c hc b hb=>by
 cases x with
 |agg cs=>exact List.mem_flatMap.2 ⟨c,hc,hb⟩
 |_=>simp only[cellsA,List.mem_singleton] at hc;subst hc;exact refs1_sub b hb
theorem buildT_congr {P:Program} {os:List TypeId} {e:TypeId} {H H':List Blk} {base:Nat} {x:AV} (hx:∀b∈refs x,nth .free H b=nth .free H' b):buildT P os e H base x=buildT P os e H' base x:=by
 have h0:∀c∈cellsA x,∀b∈refs1 c,nth .free H b=nth .free H' b:=fun c hc b hb=>hx b (cellsA_refs c hc b hb)
 have h1:=takeCells_congr (os:=os) (k:=kE P e) (cellsA x) 0 h0
 have h2:frozenB H (leftB os (kE P e) (cellsA x) 0)=frozenB H' (leftB os (kE P e) (cellsA x) 0):=frozenB_congr fun b hb=>by
  have:∀(cs:List AV) (j:Nat),b∈leftB os (kE P e) cs j→∃c∈cs,b∈refs1 c:=by
   intro cs
   induction cs with
   |nil=>intro j h;simp[leftB] at h
   | cons c cs ih=>
    intro j h
    simp only[leftB] at h
    rcases List.mem_append.1 h with h|h
    ·cases ho:ownC os (kE P e) j<;>rw[ho] at h
     ·exact ⟨c,by simp,h⟩
     ·simp at h
    ·obtain ⟨c',h1,h2⟩:=ih (j+1) h
     exact ⟨c',by simp[h1],h2⟩
  obtain ⟨c,h1,h2⟩:=this _ _ hb
  exact h0 c h1 b h2
 have h3:(takenB os (kE P e) (cellsA x) 0).map (deadB H)=(takenB os (kE P e) (cellsA x) 0).map (deadB H'):=deadB_congr fun b hb=>by
  obtain ⟨q,q1,_,q3⟩:=takenB_of _ 0 b hb
  exact h0 _ (by rw[nth_lt _ _ _ q1];exact List.getElem_mem q1) b q3
 simp only[buildT,h1,h2,h3]
theorem convHE_congr {P:Program} {s d:TypeId} {H H':List Blk} {x:AV} (hx:∀b∈refs x,nth .free H b=nth .free H' b):convHE P s d H x=convHE P s d H' x:=by
 have h1:view1 H x=view1 H' x:=view1_congr fun b hb=>hx b (by cases x<;>first|exact hb|simp[refs1] at hb)
 simp only[convHE,bytesE,h1]
theorem lenE_congr {P:Program} {t:TypeId} {H H':List Blk} {x:AV} (h:∀b∈refs x,nth .free H b=nth .free H' b):lenE P t H x=lenE P t H' x:=by
 cases x with
 |sl b ver off len=>
  have e3:verOf H b=verOf H' b:=by simp only[verOf,h b (by simp[refs,refs1])]
  have e4:nOf H b=nOf H' b:=by simp only[nOf,h b (by simp[refs,refs1])]
  simp only[lenE,e3,e4]
 |mp b=>simp only[lenE,h b (by simp[refs,refs1])]
 |tsl b ver p=>simp only[lenE,tabN,tabVer,h b (by simp[refs,refs1])]
 |_=>rfl
theorem mapV_congr {H H':List Blk} {x:AV} (h:∀b∈refs x,nth .free H b=nth .free H' b):mapV H x=mapV H' x:=by
 cases x with
 |mp b=>simp only[mapV,h b (by simp[refs,refs1])]
 |_=>rfl
theorem lookupE_congr {P:Program} {t:TypeId} {H H':List Blk} {x ix:AV} {ok:Bool} (h:∀b∈refs x,nth .free H b=nth .free H' b):lookupE P t H x ix ok=lookupE P t H' x ix ok:=by
 unfold lookupE
 rw[mapV_congr h]
theorem rangeE_congr {P:Program} {t:TypeId} {H H':List Blk} {base:Nat} {x:AV} (h:∀b∈refs x,nth .free H b=nth .free H' b):rangeE P t H base x=rangeE P t H' base x:=by
 unfold rangeE
 rw[mapV_congr h,frozenB_congr h]
theorem nextE_congr {H H':List Blk} {x:AV} {s:Bool} (h:∀b∈refs x,nth .free H b=nth .free H' b):nextE cx H x s=nextE cx H' x s:=by
 cases s with
 |true=>rfl
 |false=>
  cases x with
  |it b=>simp only[nextE,h b (by simp[refs,refs1])]
  |_=>rfl
theorem entryE_congr {H H':List Blk} {x:AV} (h:∀b∈refs x,nth .free H b=nth .free H' b):entryE H x=entryE H' x:=by
 cases x with
 |it b=>simp only[entryE,h b (by simp[refs,refs1])]
 |_=>rfl
theorem updateE_congr {P:Program} {t:TypeId} {H H':List Blk} {x ix y:AV} (h:∀b∈refs x,nth .free H b=nth .free H' b) (hy:∀b∈refs y,nth .free H b=nth .free H' b):updateE P t H x ix y=updateE P t H' x ix y:=by
 unfold updateE
 cases mapT P t with
 |none=>rfl
 |some ke=>
  cases x with
  |mp b=>simp only[h b (by simp[refs,refs1]),view_congr hy,frozenB_congr hy]
  |_=>rfl
theorem reach_sub {H:List Blk}:∀(d:Nat) (todo seen:List Nat),∀b∈seen,b∈reach H d todo seen
 |0,_,_,b,h=>h
 |_+1,[],_,b,h=>h
 |d+1,c::todo,seen,b,h=>by
  simp only[reach]
  cases seen.contains c with
  |true=>exact reach_sub d todo seen b h
  |false=>exact reach_sub d _ _ b (List.mem_append_left _ h)
theorem reach_congr {H H':List Blk}:∀(d:Nat) (todo seen:List Nat),(∀b∈reach H d todo seen,blkRefs (nth .free H b)=blkRefs (nth .free H' b))→reach H d todo seen=reach H' d todo seen
 |0,_,_,_=>rfl
 |_+1,[],_,_=>rfl
 | d+1,c::todo,seen,h=>by
  simp only[reach] at h⊢
  cases hc:seen.contains c with
  |true=>rw[hc] at h;exact reach_congr d todo seen h
  |false=>
   rw[hc] at h
   simp only[cond_false] at h⊢
   rw[←h c (reach_sub d _ _ c (by simp))]
   exact reach_congr d _ _ h
theorem idx_mem {b:Nat} {l:List Nat} {n c:Nat} (h:idx b l n=some c):b∈l:=by
 obtain ⟨_,h2,h3⟩:=idx_spec l n c h
 rw[←h3,nth_lt _ _ _ h2]
 exact List.getElem_mem h2
theorem ren1_congr {pin:Nat} {H H':List Blk} {ord:List Nat} (h:∀b∈ord,nth .free H b=nth .free H' b) (v:AV):ren1 pin H ord v=ren1 pin H' ord v:=by
 have hv:∀b c,idx b ord 0=some c→verOf H b=verOf H' b:=fun b c hi=>by simp only[verOf,h b (idx_mem hi)]
 have hvp:∀b c p,idx b ord 0=some c→vpOf H b p=vpOf H' b p:=fun b c p hi=>by simp only[vpOf,h b (idx_mem hi)]
 cases v with
 |eptr b ver i j=>
  simp only[ren1]
  cases hi:idx b ord 0 with
  |none=>rfl
  |some c=>simp only[hv b c hi]
 |sl b ver off len=>
  simp only[ren1]
  cases hi:idx b ord 0 with
  |none=>rfl
  |some c=>simp only[hv b c hi]
 |tsl b ver p=>
  simp only[ren1]
  cases hi:idx b ord 0 with
  |none=>rfl
  |some c=>simp only[hvp b c p hi]
 |tptr b ver p i j=>
  simp only[ren1]
  cases hi:idx b ord 0 with
  |none=>rfl
  |some c=>simp only[hvp b c p hi]
 |_=>rfl
theorem ren_congr {pin:Nat} {H H':List Blk} {ord:List Nat} (h:∀b∈ord,nth .free H b=nth .free H' b) (v:AV):ren pin H ord v=ren pin H' ord v:=by
 cases v with
 |agg cs=>simp only[ren];congr 1;exact List.map_congr_left fun c _=>ren1_congr h c
 |clo f cs=>simp only[ren];congr 1;exact List.map_congr_left fun c _=>ren1_congr h c
 |eptr b ver i j=>exact ren1_congr h (.eptr b ver i j)
 |sl b ver off len=>exact ren1_congr h (.sl b ver off len)
 |tsl b ver p=>exact ren1_congr h (.tsl b ver p)
 |tptr b ver p i j=>exact ren1_congr h (.tptr b ver p i j)
 |_=>rfl
theorem renH_congr {pin:Nat} {H H':List Blk} {ord:List Nat} (h:∀b∈ord,nth .free H b=nth .free H' b):renH pin H ord=renH pin H' ord:=by
 have key:∀(l:List Nat) (c:Nat),(∀b∈l,nth .free H b=nth .free H' b)→renHs pin H ord l c=renHs pin H' ord l c:=by
  intro l
  induction l with
  |nil=>intro c _;rfl
  |cons b l ih=>
   intro c hl
   simp only[renHs]
   rw[ih (c+1) fun x hx=>hl x (List.mem_cons_of_mem _ hx),←hl b List.mem_cons_self]
   congr 1
   cases nth .free H b with
   |cells cs=>simp only[renB];congr 1;exact List.map_congr_left fun c _=>ren_congr h c
   |_=>rfl
 exact key ord 0 h
theorem passA_congr {H H':List Blk} {ord:List Nat} (h:∀b∈ord,nth .free H b=nth .free H' b):∀(ms:List Bool) (xs:List AV),(∀x∈byView ms xs,viewA H x=viewA H' x)→passA H ord ms xs=passA H' ord ms xs
 |[],xs,hv=>by
  simp only[passA]
  exact List.map_congr_left fun x hx=>hv x (by cases xs<;>exact hx)
 |true::ms,[],_=>rfl
 |false::ms,[],_=>rfl
 |true::ms,x::xs,hv=>by simp only[passA,ren_congr h x,passA_congr h ms xs hv]
 |false::ms,x::xs,hv=>by simp only[passA,hv x (by simp[byView]),passA_congr h ms xs fun y hy=>hv y (by simp[byView,hy])]
theorem callAt_congr {H H':List Blk} {frz:List (Nat×Blk)} {base:Nat} {f:FuncId} {vs:List AV} (hv:∀x∈byView (cx.mode f) vs,viewA H x=viewA H' x) (ho:ordA H (cx.mode f) vs=ordA H' (cx.mode f) vs) (hb:∀b∈ordA H (cx.mode f) vs,nth .free H b=nth .free H' b):
  callAt cx H frz base f vs=callAt cx H' frz base f vs∧callR cx H f vs=callR cx H' f vs:=by
 have hr:callR cx H f vs=callR cx H' f vs:=by
  unfold callR
  rw[←ho,renH_congr hb,passA_congr hb _ _ hv]
 have ht:tau H (ordA H (cx.mode f) vs)=tau H' (ordA H (cx.mode f) vs):=funext fun c=>by
  unfold tau
  cases hc:Nat.blt c (ordA H (cx.mode f) vs).length with
  |false=>rfl
  |true=>
   have hlt:c<(ordA H (cx.mode f) vs).length:=by simpa [Nat.blt_eq] using hc
   have hm:nth 0 (ordA H (cx.mode f) vs) c∈ordA H (cx.mode f) vs:=by rw[nth_lt _ _ _ hlt];exact List.getElem_mem hlt
   simp only[verOf,ivOf,hb _ hm,cond_true]
 have hall:(byView (cx.mode f) vs).all (fun x=>pureA (viewA H x))=(byView (cx.mode f) vs).all (fun x=>pureA (viewA H' x)):=by
  rw[Bool.eq_iff_iff]
  simp only[List.all_eq_true]
  exact ⟨fun h x hx=>by rw[←hv x hx];exact h x hx,fun h x hx=>by rw[hv x hx];exact h x hx⟩
 have hfr:(ordA H (cx.mode f) vs).all (fun b=> !isFree (nth .free H b))=(ordA H (cx.mode f) vs).all (fun b=> !isFree (nth .free H' b)):=by
  rw[Bool.eq_iff_iff]
  simp only[List.all_eq_true]
  exact ⟨fun h x hx=>by rw[←hb x hx];exact h x hx,fun h x hx=>by rw[hb x hx];exact h x hx⟩
 refine ⟨?_,hr⟩
 unfold callAt
 rw[←hr,←ho,←ht,hall,hfr]
theorem blkRefs_frz (g:Bool) (x:Blk):blkRefs (frz g x)=blkRefs x:=by cases x<;>cases g<;>rfl
theorem ordA_frz {H:List Blk} {l:List Nat} {ms:List Bool} {vs:List AV}:ordA (sets H (frozenB H l)) ms vs=ordA H ms vs:=
 (reach_congr _ _ _ fun b _=>by rw[frozenB_nth H l H (fun _=> .inl rfl) rfl,blkRefs_frz]).symm
theorem viewA_frz {H H':List Blk} {l l':List Nat} (hl:l=l') {x:AV} (h:viewA H x=viewA H' x) (hx:∀b∈refs x++deepC H x,nth .free H b=nth .free H' b):viewA (sets H (frozenB H l)) x=viewA (sets H' (frozenB H' l')) x:=by
 subst hl
 refine viewA_congr fun b hb=> ?_
 rw[frozenB_nth H l H (fun _=> .inl rfl) rfl,frozenB_nth H' l H' (fun _=> .inl rfl) rfl]
 rcases List.mem_append.1 hb with h1|h1
 ·rw[hx b (List.mem_append_left _ h1)]
 ·rw[hx b (List.mem_append_right _ ?_)]
  have e:∀v,deepC1 (sets H (frozenB H l)) v=deepC1 H v:=fun v=>by
   cases v<;>first|rfl|skip
   simp only[deepC1,frozenB_nth H l H (fun _=> .inl rfl) rfl,blkRefs_frz]
  cases x<;>first|exact h1|skip
  ·simp only[deepC] at h1⊢;rwa [e] at h1
  ·simp only[deepC] at h1⊢
   obtain ⟨v,hv,hb'⟩:=List.mem_flatMap.1 h1
   exact List.mem_flatMap.2 ⟨v,hv,by rwa [e] at hb'⟩
theorem callE_congr {H H':List Blk} {base:Nat} {f:FuncId} {vs:List AV} (h:∀v∈vs,(∀b∈refs v,nth .free H b=nth .free H' b)∧∀b∈deepC H v,nth .free H b=nth .free H' b) (ho:∀b∈ordA H (cx.mode f) vs,nth .free H b=nth .free H' b):callE cx H base f vs=callE cx H' base f vs:=by
 have hsub:∀(ms:List Bool) (xs:List AV),∀x∈byView ms xs,x∈xs:=fun ms=>by
  induction ms with
  |nil=>intro xs x hx;cases xs<;>exact hx
  | cons m ms ih=>
   intro xs x hx
   cases xs with
   |nil=>cases m<;>exact hx
   | cons y xs=>
    cases m with
    |true=>exact List.mem_cons_of_mem _ (ih xs x hx)
    |false=>
     rcases List.mem_cons.1 hx with rfl|hx
     ·simp
     ·exact List.mem_cons_of_mem _ (ih xs x hx)
 have hv0:∀x∈byView (cx.mode f) vs,∀b∈refs x++deepC H x,nth .free H b=nth .free H' b:=fun x hx b hb=>(List.mem_append.1 hb).elim ((h x (hsub _ _ x hx)).1 b) ((h x (hsub _ _ x hx)).2 b)
 have hv:∀x∈byView (cx.mode f) vs,viewA H x=viewA H' x:=fun x hx=>viewA_congr (hv0 x hx)
 have hoe:ordA H (cx.mode f) vs=ordA H' (cx.mode f) vs:=reach_congr _ _ _ fun b hb=>by rw[ho b hb]
 have h1:=fun frz=>callAt_congr (cx:=cx) (frz:=frz) (base:=base) (f:=f) hv hoe ho
 have hfr:frzA H (cx.mode f) vs=frzA H' (cx.mode f) vs:=frozenB_congr fun b hb=>by
  obtain ⟨x,hx,hb⟩:=List.mem_flatMap.1 hb
  exact hv0 x hx b (List.mem_append_left _ hb)
 have h2:callAt cx (sets H (frzA H (cx.mode f) vs)) (frzA H (cx.mode f) vs) base f vs=callAt cx (sets H' (frzA H' (cx.mode f) vs)) (frzA H (cx.mode f) vs) base f vs:=by
  refine (callAt_congr (cx:=cx) (f:=f) (fun x hx=>viewA_frz rfl (hv x hx) (hv0 x hx)) ?_ fun b hb=> ?_).1
  ·simp only[frzA,ordA_frz];exact hoe
  ·simp only[frzA,ordA_frz] at hb⊢
   rw[frozenB_nth H _ H (fun _=> .inl rfl) rfl,frozenB_nth H' _ H' (fun _=> .inl rfl) rfl,ho b hb]
 unfold callE
 rw[h2,(h1 []).1,(h1 []).2,hfr]
theorem opE_congr {H H':List Blk} {T T':List AV} {base:Nat} {o:Oper} (hT:∀t∈tmpsOf o.op.operands.toList,nth .junk T t=nth .junk T' t) (hH:∀b∈opRd cx T H o,nth .free H b=nth .free H' b):
  opE0 cx T H base o=opE0 cx T' H' base o∧opG T o=opG T' o:=by
 have he:∀x∈o.op.operands.toList,ev T x=ev T' x:=fun x hx=>ev_congr fun t ht=>hT t (mem_tmps (ht▸hx))
 have hev:∀x∈o.op.operands.toList,unw (ev T x)∈evs T o.op.operands.toList:=fun x hx=>by
  clear hT hH he
  generalize o.op.operands.toList=l at hx
  induction l with
  |nil=>cases hx
  |cons y l ih=>rcases List.mem_cons.1 hx with rfl|hx<;>simp[evs];exact .inr (ih hx)
 have hH1:readsH o.op=true→∀x∈o.op.operands.toList,∀b∈refs (unw (ev T x)),nth .free H b=nth .free H' b:=fun hrd x hx b hb=>hH b (by
  unfold opRd;rw[hrd]
  exact List.mem_append_left _ (List.mem_flatMap.2 ⟨unw (ev T x),hev x hx,hb⟩))
 have hH2:isCall o.op=true→∀x∈o.op.operands.toList,∀b∈deepC H (unw (ev T x)),nth .free H b=nth .free H' b:=fun hrd x hx b hb=>hH b (by
  have hr1:readsH o.op=true:=by cases h:o.op<;>rw[h] at hrd<;>first|rfl|cases hrd
  unfold opRd;rw[hr1,hrd]
  exact List.mem_append_right _ (List.mem_append_left _ (List.mem_flatMap.2 ⟨unw (ev T x),hev x hx,hb⟩)))
 have hH3:isCall o.op=true→∀b∈callRd cx T H o.op,nth .free H b=nth .free H' b:=fun hrd b hb=>hH b (by
  have hr1:readsH o.op=true:=by cases h:o.op<;>rw[h] at hrd<;>first|rfl|cases hrd
  unfold opRd;rw[hr1]
  exact List.mem_append_right _ (List.mem_append_right _ hb))
 clear hev
 have hall:=evs_congr he
 refine ⟨?_,?_⟩
 rotate_left
 ·unfold opG
  split
  ·rfl
  ·exact hall.2
 obtain ⟨dst,op,ty,pos,after_,guard⟩:=o
 simp only at he hH1 hH2 hH3 hall
 cases op with
 |move x=>simp only[opE0,he x (by simp[Op.operands])]
 |assign x=>simp only[opE0,he x (by simp[Op.operands])]
 |pick c x y=>simp only[opE0,he c (by simp[Op.operands]),he x (by simp[Op.operands]),he y (by simp[Op.operands])]
 |alloc t=>rfl
 |box t x=>simp only[opE0,he x (by simp[Op.operands])]
 | build t parts=>
  have hp:(parts.toList.map fun p=>(p.1,unw (ev T p.2)))=parts.toList.map fun p=>(p.1,unw (ev T' p.2)):=List.map_congr_left fun p hp=>by
   rw[he p.2 (by simp[Op.operands];exact ⟨_,Array.mem_toList_iff.1 hp⟩)]
  simp only[opE0,hp]
 | buildSlice t len parts=>
  have hp:(parts.toList.map fun p=>(p.1,unw (ev T p.2)))=parts.toList.map fun p=>(p.1,unw (ev T' p.2)):=List.map_congr_left fun p hp=>by
   rw[he p.2 (by simp[Op.operands];exact ⟨_,Array.mem_toList_iff.1 hp⟩)]
  have hr:∀q∈(parts.toList.map fun p=>(p.1,unw (ev T p.2))),∀b∈refs q.2,nth .free H b=nth .free H' b:=fun q hq b hb=>by
   obtain ⟨p,hp,rfl⟩:=List.mem_map.1 hq
   exact hH1 rfl p.2 (by simp[Op.operands];exact ⟨_,Array.mem_toList_iff.1 hp⟩) b hb
  simp only[opE0]
  rw[←hp]
  generalize (parts.toList.map fun p=>(p.1,unw (ev T p.2)))=ps at hr
  have h1:(ps.map fun p=>(p.1,view H p.2))=ps.map fun p=>(p.1,view H' p.2):=List.map_congr_left fun p hp=>by rw[view_congr (hr p hp)]
  have h2:frozenB H (ps.flatMap fun p=>refs p.2)=frozenB H' (ps.flatMap fun p=>refs p.2):=frozenB_congr fun b hb=>by
   obtain ⟨p,hp,hb⟩:=List.mem_flatMap.1 hb
   exact hr p hp b hb
  have h3:bears H ps=bears H' ps:=by
   unfold bears
   have:∀l:List (Nat×AV),(∀q∈l,∀b∈refs q.2,nth .free H b=nth .free H' b)→(l.any fun p=> !pureA (view H p.2))=l.any fun p=> !pureA (view H' p.2):=by
    intro l
    induction l with
    |nil=>intro _;rfl
    |cons p l ih=>intro h;simp only[List.any_cons,ih fun q hq=>h q (List.mem_cons_of_mem _ hq),view_congr (h p (by simp))]
   exact this ps hr
  simp only[buildSliceE,h1,h2,h3]
  cases elemT cx.P t with
  |none=>rfl
  | some e=>
   simp only
   cases anyOwn cx.os (kE cx.P e) with
   |false=>rfl
   | true=>
    simp only[cond_true]
    split
    ·rename_i x
     exact buildT_congr (hr (0,x) (by simp))
    ·rfl
 |load t x=>
  have hx:=hH1 rfl x (by simp[Op.operands])
  simp only[opE0,←he x (by simp[Op.operands])]
  exact loadE_congr hx
 |store t x y=>
  have hx:=hH1 rfl x (by simp[Op.operands])
  have hy:=hH1 rfl y (by simp[Op.operands])
  simp only[opE0,←he x (by simp[Op.operands]),←he y (by simp[Op.operands])]
  exact storeE_congr hx hy
 |makeMap t n=>cases n<;>rfl
 |lookup t x ix ok=>
  have hx:=hH1 rfl x (by simp[Op.operands])
  simp only[opE0,←he x (by simp[Op.operands]),←he ix (by simp[Op.operands])]
  exact lookupE_congr hx
 |range t x=>
  have hx:=hH1 rfl x (by simp[Op.operands])
  simp only[opE0,←he x (by simp[Op.operands])]
  exact rangeE_congr hx
 |next x s=>
  have hx:=hH1 rfl x (by simp[Op.operands])
  simp only[opE0,←he x (by simp[Op.operands])]
  exact nextE_congr hx
 |entry x=>
  have hx:=hH1 rfl x (by simp[Op.operands])
  simp only[opE0,←he x (by simp[Op.operands])]
  exact entryE_congr hx
 |mapUpdate t m k x=>
  have hx:=hH1 rfl m (by simp[Op.operands])
  have hy:=hH1 rfl x (by simp[Op.operands])
  simp only[opE0,←he m (by simp[Op.operands]),←he k (by simp[Op.operands]),←he x (by simp[Op.operands])]
  exact updateE_congr hx hy
 |insert t m k x=>
  have hx:=hH1 rfl m (by simp[Op.operands])
  have hy:=hH1 rfl x (by simp[Op.operands])
  simp only[opE0,←he m (by simp[Op.operands]),←he k (by simp[Op.operands]),←he x (by simp[Op.operands])]
  exact updateE_congr hx hy
 |nilCheck x=>simp only[opE0,he x (by simp[Op.operands])]
 |binOp op t x y yt=>simp only[opE0,he x (by simp[Op.operands]),he y (by simp[Op.operands])]
 |unOp op t x=>simp only[opE0,he x (by simp[Op.operands])]
 |convert s d x=>
  have hx:=hH1 rfl x (by simp[Op.operands])
  simp only[opE0,←he x (by simp[Op.operands])]
  exact convHE_congr hx
 |makeSlice t l c=>simp only[opE0,he l (by simp[Op.operands]),he c (by simp[Op.operands])]
 |sliceToArrayPointer t x=>simp only[opE0,he x (by simp[Op.operands])]
 | slice t x lo hi mx=>
  have hx:=hH1 rfl x (by simp[Op.operands])
  have hop:∀z:Option Operand,(∀y,z=some y→y∈(Op.slice t x lo hi mx).operands.toList)→(z.map fun y=>unw (ev T y))=z.map fun y=>unw (ev T' y):=fun z hz=>by
   cases z with
   |none=>rfl
   |some y=>simp only[Option.map_some,he y (hz y rfl)]
  simp only[opE0,←he x (by simp[Op.operands]),hop lo (fun y h=>by simp[Op.operands,h]),hop hi (fun y h=>by simp[Op.operands,h]),hop mx (fun y h=>by simp[Op.operands,h])]
  exact sliceE_congr hx
 |fieldAddr s x f=>simp only[opE0,he x (by simp[Op.operands])]
 |field s x f=>simp only[opE0,he x (by simp[Op.operands])]
 |indexAddr t x ix=>
  have hx:=hH1 rfl x (by simp[Op.operands])
  simp only[opE0,←he x (by simp[Op.operands]),←he ix (by simp[Op.operands])]
  exact indexAddrE_congr hx
 |index t x ix=>simp only[opE0,he x (by simp[Op.operands]),he ix (by simp[Op.operands])]
 |extract x ix=>simp only[opE0,he x (by simp[Op.operands])]
 | call c=>
  have hargs:∀x∈c.args.toList,x∈(Op.call c).operands.toList:=fun x hx=>by
   obtain ⟨callee,args,tys⟩:=c
   cases callee<;>simp[Op.operands,Call.operands] at hx⊢ <;>simp[hx]
  have hev:evs T c.args.toList=evs T' c.args.toList:=(evs_congr fun x hx=>he x (hargs x hx)).1
  have hr0:∀v∈evs T c.args.toList,(∀b∈refs v,nth .free H b=nth .free H' b)∧∀b∈deepC H v,nth .free H b=nth .free H' b:=fun v hv=>by
   have:∃x∈c.args.toList,v=unw (ev T x):=by
    clear hargs hev
    generalize c.args.toList=l at hv
    induction l with
    |nil=>simp[evs] at hv
    | cons x l ih=>
     simp only[evs,List.mem_cons] at hv
     rcases hv with h|h
     ·exact ⟨x,by simp,h⟩
     ·obtain ⟨y,hy,e⟩:=ih h
      exact ⟨y,by simp[hy],e⟩
   obtain ⟨x,hx,rfl⟩:=this
   exact ⟨hH1 rfl x (hargs x hx),hH2 rfl x (hargs x hx)⟩
  have hcal:∀t,c.callee= .value (.tmp t)→asClo (unw (ev T (.tmp t)))=asClo (unw (ev T' (.tmp t)))∧∀f caps,asClo (unw (ev T (.tmp t)))= .clo f caps→∀v∈caps.map unclo,(∀b∈refs v,nth .free H b=nth .free H' b)∧∀b∈deepC H v,nth .free H b=nth .free H' b:=fun t ht=>by
   have hm:Operand.tmp t∈(Op.call c).operands.toList:=by
    obtain ⟨callee,args,tys⟩:=c
    simp only at ht
    subst ht
    simp[Op.operands,Call.operands]
   refine ⟨by rw[he _ hm],fun f caps hcl v hv=> ?_⟩
   have h2:=hH2 rfl _ hm
   rw[←asClo_deep,hcl] at h2
   obtain ⟨v,hv',rfl⟩:=List.mem_map.1 hv
   have h3:∀b∈deepC1 H v,nth .free H b=nth .free H' b:=fun b hb=>h2 b (List.mem_flatMap.2 ⟨v,hv',hb⟩)
   by_cases hp:∃b off,v= .ptr b off
   ·obtain ⟨b,off,rfl⟩:=hp
    exact ⟨fun b' hb'=>h3 b' (by simp[unclo,refs,refs1] at hb';simp[deepC1,hb']),h3⟩
   ·have e:deepC1 H v=refs v:=by cases v<;>first|rfl|exact absurd ⟨_,_,rfl⟩ hp
    refine ⟨fun b' hb'=>h3 b' (by rw[e];cases v<;>first|exact hb'|simp[unclo,refs,refs1] at hb'),fun b' hb'=> ?_⟩
    cases v<;>first|(simp[unclo,deepC] at hb';done)|exact absurd ⟨_,_,rfl⟩ hp
  have hrd1:∀f,c.callee= .value (.func f)→∀b∈ordA H (cx.mode f) (evs T c.args.toList),nth .free H b=nth .free H' b:=fun f h b hb=>hH3 rfl b (by simp only[callRd,h];exact hb)
  have hrd2:∀t f caps,c.callee= .value (.tmp t)→asClo (unw (ev T (.tmp t)))= .clo f caps→∀b∈ordA H (cx.mode f.1) (cloArgs f.2 (evs T c.args.toList) (caps.map unclo)),nth .free H b=nth .free H' b:=fun t f caps h h2 b hb=>hH3 rfl b (by simp only[callRd,h,h2];exact hb)
  simp only[opE0,callOpE,←hev]
  generalize evs T c.args.toList=vs at hr0 hrd1 hrd2
  have hr:∀v∈vs,∀b∈refs v,nth .free H b=nth .free H' b:=fun v hv=>(hr0 v hv).1
  have happ:∀t s x,vs=[s,x]→appendE cx.P t H base s (srcA x)=appendE cx.P t H' base s (srcA x):=fun t s x h=>by
   subst h
   exact appendE_congr (hr s (by simp)) (fun b hb=>hr x (by simp) b (by cases x<;>first|exact hb|simp[srcA,refs,refs1] at hb))
  obtain ⟨callee,args,tys⟩:=c
  cases callee with
  | builtin b=>
   cases b<;>first|rfl|skip
   rotate_left
   ·cases vs with
    |nil=>rfl
    | cons s l=>
     cases l with
     |nil=>rfl
     | cons x l=>
      cases l with
      |cons y l=>rfl
      | nil=>
       cases htys:tys.toList with
       |nil=>rfl
       | cons t l=>
        cases l with
        |nil=>rfl
        |cons t' l=>
         cases l with
         |cons y l=>rfl
         |nil=>exact copyE_congr (hr s (by simp))
   ·cases vs with
    |nil=>rfl
    | cons x l=>
     cases l with
     |cons y l=>rfl
     | nil=>
      cases htys:tys.toList with
      |nil=>rfl
      |cons t l=>
       cases l with
       |cons y l=>rfl
       |nil=>exact lenE_congr (hr x (by simp))
   cases vs with
   |nil=>rfl
   | cons s l=>
    cases l with
    |nil=>rfl
    | cons x l=>
     cases l with
     |cons y l=>rfl
     | nil=>
      cases htys:tys.toList with
      |nil=>rfl
      | cons t l=>
       cases l with
       |nil=>rfl
       |cons t' l=>
        cases l with
        |cons y l=>rfl
        |nil=>simp only[happ t s x rfl]
  | value f=>
   cases f with
   |func f=>exact callE_congr hr0 (hrd1 f rfl)
   |tmp t=>
    obtain ⟨e1,e2⟩:=hcal t rfl
    simp only[←e1]
    cases hcl:asClo (unw (ev T (.tmp t)))<;>first|rfl|skip
    rename_i f caps
    refine callE_congr (fun v hv=> ?_) (hrd2 t f caps rfl hcl)
    obtain ⟨g,b⟩:=f
    cases b with
    |false=>exact (List.mem_append.1 hv).elim (hr0 v) (e2 _ caps hcl v)
    |true=>exact (List.mem_append.1 hv).elim (e2 _ caps hcl v) (hr0 v)
   |_=>rfl
  |invoke r n=>rfl
 |makeFunc fn first caps=>
  have hev:evs T caps.toList=evs T' caps.toList:=(evs_congr fun x hx=>he x (by simp[Op.operands];exact .inr (Array.mem_toList_iff.1 hx))).1
  have hev2:evs T first.toList=evs T' first.toList:=(evs_congr fun x hx=>he x (by simp[Op.operands];exact .inl (Array.mem_toList_iff.1 hx))).1
  cases fn<;>simp only[opE0,hev,hev2]
 |_=>rfl
end
end Go.Abs
