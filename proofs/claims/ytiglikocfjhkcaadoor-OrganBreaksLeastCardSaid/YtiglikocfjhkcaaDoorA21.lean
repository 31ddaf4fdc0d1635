/- A law's row: from the evaluator's answer to what the statement asks. -/
import Derived.Test.YtiglikocfjhkcaaDoorA20
import Derived.WalkKit
import Derived.ProofKit
import Derived.OpenShut
import Derived.ChangeOld
import Derived.WideShapes
set_option linter.all false
set_option linter.unusedVariables false
set_option linter.unusedSimpArgs false
namespace Go.Abs
variable [Globs]
open Go.RowKit (Below)
open Go.ChangeShapes Go.WideShapes Go.ChangeAt Go.RowKit
def shapeT (P:Program) (t:TypeId):Option Nat:=bif isAggT P t then some (cks P t).length else none
section
variable {H:Type} {eh:TypeId×Value→H} {P:Program} {w:World} {S:Nat→Prop} {sp:Nat→Bool}
theorem okT_scalar {d:Nat} {t:TypeId} (h:okT P d t=true) (ha:isAggT P t=false):∃k,ckOf P d t=[k]:=by
 cases d with
 |zero=>simp[okT] at h
 |succ d=>
  simp only[okT] at h
  simp only[ckOf]
  simp only[isAggT] at ha
  cases hu:P.underlying t with
  |none=>simp[hu] at h
  |some ds=>cases ds<;>simp_all
theorem okWide_cells {d base:Nat} {t:TypeId} {v:Value} (h:okT P d t=true) (ha:isAggT P t=false) (hv:Value.okWide P w .any base t v):v.cells= #[v]:=by
 cases d with
 |zero=>simp[okT] at h
 |succ d=>
  simp only[okT] at h
  simp only[isAggT] at ha
  cases v<;>try rfl
  unfold Value.okWide Cell.okWide Cell.ok at hv
  cases hu:P.underlying t with
  |none=>simp[hu] at h
  |some ds=>cases ds<;>simp_all
theorem okWide_agg {base:Nat} {t:TypeId} {v:Value} (ha:isAggT P t=true) (hv:Value.okWide P w .any base t v):∃cs,v= .agg cs:=by
 simp only[isAggT] at ha
 unfold Value.okWide at hv
 cases hu:P.underlying t with
 |none=>simp[hu] at ha
 |some ds=>
  cases ds<;>simp[hu] at ha<;>simp only[hu] at hv
  ·obtain ⟨cs,h,_⟩:=hv;exact ⟨cs,h⟩
  ·obtain ⟨cs,h,_⟩:=hv;exact ⟨cs,h⟩
theorem read_all (hS:∀B,B<w.heap.size→S B) {base:Nat}:∀(ts:List TypeId) (vs:List Value) (ds:List (DataW H)) (ps:List MemPlace),DataW.TrodAll eh P w 0 sp true ts vs ds ps→(∀(j:Nat) t v,ts[j]?=some t→vs[j]?=some v→Value.okWide P w .any base t v)→
  ts.all (okT P 40)=true→(DataW.weightsEach P ts ds).all (· ≤reachBytes)=true→
  ∃as,All2 (CellK P) (ts.flatMap (cks P)) as∧(groupA (ts.map (shapeT P)) as).length=vs.length∧∀i,i<vs.length→PV w S (nth .junk (groupA (ts.map (shapeT P)) as) i) (vs.getD i undef)
 |[],vs,ds,ps,h,_,_,_=>by
  obtain ⟨rfl,rfl,rfl⟩:=trodAll_nil h
  exact ⟨[],trivial,rfl,fun i hi=>by simp at hi⟩
 | t ::ts,vs,ds,ps,h,hval,hok,hw=>by
  obtain ⟨v,vs',d,ds',p,q,rfl,rfl,rfl,⟨fuel,hd⟩,hr⟩:=trodAll_cons h
  simp only[List.all_cons,Bool.and_eq_true] at hok
  simp only[DataW.weightsEach,List.all_append,Bool.and_eq_true] at hw
  obtain ⟨bs,b1,b2,b3⟩:=read_all hS ts vs' ds' q hr (fun j t v h1 h2=>hval (j+1) t v (by simpa using h1) (by simpa using h2)) hok.2 hw.2
  obtain ⟨as,a1,a2⟩:=(read_T hS 40).1 t fuel _ _ hok.1 hd hw.1
  have hv:=hval 0 t v rfl rfl
  refine ⟨as++bs,a1.append b1,?_⟩
  have hal:(cks P t).length=as.length:=a1.len
  cases ha:isAggT P t with
  | false=>
   obtain ⟨k,hk⟩:=okT_scalar hok.1 ha
   have hk':cks P t=[k]:=hk
   rw[hk'] at hal
   obtain ⟨a,rfl⟩:∃a,as=[a]:=by
    match as,hal with
    |[a],_=>exact ⟨a,rfl⟩
   have hvc:=okWide_cells hok.1 ha hv
   rw[hvc] at a2
   have e:groupA ((t::ts).map (shapeT P)) ([a]++bs)=a::groupA (ts.map (shapeT P)) bs:=by
    simp only[List.map_cons,shapeT,ha,cond_false,groupA,List.cons_append,List.nil_append,nth,dropL]
    rw[show dropL bs 0=bs by rw[dropL_eq];rfl]
   rw[e]
   refine ⟨by simp[b2],fun i hi=> ?_⟩
   cases i with
   |zero=>exact a2.1.1
   |succ i=>exact b3 i (by simpa using hi)
  | true=>
   obtain ⟨cs,rfl⟩:=okWide_agg ha hv
   have e:groupA ((t::ts).map (shapeT P)) (as++bs)= .agg as::groupA (ts.map (shapeT P)) bs:=by
    simp only[List.map_cons,shapeT,ha,cond_true,groupA,takeL_eq,dropL_eq,hal]
    rw[List.take_left,List.drop_left]
   rw[e]
   refine ⟨by simp[b2],fun i hi=> ?_⟩
   cases i with
   | zero=>
    have hcl:as.length=cs.size:=by have:=a2.len;simpa [Value.cells] using this
    refine .agg as cs hcl fun j hj=> ?_
    have:=All2.get .junk undef a2 j hj
    have e2:nth undef (Value.agg cs).cells.toList j=cs.getD j undef:=by
     rw[nth_get?,Array.getD_eq_getD_getElem?];simp[Value.cells]
    rw[e2] at this
    exact this.1
   |succ i=>exact b3 i (by simpa using hi)
theorem trodAll_len:∀ {ts:List TypeId} {vs:List Value} {ds:List (DataW H)} {ps:List MemPlace} {base:Nat} {held:Bool},DataW.TrodAll eh P w base sp held ts vs ds ps→ds.length=ts.length
 |[],vs,ds,ps,_,_,h=>by obtain ⟨_,rfl,_⟩:=trodAll_nil h;rfl
 |t::ts,vs,ds,ps,_,_,h=>by
  obtain ⟨v,vs',d,ds',p,q,rfl,rfl,rfl,_,hr⟩:=trodAll_cons h
  simp[trodAll_len hr]
theorem back_all (hl:laidOutB P=true) {w':World} (hb:Below w.heap.size w w'):∀(ts:List TypeId) (vs:List Value) (ds:List (DataW H)) (ps:List MemPlace),DataW.TrodAll eh P w 0 (fun _=>true) true ts vs ds ps→ts.all (fun t=>P.readableRec t&&decide (t<P.types.size))=true→
  DataW.TrodAll eh P w' 0 (fun b=>decide (b<w.heap.size)) true ts vs ds ps
 |[],vs,ds,ps,h,_=>by obtain ⟨rfl,rfl,rfl⟩:=trodAll_nil h;rfl
 |t::ts,vs,ds,ps,h,hr=>by
  obtain ⟨v,vs',d,ds',p,q,rfl,rfl,rfl,hd,hrest⟩:=trodAll_cons h
  simp only[List.all_cons,Bool.and_eq_true,decide_eq_true_eq] at hr
  refine ⟨p,q,Below.trod hl hr.1.1 hr.1.2 hd hb (fun x hx=> ?_),back_all hl hb ts vs' ds' q hrest hr.2,rfl⟩
  obtain ⟨m,hm⟩:=hd
  exact DataW.trod_lt m _ _ _ hm x hx
theorem lawCalls {C:FuncId→List AV→List Blk→Res} {mode:FuncId→List Bool} {K:KT} (tab:Tab P C mode K) {f:FuncId} {fn:Func} {ts:List TypeId} {live:Nat→List Nat} (hfn:P.funcs[f]?=some fn) (hok:ts.all (okT P 40)=true) {KK:CK} {sh:List (Option Nat)}
  (hK:kPair (ts.flatMap (cks P))=KK) (hsh:ts.map (shapeT P)=sh) (hne:(ts.flatMap (cks P)).isEmpty=false) (hread:ts.all (fun t=>P.readableRec t&&decide (t<P.types.size))=true) (hl:laidOutB P=true)
  (law:∀y:CT KK,wfT P KK y→∃F,runF {P:=P,C:=C,mode:=mode,fuel:=F,live:=live,pin:=0,K:=K,nx:=true} fn (groupA sh (enc KK y)) []=⟨true, .bool true,[]⟩)
  {W:World} {base:Nat} {args:Array Value} {ds:List (DataW H)} {ps:List MemPlace} (hval:∀(j:Nat) t v,ts[j]?=some t→args[j]?=some v→Value.okWide P W .any base t v) (hA:DataW.TrodAll eh P W 0 (fun _=>true) true ts args.toList ds ps)
  (hw:(DataW.weightsEach P ts ds).all (· ≤reachBytes)=true) (hG:GlobOk W (fun B=>B<W.heap.size)):
  Calls P f args W fun e W'=>e= .returned (.bool true)∧Below W.heap.size W W'∧DataW.TrodAll eh P W' 0 (fun b=>decide (b<W.heap.size)) true ts args.toList ds ps:=by
 subst hK;subst hsh
 obtain ⟨as,a1,a2,a3⟩:=read_all (S:=fun B=>B<W.heap.size) (fun B h=>h) ts _ ds ps hA (fun j t v h1 h2=>hval j t v h1 (by simpa using h2)) hok hw
 obtain ⟨y,rfl,hy⟩:=pair_of _ as (fun h=>by rw[h] at hne;simp at hne) a1
 obtain ⟨F,hrun⟩:=law y hy
 have hHR:HR [] (fun _=>undef) W (fun B=>B<W.heap.size) (fun B=>W.heap.size≤B):=HR.nil (fun B h=>h) hG
 have:=runF_sound (cx:={P:=P,C:=C,mode:=mode,fuel:=F,live:=live,pin:=0,K:=K,nx:=true}) (fn:=fn) (vs:=groupA (ts.map (shapeT P)) (enc _ y)) (us:=args) (Hi:=[]) (S:=fun B=>B<W.heap.size) (M:=fun B=>W.heap.size≤B) (μ:=fun _=>undef) (w:=W)
  tab.sound tab.mixed rfl (tab.go 0 (fun _=>[]) 0) hfn (by rw[hrun]) (by simpa using a2) hHR (fun B h=>h) (fun i hi=>by
   have h3:=a3 i (by rw[←a2];exact hi)
   have e:args.toList.getD i undef=args.getD i undef:=by rw[List.getD_eq_getElem?_getD,Array.getD_eq_getD_getElem?];simp
   rw[e] at h3
   exact .pv h3)
 refine this.mono fun e W' hw'=> ?_
 obtain ⟨v,rfl,hk,μ',S',_,_,_,_,_,hv'⟩:=hw'
 rw[hrun] at hv'
 have hv2:=vr_bool hv'
 subst hv2
 have hbel:Below W.heap.size W W':=⟨hk.os,hk.tape,hk.output,hk.size,fun k hkk=>hk.block k hkk (Nat.not_le.2 hkk)⟩
 exact ⟨rfl,hbel,back_all hl hbel ts _ ds ps hA hread⟩
end
end Go.Abs
