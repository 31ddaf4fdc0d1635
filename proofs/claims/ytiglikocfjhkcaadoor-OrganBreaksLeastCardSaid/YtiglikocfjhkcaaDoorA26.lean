/- Package variables: what a row lists of them, as the evaluator takes it. -/
import Derived.Test.YtiglikocfjhkcaaDoorA21
import Derived.LaidLaws
import Derived.FnData
set_option linter.all false
set_option linter.unusedVariables false
set_option linter.unusedSimpArgs false
namespace Go.Abs
def arrP (P:Program) (e:TypeId):Nat→Nat→List (TypeId×Nat)
 |0,_=>[]
 |m+1,i=>(e,i*P.cellsOf e)::arrP P e m (i+1)
theorem arrP_get {P:Program} {e:TypeId}:∀(m k i:Nat) (q:TypeId×Nat),(arrP P e m k)[i]?=some q→i<m∧q=(e,(k+i)*P.cellsOf e)
 |0,_,_,_,h=>by simp[arrP] at h
 |m+1,k,0,q,h=>by
  simp only[arrP,List.getElem?_cons_zero,Option.some.injEq] at h
  exact ⟨by omega,by rw[←h];rfl⟩
 |m+1,k,i+1,q,h=>by
  simp only[arrP,List.getElem?_cons_succ] at h
  obtain ⟨h1,h2⟩:=arrP_get m (k+1) i q h
  exact ⟨by omega,by rw[h2,show k+1+i=k+(i+1) by omega]⟩
mutual
def litT (P:Program):Nat→TypeId→DataW Unit→Option (List AV)
 |0,_,_=>none
 |n+1,t,d=>
  match P.underlying t,d with
  |some .bool, .lit (.bool b)=>some [.bool b]
  |some (.int k), .lit (.int k' z)=>bif decide (k=k') then some [.int k z] else none
  |some .string, .lit (.string b)=>some [.str b]
  |some (.struct fs), .agg ds=>litP P n (fs.toList.map fun f=>(f.type,f.offset)) 0 (P.cellsOf t) ds
  |some (.array m e), .agg ds=>litP P n (arrP P e m 0) 0 (P.cellsOf t) ds
  |_,_=>none
def litP (P:Program):Nat→List (TypeId×Nat)→Nat→Nat→List (DataW Unit)→Option (List AV)
 |0,_,_,_,_=>none
 |_+1,[],off,tot,[]=>bif off==tot then some [] else none
 | n+1,p::ps,off,tot,d::ds=>
  bif p.2==off then
   match litT P n p.1 d,litP P n ps (off+P.cellsOf p.1) tot ds with
   |some as,some bs=>some (as++bs)
   |_,_=>none
  else none
 |_+1,_,_,_,_=>none
end
theorem lit_sound {P:Program} {w:World} {S:Nat→Prop} {base:Nat} {sp:Nat→Bool} {held:Bool}:∀n:Nat,
  (∀(t:TypeId) (d:DataW Unit) (as:List AV) (fuel:Nat) (cs:List Value) (p:List MemPlace),litT P n t d=some as→DataW.trod (fun _=>()) P w base sp held fuel t cs=some (d,p)→
   as.length=cs.length∧∀i,i<as.length→PV w S (nth .junk as i) (cs.getD i undef))∧
  (∀(ps:List (TypeId×Nat)) (off tot:Nat) (ds:List (DataW Unit)) (as:List AV) (fuel:Nat) (cs:List Value) (xs:List (DataW Unit×List MemPlace)),litP P n ps off tot ds=some as→xs.map (·.1)=ds→
   (∀(i:Nat) (q:TypeId×Nat),ps[i]?=some q→DataW.trod (fun _=>()) P w base sp held fuel q.1 ((cs.drop q.2).take (P.cellsOf q.1))=xs[i]?)→cs.length=tot→
   off+as.length=tot∧∀i,i<as.length→PV w S (nth .junk as i) (cs.getD (off+i) undef))
 |0=>⟨fun t d as fuel cs p h=>by simp[litT] at h,fun ps off tot ds as fuel cs xs h=>by simp[litP] at h⟩
 | n + 1 =>by
  obtain ⟨ihT,ihP⟩:=lit_sound (P:=P) (w:=w) (S:=S) (base:=base) (sp:=sp) (held:=held) n
  refine ⟨fun t d as fuel cs p h ht=> ?_,fun ps off tot ds as fuel cs xs h hx hf hc=> ?_⟩
  ·simp only[litT] at h
   split at h
   ·rename_i b hu
    cases h
    cases fuel with
    |zero=>simp[DataW.trod] at ht
    |succ m=>
     unfold DataW.trod at ht
     rw[hu] at ht
     split at ht<;>simp_all
     exact .bool b
   ·rename_i k k' z hu
    cases hk:decide (k=k') with
    |false=>simp[hk] at h
    | true=>
     have hk':k=k':=by simpa using hk
     subst hk'
     simp only[decide_true,cond_true,Option.some.injEq] at h
     subst h
     cases fuel with
     |zero=>simp[DataW.trod] at ht
     |succ m=>
      unfold DataW.trod at ht
      rw[hu] at ht
      split at ht<;>simp_all
      obtain ⟨⟨rfl,_⟩,rfl,rfl⟩:=ht
      exact .int _ _
   ·rename_i b hu
    cases h
    obtain ⟨s,rfl,hx⟩:=trod_s hu ht
    simp only[DataW.lit.injEq,Lit.string.injEq] at hx
    subst hx
    exact ⟨rfl,fun i hi=>by
     obtain rfl:i=0:=by simpa using hi
     exact .str s⟩
   ·rename_i fs ds hu
    obtain ⟨xs,m,_,hx,hcl,hxl,hfs⟩:=DataW.trod_struct hu ht
    simp only[Prod.mk.injEq,DataW.agg.injEq] at hx
    have:=ihP _ 0 _ ds as m cs xs h hx.1.symm (fun i q hq=>by
     simp only[List.getElem?_map,Option.map_eq_some_iff] at hq
     obtain ⟨f,hf,rfl⟩:=hq
     exact hfs i f (by simpa using hf)) hcl
    exact ⟨by omega,fun i hi=>by have:=this.2 i hi;rwa [Nat.zero_add] at this⟩
   ·rename_i k e ds hu
    obtain ⟨xs,m,_,hx,hcl,hxl,hfs⟩:=DataW.trod_array hu ht
    simp only[Prod.mk.injEq,DataW.agg.injEq] at hx
    have:=ihP _ 0 _ ds as m cs xs h hx.1.symm (fun i q hq=>by
     obtain ⟨h1,rfl⟩:=arrP_get k 0 i q hq
     have:=hfs i h1
     rwa [Nat.zero_add]) hcl
    exact ⟨by omega,fun i hi=>by have:=this.2 i hi;rwa [Nat.zero_add] at this⟩
   ·cases h
  ·cases ps with
   | nil=>
    cases ds with
    |cons _ _=>simp[litP] at h
    | nil=>
     simp only[litP] at h
     cases ho:off==tot with
     |false=>simp[ho] at h
     |true=>
      simp only[ho,cond_true,Option.some.injEq] at h
      subst h
      exact ⟨by simpa using ho,fun i hi=>by simp at hi⟩
   | cons q ps=>
    cases ds with
    |nil=>simp[litP] at h
    | cons d ds=>
     simp only[litP] at h
     cases ho:q.2==off with
     |false=>simp[ho] at h
     | true=>
      simp only[ho,cond_true] at h
      have ho':q.2=off:=by simpa using ho
      cases h1:litT P n q.1 d with
      |none=>simp[h1] at h
      | some a1=>
       cases h2:litP P n ps (off+P.cellsOf q.1) tot ds with
       |none=>simp[h1,h2] at h
       | some a2=>
        simp only[h1,h2,Option.some.injEq] at h
        subst h
        cases xs with
        |nil=>simp at hx
        | cons x xs=>
         simp only[List.map_cons,List.cons.injEq] at hx
         have hq:=hf 0 q rfl
         simp only[List.getElem?_cons_zero,ho'] at hq
         obtain ⟨l1,p1⟩:=ihT q.1 d a1 fuel _ x.2 h1 (by rw[hq,←hx.1])
         obtain ⟨l2,p2⟩:=ihP ps (off+P.cellsOf q.1) tot ds a2 fuel cs xs h2 hx.2 (fun i r hr=>by have:=hf (i+1) r (by simpa using hr);simpa using this) hc
         simp only[List.length_take,List.length_drop] at l1
         have l1':a1.length=P.cellsOf q.1:=by omega
         refine ⟨by rw[List.length_append];omega,fun i hi=> ?_⟩
         rw[List.length_append] at hi
         by_cases hlt:i<a1.length
         ·rw[nth_appL _ _ _ _ hlt]
          have:=p1 i hlt
          rw[List.getD_eq_getElem?_getD,List.getElem?_take_of_lt (by omega),List.getElem?_drop,←List.getD_eq_getElem?_getD] at this
          exact this
         ·have e:=nth_appR AV.junk a1 a2 (i-a1.length)
          rw[show a1.length+(i-a1.length)=i by omega] at e
          rw[e]
          have:=p2 (i-a1.length) (by omega)
          rwa [show off+P.cellsOf q.1+(i-a1.length)=off+i by omega] at this
def GlobL (P:Program):List (String×DataW Unit)→List (Nat×List AV)→Prop
 |[],[]=>True
 |x::l,p::gl=>(P.globalNamed x.1=some p.1∧(∃t,(P.globals[p.1]?).map (·.type)=some t∧litT P 40 t x.2=some p.2)∧p.2.isEmpty=false)∧GlobL P l gl
 |_,_=>False
theorem glob_list {P:Program} {w:World}:∀(laid:List (String×DataW Unit)) (ps:List MemPlace) (gl:List (Nat×List AV)),DataW.LaidVars P w laid ps→GlobL P laid gl→∀p,p∈gl→PV w (fun B=>B<w.heap.size) (.rptr p.2 0) (.pointer (some ⟨p.1,0,none⟩))
 |[],_,[],_,_,p,hp=>by cases hp
 |[],_,_::_,_,h,_,_=>absurd h id
 |_::_,_,[],_,h,_,_=>absurd h id
 | x::l,ps,q::gl,h,hg,p,hp=>by
  obtain ⟨g,t,cs,fuel,pl,ql,h1,h2,h3,h4,h5,_⟩:=h
  obtain ⟨⟨g1,⟨t',g2,g3⟩,g4⟩,g5⟩:=hg
  rcases List.mem_cons.1 hp with rfl|hp
  ·have e1:g=p.1:=Option.some.inj (h1.symm.trans g1)
   subst e1
   obtain rfl:=Option.some.inj (h2.symm.trans g2)
   obtain ⟨hl,hpv⟩:=(lit_sound (S:=fun B=>B<w.heap.size) 40).1 t x.2 p.2 fuel cs.toList pl g3 h4
   have hcell:=World.var?_cell h1 h3
   have hne:0<p.2.length:=by
    cases hp2:p.2 with
    |nil=>rw[hp2] at g4;simp at g4
    |cons _ _=>simp
   simp only[Array.length_toList] at hl
   have h0:=hcell 0
   rw[Array.getElem?_eq_getElem (by omega)] at h0
   obtain ⟨_,hlt⟩:=cell_spot h0
   refine .rptr p.2 0 p.1 0 (fun i=>cs.getD i undef) hlt (fun i hi=> ?_) fun i hi=> ?_
   ·rw[Nat.zero_add,hcell i,Array.getElem?_eq_getElem (by omega),Array.getD_eq_getD_getElem?,Array.getElem?_eq_getElem (by omega)]
    rfl
   ·have:=hpv i hi
    rw[List.getD_eq_getElem?_getD] at this
    rw[Array.getD_eq_getD_getElem?]
    simpa using this
  ·exact glob_list l ql gl h5 g5 p hp
theorem glob_of [Globs] {P:Program} {w:World} {laid:List (String×DataW Unit)} (h:laidMet P laid w) (hg:GlobL P laid Globs.gl):GlobOk w (fun B=>B<w.heap.size):=by
 obtain ⟨ps,h1,_⟩:=h
 exact glob_list laid ps _ h1 hg
end Go.Abs
