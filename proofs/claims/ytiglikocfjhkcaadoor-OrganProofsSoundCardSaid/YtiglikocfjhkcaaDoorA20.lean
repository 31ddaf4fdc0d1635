/- What a law is handed: plain values, out of the kit's reading of arguments. -/
import Derived.Test.YtiglikocfjhkcaaDoorA18
import Derived.Carry
import Derived.ChangeArms
import Derived.OpenShut
import Derived.SizedLaws
import Derived.ChangeShapes
set_option linter.all false
set_option linter.unusedVariables false
set_option linter.unusedSimpArgs false
namespace Go.Abs
open Go.RowKit (Below)
def wfT (P:Program):(k:CK)→CT k→Prop
 | .bool,_=>True
 | .int k,n=> @LE.le Int _ k.min n∧ @LE.le Int _ n k.max
 | .str,s=>List.length (α:=UInt8) s≤140737488351232
 | .slice e k,xs=>List.length (α:=CT k) xs*P.bytesOf e≤140737488351232∧List.length (α:=CT k) xs≤maxLen∧∀x, @Membership.mem (CT k) (List (CT k)) _ xs x→wfT P k x
 | .map _ _ _ _,_=>True
 | .pair a b,x=>wfT P a x.1∧wfT P b x.2
 | .other,_=>True
mutual
def okT (P:Program):Nat→TypeId→Bool
 |0,_=>false
 |d+1,t=>
  match P.underlying t with
  |some .bool=>true
  |some (.int _)=>true
  |some .string=>true
  |some (.slice e)=>okT P d e&&((ckOf P d e).length==P.cellsOf e&&Nat.blt 0 (P.cellsOf e))
  |some (.struct fs)=>okF P d fs.toList 0&&((ckFields P d (fs.toList.map (·.type))).length==P.cellsOf t)
  |_=>false
def okF (P:Program):Nat→List Field→Nat→Bool
 |0,_,_=>false
 |_+1,[],_=>true
 |d+1,f::fs,off=>f.offset==off&&(okT P d f.type&&((ckOf P d f.type).length==P.cellsOf f.type&&okF P d fs (off+P.cellsOf f.type)))
end
theorem ck_one {P:Program}:∀d:Nat,(∀t,∀k∈ckOf P d t,width k=1)∧(∀ts,∀k∈ckFields P d ts,width k=1)
 |0=>⟨fun t k h=>by simp[ckOf] at h,fun ts k h=>by cases ts<;>simp[ckFields] at h⟩
 | d+1=>by
  obtain ⟨i1,i2⟩:=ck_one (P:=P) d
  have rep:∀(n:Nat) (l:List CK),(∀k∈l,width k=1)→∀k∈ckRep n l,width k=1:=fun n l hl=>by
   induction n with
   |zero=>intro k h;simp[ckRep] at h
   |succ n ih=>intro k h;simp only[ckRep,List.mem_append] at h;exact h.elim (hl k) (ih k)
  refine ⟨fun t k h=> ?_,fun ts k h=> ?_⟩
  ·simp only[ckOf] at h
   split at h<;>first|(simp only[List.mem_singleton] at h;subst h;rfl)|exact i2 _ k h|exact rep _ _ (i1 _) k h
  ·cases ts with
   |nil=>simp[ckFields] at h
   |cons t ts=>simp only[ckFields,List.mem_append] at h;exact h.elim (i1 t k) (i2 ts k)
theorem width_kPair:∀ks:List CK,ks≠[]→(∀k∈ks,width k=1)→width (kPair ks)=ks.length
 |[],h,_=>absurd rfl h
 |[k],_,hk=>by simpa [kPair] using hk k (by simp)
 |k::k'::ks,_,hk=>by
  simp only[kPair,width,List.length_cons]
  rw[width_kPair (k'::ks) (by simp) (fun x hx=>hk x (List.mem_cons_of_mem _ hx)),hk k (by simp)]
  simp;omega
def CellK (P:Program) (k:CK) (a:AV):Prop:=∃y:CT k,enc k y=[a]∧wfT P k y
theorem pair_of {P:Program}:∀(ks:List CK) (as:List AV),ks≠[]→All2 (CellK P) ks as→∃y:CT (kPair ks),enc (kPair ks) y=as∧wfT P (kPair ks) y
 |[],_,h,_=>absurd rfl h
 |[k],[a],_,h=>h.1
 |[k],[],_,h=>absurd h id
 |[k],_::_::_,_,h=>absurd h.2 id
 |k::k'::ks,[],_,h=>absurd h id
 |k::k'::ks,a::as,_,h=>by
  obtain ⟨y,h1,h2⟩:=h.1
  obtain ⟨z,h3,h4⟩:=pair_of (k'::ks) as (by simp) h.2
  exact ⟨(y,z),by simp only[kPair,enc];rw[h1,h3];rfl,h2,h4⟩
section
variable {H:Type} {eh:TypeId×Value→H} {P:Program} {w:World} {base:Nat} {spare:Nat→Bool} {held:Bool} {S:Nat→Prop}
theorem mapM_cells {a:Addr} {n:Nat} {cs:List Value} (h:w.cells? base a n=some cs):cs.length=n∧∀j,j<n→w.cell? (a.add j)=cs[j]?:=by
 unfold World.cells? at h
 split at h
 ·have key:∀(l:List Nat) (out:List Value),l.mapM (fun i=>w.cell? (a.add i))=some out→out.length=l.length∧∀j,j<l.length→w.cell? (a.add (l.getD j 0))=out[j]?:=by
   intro l
   induction l with
   |nil=>intro out h;simp at h;subst h;simp
   |cons x l ih=>
    intro out h
    rw[List.mapM_cons] at h
    simp only[Option.pure_def,Option.bind_eq_bind,Option.bind_eq_some_iff,Option.some.injEq] at h
    obtain ⟨c,h1,cs,h2,rfl⟩:=h
    obtain ⟨q1,q2⟩:=ih cs h2
    refine ⟨by simp[q1],fun j hj=> ?_⟩
    cases j with
    |zero=>simpa using h1
    |succ j=>simpa using q2 j (by simpa using hj)
  obtain ⟨q1,q2⟩:=key _ _ h
  refine ⟨by simpa using q1,fun j hj=> ?_⟩
  have:=q2 j (by simpa using hj)
  simpa [List.getD_eq_getElem?_getD,hj] using this
 ·cases h
theorem cell_spot {a:Addr} {v:Value} (h:w.cell? a=some v):a.spot=none∧a.block<w.heap.size:=by
 unfold World.cell? at h
 split at h
 ·rename_i c t f hb
  have hlt:a.block<w.heap.size:=by
   rcases Nat.lt_or_ge a.block w.heap.size with h'|h'
   ·exact h'
   ·rw[Array.getElem?_eq_none h'] at hb;cases hb
  split at h
  ·cases h
  ·rename_i hs;exact ⟨by simpa using hs,hlt⟩
 ·cases h
theorem choose_list {α:Type} (n:Nat) (R:Nat→α→Prop) (h:∀i,i<n→∃a,R i a):∃l:List α,l.length=n∧∀(i:Nat) (hi:i<l.length),R i l[i]:=by
 induction n with
 |zero=>exact ⟨[],rfl,fun i hi=>by simp at hi⟩
 | succ n ih=>
  obtain ⟨l,h1,h2⟩:=ih fun i hi=>h i (by omega)
  obtain ⟨a,ha⟩:=h n (by omega)
  refine ⟨l++[a],by simp[h1],fun i hi=> ?_⟩
  by_cases hin:i<n
  ·rw[List.getElem_append_left (by omega)];exact h2 i (by omega)
  ·have:i=n:=by simp at hi;omega
   subst this
   rw[List.getElem_append_right (by omega)]
   simpa [h1] using ha
theorem weightsAll_mem {e:TypeId}:∀ {l:List (DataW H)} {x:DataW H},x∈l→∀n∈x.weights P e,n∈DataW.weightsAll P e l
 |d::r,x,hx,n,hn=>by
  simp only[DataW.weightsAll,List.mem_append]
  rcases List.mem_cons.1 hx with rfl|hx
  ·exact .inl hn
  ·exact .inr (weightsAll_mem hx n hn)
theorem trod_b {t:TypeId} {fuel:Nat} {cs:List Value} {x:DataW H×List MemPlace} (hu:P.underlying t=some .bool) (h:DataW.trod eh P w base spare held fuel t cs=some x):∃b,cs=[.bool b]:=by
 cases fuel with
 |zero=>simp[DataW.trod] at h
 |succ n=>
  unfold DataW.trod at h
  rw[hu] at h
  split at h<;>simp_all
theorem trod_i {t:TypeId} {k:IntKind} {fuel:Nat} {cs:List Value} {x:DataW H×List MemPlace} (hu:P.underlying t=some (.int k)) (h:DataW.trod eh P w base spare held fuel t cs=some x):∃n,cs=[.int k n]∧k.min≤n∧n≤k.max:=by
 cases fuel with
 |zero=>simp[DataW.trod] at h
 |succ m=>
  unfold DataW.trod at h
  rw[hu] at h
  split at h<;>simp_all
  obtain ⟨⟨rfl,hwf⟩,rfl⟩:=h
  simp only[Lit.wf,Bool.and_eq_true,decide_eq_true_eq] at hwf
  exact hwf
theorem trod_s {t:TypeId} {fuel:Nat} {cs:List Value} {x:DataW H×List MemPlace} (hu:P.underlying t=some .string) (h:DataW.trod eh P w base spare held fuel t cs=some x):∃s,cs=[.string s]∧x.1= .lit (.string s.data.toList):=by
 cases fuel with
 |zero=>simp[DataW.trod] at h
 |succ m=>
  unfold DataW.trod at h
  rw[hu] at h
  split at h<;>simp_all
  obtain ⟨_,rfl⟩:=h
  rfl
theorem read_T (hS:∀B,B<w.heap.size→S B):∀(d:Nat),
  (∀(t:TypeId) (fuel:Nat) (cs:List Value) (x:DataW H×List MemPlace),okT P d t=true→DataW.trod eh P w base spare held fuel t cs=some x→(x.1.weights P t).all (· ≤reachBytes)=true→
   ∃as,All2 (CellK P) (ckOf P d t) as∧All2 (PC w S) as cs)∧
  (∀(fs:List Field) (off n:Nat) (cs:List Value) (xs:List (DataW H×List MemPlace)),okF P d fs off=true→xs.length=fs.length→(∀(i:Nat) (f:Field),fs[i]?=some f→DataW.trod eh P w base spare held n f.type ((cs.drop f.offset).take (P.cellsOf f.type))=xs[i]?)→
   (DataW.weightsEach P (fs.map (·.type)) (xs.map (·.1))).all (· ≤reachBytes)=true→off+(ckFields P d (fs.map (·.type))).length≤cs.length→
   ∃as,All2 (CellK P) (ckFields P d (fs.map (·.type))) as∧All2 (PC w S) as ((cs.drop off).take (ckFields P d (fs.map (·.type))).length))
 |0=>⟨fun t fuel cs x h=>by simp[okT] at h,fun fs off n cs xs h=>by simp[okF] at h⟩
 | d + 1 =>by
  obtain ⟨ihT,ihF⟩:=read_T hS d
  refine ⟨fun t fuel cs x hok h hw=> ?_,fun fs off n cs xs hok hlen hf hw hfit=> ?_⟩
  ·simp only[okT] at hok
   simp only[ckOf]
   cases hu:P.underlying t with
   |none=>rw[hu] at hok;simp at hok
   | some ds=>
    rw[hu] at hok
    cases ds<;>simp only at hok⊢ <;>try (simp at hok;done)
    ·obtain ⟨b,rfl⟩:=trod_b hu h
     exact ⟨[.bool _],⟨⟨_,rfl,trivial⟩,trivial⟩,⟨⟨.bool _,rfl⟩,trivial⟩⟩
    ·obtain ⟨n,rfl,hwf⟩:=trod_i hu h
     exact ⟨[.int _ _],⟨⟨_,rfl,hwf⟩,trivial⟩,⟨⟨.int _ _,rfl⟩,trivial⟩⟩
    ·obtain ⟨s,rfl,hx⟩:=trod_s hu h
     rw[hx] at hw
     simp only[DataW.weights,List.all_cons,List.all_nil,Bool.and_true,decide_eq_true_eq] at hw
     exact ⟨[.str _],⟨⟨_,rfl,by simpa [wfT,reachBytes] using hw⟩,trivial⟩,⟨⟨.str _,rfl⟩,trivial⟩⟩
    ·rename_i e
     simp only[Bool.and_eq_true,beq_iff_eq,Nat.blt_eq] at hok
     obtain ⟨ho1,ho2,ho3⟩:=hok
     have hne:ckOf P d e≠[]:=fun h=>by rw[h] at ho2;simp at ho2;omega
     rcases DataW.trod_slice hu h with ⟨rfl,rfl⟩|⟨a,len,cap,elems,rest,n,hn,rfl,rfl,hb,hl,hm,hlen,hel,_,_⟩
     ·exact ⟨[.ro _ []],⟨⟨([]:List (CT (kPair (ckOf P d e)))),rfl,by simp[wfT]⟩,trivial⟩,⟨⟨.roNil _ none 0,rfl⟩,trivial⟩⟩
     ·simp only[DataW.weights,hu,List.all_cons,List.all_append,Bool.and_eq_true,decide_eq_true_eq,List.length_map] at hw
      obtain ⟨w1,w2,_⟩:=hw
      obtain ⟨ys,hyl,hys⟩:=choose_list len (fun i (y:CT (kPair (ckOf P d e)))=>wfT P _ y∧∃cells:List Value,cells.length=P.cellsOf e∧(∀j,j<P.cellsOf e→w.cell? ((a.add (i*P.cellsOf e)).add j)=cells[j]?)∧All2 (PC w S) (enc _ y) cells) fun i hi=>by
       have h1:=hel i hi
       have hi':i<elems.length:=by omega
       rw[List.getElem?_eq_getElem hi',Option.bind_eq_some_iff] at h1
       obtain ⟨cells,h2,h3⟩:=h1
       obtain ⟨c1,c2⟩:=mapM_cells h2
       obtain ⟨as,q1,q2⟩:=ihT e n cells _ ho1 h3 (by
        rw[List.all_eq_true] at w2⊢
        exact fun m hm=>w2 m (weightsAll_mem (List.mem_map.2 ⟨_,List.getElem_mem hi',rfl⟩) m hm))
       obtain ⟨y,y1,y2⟩:=pair_of _ _ hne q1
       exact ⟨y,y2,cells,c1,c2,by rw[y1];exact q2⟩
      have hwk:width (kPair (ckOf P d e))=P.cellsOf e:=by
       rw[←ho2]
       exact width_kPair _ hne ((ck_one d).1 e)
      refine ⟨[.ro _ ys],⟨⟨ys,rfl,⟨?_,by omega,fun y hy=> ?_⟩⟩,trivial⟩,⟨⟨?_,rfl⟩,trivial⟩⟩
      ·rw[hyl]
       have:len*P.bytesOf e≤(elems.length+rest.length)*P.bytesOf e:=Nat.mul_le_mul_right _ (by omega)
       simp only[reachBytes] at w1
       omega
      ·obtain ⟨i,hi,rfl⟩:=List.getElem_of_mem hy
       exact (hys i hi).1
      ·rcases Nat.eq_zero_or_pos len with h0|h0
       ·have:ys=[]:=List.eq_nil_of_length_eq_zero (by omega)
        subst this
        rw[h0]
        exact .roNil _ _ _
       ·obtain ⟨_,cells,k1,k2,k3⟩:=hys 0 (by omega)
        have hc0:=k2 0 ho3
        rw[List.getElem?_eq_getElem (by omega)] at hc0
        rw[show (a.add (0*P.cellsOf e)).add 0=a by simp[Addr.add]] at hc0
        obtain ⟨hab,hlt⟩:=cell_spot hc0
        obtain ⟨B,o,sp⟩:=a
        simp only at hab
        subst hab
        have hcell:∀i j,i<len→j<P.cellsOf e→∃u,w.cell? ⟨B,o+(i*P.cellsOf e+j),none⟩=some u∧PC w S (nth .junk (gt _ ys i) j) u:=fun i j hi hj=>by
         have hi2:i<ys.length:=by omega
         obtain ⟨_,cells,k1,k2,k3⟩:=hys i hi2
         have hcj:=k2 j hj
         rw[List.getElem?_eq_getElem (by omega)] at hcj
         simp only[Addr.add_lit,Nat.add_assoc] at hcj
         refine ⟨_,hcj,?_⟩
         have:=All2.get .junk undef k3 j (by rw[enc_length,hwk];exact hj)
         rw[nth_lt undef _ _ (by omega)] at this
         have hg:gt _ ys i=enc _ ys[i]:=by simp only[gt];rw[nth_lt _ _ _ hi2]
         rw[hg];exact this
        have hu2:∀i j,∃u,i<len→j<P.cellsOf e→w.cell? ⟨B,o+(i*P.cellsOf e+j),none⟩=some u∧PC w S (nth .junk (gt _ ys i) j) u:=fun i j=>by
         by_cases hi:i<len
         ·by_cases hj:j<P.cellsOf e
          ·obtain ⟨u,hu⟩:=hcell i j hi hj;exact ⟨u,fun _ _=>hu⟩
          ·exact ⟨undef,fun _ h=>absurd h hj⟩
         ·exact ⟨undef,fun h=>absurd h hi⟩
        refine .ro _ ys len B o cap (fun i j=>(hu2 i j).choose) hyl (hS B hlt) hl (fun i j hi hj=> ?_) (fun i j hi hj=> ?_) fun i j hi hj=> ?_
        ·rw[hwk] at hj⊢;exact ((hu2 i j).choose_spec hi hj).1
        ·rw[hwk] at hj;exact ((hu2 i j).choose_spec hi hj).2.2
        ·rw[hwk] at hj;exact ((hu2 i j).choose_spec hi hj).2.1
    ·rename_i fs
     simp only[Bool.and_eq_true,beq_iff_eq] at hok
     obtain ⟨xs,n,_,rfl,hcl,hxl,hfs⟩:=DataW.trod_struct hu h
     simp only[DataW.weights,hu] at hw
     obtain ⟨as,q1,q2⟩:=ihF fs.toList 0 n cs xs hok.1 (by simpa using hxl) (fun i f hf=>hfs i f (by simpa using hf)) hw (by rw[hok.2,hcl];omega)
     rw[List.drop_zero,hok.2,←hcl,List.take_length] at q2
     exact ⟨as,q1,q2⟩
  ·cases fs with
   |nil=>exact ⟨[],by simp[ckFields,All2],by simp[ckFields,All2]⟩
   | cons f fs=>
    simp only[okF,Bool.and_eq_true,beq_iff_eq] at hok
    obtain ⟨rfl,o1,o2,o3⟩:=hok
    cases xs with
    |nil=>simp at hlen
    |cons x xs=>
     simp only[List.map_cons,DataW.weightsEach,List.all_append,Bool.and_eq_true] at hw
     have hx:=hf 0 f rfl
     simp only[List.getElem?_cons_zero] at hx
     simp only[List.map_cons,ckFields,List.length_append] at hfit⊢
     obtain ⟨as,q1,q2⟩:=ihT f.type n _ x o1 hx hw.1
     obtain ⟨bs,r1,r2⟩:=ihF fs (f.offset+P.cellsOf f.type) n cs xs o3 (by simpa using hlen) (fun i g hg=>by have:=hf (i+1) g (by simpa using hg);simpa using this) hw.2 (by omega)
     refine ⟨as++bs,q1.append r1,?_⟩
     rw[o2,List.take_add,List.drop_drop]
     exact q2.append r2
end
end Go.Abs
