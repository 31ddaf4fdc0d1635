/- Maps: keys, and what operations do. -/
import Derived.Test.YtiglikocfjhkcaaDoorA5
import Derived.ChangeKeysEq
set_option linter.all false
set_option linter.unusedVariables false
set_option linter.unusedSimpArgs false
namespace Go.Abs
variable [Globs]
open Go.RowKit (Below)
def encV:(k:CK)→CT k→List Value
 | .bool,b=>[.bool b]
 | .int q,n=>[.int q n]
 | .str,s=>[.string ⟨⟨s⟩⟩]
 | .pair a b,x=>encV a x.1++encV b x.2
 | .slice _ _,_=>[undef]
 | .map _ _ _ _,_=>[undef]
 | .other,_=>[undef]
def keyV (ka:Bool) (k:CK) (x:CT k):Value:=bif ka then .agg (encV k x).toArray else (encV k x).getD 0 undef
theorem encV_length:∀(k:CK) (x:CT k),(encV k x).length=width k
 | .bool,_=>rfl
 | .int _,_=>rfl
 | .str,_=>rfl
 | .pair a b,x=>by simp[encV,width,encV_length a,encV_length b]
 | .slice _ _,_=>rfl
 | .map _ _ _ _,_=>rfl
 | .other,_=>rfl
theorem enc_length':∀(k:CK) (x:CT k),(enc k x).length=width k
 | .bool,_=>rfl
 | .int _,_=>rfl
 | .str,_=>rfl
 | .pair a b,x=>by simp[enc,width,enc_length' a,enc_length' b]
 | .slice _ _,_=>rfl
 | .map _ _ _ _,_=>rfl
 | .other,_=>rfl
section
variable {H:List Blk} {μ:Nat→Value} {w:World} {S:Nat→Prop} {P:Program} {w0:World} {S0:Sc}
theorem str_val {s:List UInt8} {u:Value} (h:VR H μ w S (.str s) u):u= .string ⟨⟨s⟩⟩:=by
 obtain ⟨b,rfl,rfl⟩:=vr_str h
 rfl
omit [Globs] in
theorem nth_appL {α:Type} (d:α):∀(l l':List α) (i:Nat),i<l.length→nth d (l++l') i=nth d l i
 |[],_,i,h=>by simp at h
 |_::_,_,0,_=>rfl
 |_::l,l',i+1,h=>nth_appL d l l' i (by simpa using h)
omit [Globs] in
theorem nth_appR {α:Type} (d:α):∀(l l':List α) (i:Nat),nth d (l++l') (l.length+i)=nth d l' i
 |[],_,i=>by simp
 |_::l,l',i=>by
  rw[show (List.length (_::l))+i=(l.length+i)+1 by simp;omega]
  exact nth_appR d l l' i
theorem encV_of:∀(k:CK) (x:CT k) (u:Nat→Value),keyC k=true→(∀i,i<width k→VR H μ w S (nth .junk (enc k x) i) (u i))→∀i,i<width k→u i=(encV k x).getD i undef
 | .bool,b,u,_,h,i,hi=>by
  obtain rfl:i=0:=by simp[width] at hi;exact hi
  exact vr_bool (h 0 hi)
 | .int q,n,u,_,h,i,hi=>by
  obtain rfl:i=0:=by simp[width] at hi;exact hi
  exact vr_int (h 0 hi)
 | .str,s,u,_,h,i,hi=>by
  obtain rfl:i=0:=by simp[width] at hi;exact hi
  exact str_val (h 0 hi)
 | .pair a b,x,u,hk,h,i,hi=>by
  simp only[keyC,Bool.and_eq_true] at hk
  simp only[width] at h hi
  simp only[enc,encV,List.getD_eq_getElem?_getD] at h⊢
  by_cases h1:i<width a
  ·rw[List.getElem?_append_left (by rw[encV_length];exact h1),←List.getD_eq_getElem?_getD]
   exact encV_of a x.1 u hk.1 (fun j hj=>by have:=h j (by omega);rwa [nth_appL _ _ _ _ (by rw[enc_length'];exact hj)] at this) i h1
  ·rw[List.getElem?_append_right (by rw[encV_length];omega),encV_length,←List.getD_eq_getElem?_getD]
   have:=encV_of b x.2 (fun j=>u (width a+j)) hk.2 (fun j hj=>by
    have:=h (width a+j) (by omega)
    have e:=nth_appR AV.junk (enc a x.1) (enc b x.2) j
    rw[enc_length'] at e
    rwa [e] at this) (i-width a) (by omega)
   have e2:u (width a+(i-width a))=(encV b x.2).getD (i-width a) undef:=this
   rw[show width a+(i-width a)=i by omega] at e2
   exact e2
theorem encV_vr:∀(k:CK) (x:CT k),keyC k=true→∀i,i<width k→VR H μ w S (nth .junk (enc k x) i) ((encV k x).getD i undef)
 | .bool,b,_,i,hi=>by
  obtain rfl:i=0:=by simp[width] at hi;exact hi
  exact .pv (.bool b)
 | .int q,n,_,i,hi=>by
  obtain rfl:i=0:=by simp[width] at hi;exact hi
  exact .pv (.int q n)
 | .str,s,_,i,hi=>by
  obtain rfl:i=0:=by simp[width] at hi;exact hi
  exact .pv (.str ⟨⟨s⟩⟩)
 | .pair a b,x,hk,i,hi=>by
  simp only[keyC,Bool.and_eq_true] at hk
  simp only[width] at hi
  simp only[enc,encV,List.getD_eq_getElem?_getD]
  by_cases h1:i<width a
  ·rw[List.getElem?_append_left (by rw[encV_length];exact h1),←List.getD_eq_getElem?_getD,nth_appL _ _ _ _ (by rw[enc_length'];exact h1)]
   exact encV_vr a x.1 hk.1 i h1
  ·rw[List.getElem?_append_right (by rw[encV_length];omega),encV_length,←List.getD_eq_getElem?_getD]
   have e:=nth_appR AV.junk (enc a x.1) (enc b x.2) (i-width a)
   rw[enc_length',show width a+(i-width a)=i by omega] at e
   rw[e]
   exact encV_vr b x.2 hk.2 (i-width a) (by omega)
theorem eqK_spec:∀(k:CK) (a b:CT k),keyC k=true→(eqK k a b=true↔a=b)
 | .bool,a,b,_=> @beq_iff_eq Bool _ _ a b
 | .int _,a,b,_=> @decide_eq_true_iff ((a:Int)=b) (Int.instDecidableEq a b)
 | .str,a,b,_=> @beq_iff_eq (List UInt8) _ _ a b
 | .pair p q,a,b,h=>by
  simp only[keyC,Bool.and_eq_true] at h
  simp only[eqK,Bool.and_eq_true,eqK_spec p a.1 b.1 h.1,eqK_spec q a.2 b.2 h.2]
  exact ⟨fun e=>Prod.ext e.1 e.2,fun e=>by rw[e];exact ⟨rfl,rfl⟩⟩
theorem keyV_of {ka:Bool} {k:CK} {x:CT k} {u:Value} (hk:keyC k=true) (hw:ka=true∨width k=1) (h:VR H μ w S (packB ka (enc k x)) u):u=keyV ka k x:=by
 cases ka with
 | true=>
  obtain ⟨vs,rfl,hl,hc⟩:=vr_agg (show VR H μ w S (.agg (enc k x)) u from h)
  rw[enc_length'] at hl hc
  have:=encV_of k x (fun i=>vs.getD i undef) hk hc
  simp only[keyV,cond_true]
  congr 1
  apply Array.ext
  ·simp[encV_length,←hl]
  ·intro i h1 h2
   have e:=this i (by omega)
   simp only[Array.getD_eq_getD_getElem?,Array.getElem?_eq_getElem h1,Option.getD_some,List.getD_eq_getElem?_getD] at e
   rw[List.getElem?_eq_getElem (by simpa using h2)] at e
   simpa using e
 |false=>
  have hw1:width k=1:=by simpa using hw
  exact encV_of k x (fun _ => u) hk (fun i hi => by obtain rfl:i=0:=by omega
                                                    exact h) 0 (by omega)
def findP {V:Type} (kk:CK) (k:CT kk):List (CT kk×V)→List MapEntry→Nat→Option (Nat×Value)
 |p::m,e::es,i=>bif eqK kk k p.1 then some (i,e.val) else findP kk k m es (i+1)
 |_,_,_=>none
def KeyR {V:Type} (ka:Bool) (kk:CK) (p:CT kk×V) (e:MapEntry):Prop:=e.key=keyV ka kk p.1
theorem findAsking_run {V:Type} {t:TypeId} {ka:Bool} {kk:CK} (he:∀a b,(Op.equal t (keyV ka kk a) (keyV ka kk b)).run P w= .ok (eqK kk a b) w) (k:CT kk):∀(m:List (CT kk×V)) (es:List MapEntry) (i:Nat),All2 (KeyR ka kk) m es→
  (Instr.findAsking t (keyV ka kk k) es i).run P w= .ok (findP kk k m es i) w
 |[],[],i,_=>by simp[Instr.findAsking,findP]
 |[],_::_,_,h=>absurd h id
 |_::_,[],_,h=>absurd h id
 |p::m,e::es,i,h=>by
  have h1:e.key=keyV ka kk p.1:=h.1
  unfold Instr.findAsking
  rw[Sem.run_bind,h1,he]
  simp only[Result.andThen_ok,findP]
  cases eqK kk k p.1 with
  |true=>simp
  |false=>simpa using findAsking_run he k m es (i+1) h.2
theorem findNow_eq {V:Type} {d:TypeDesc} {ka:Bool} {kk:CK} (he:∀a b,Instr.sameNow d (keyV ka kk a) (keyV ka kk b)=some (eqK kk a b)) (k:CT kk):∀(m:List (CT kk×V)) (es:List MapEntry) (i:Nat),All2 (KeyR ka kk) m es→
  Instr.findNow d (keyV ka kk k) es i=some (findP kk k m es i)
 |[],[],i,_=>by simp[Instr.findNow,findP]
 |[],_::_,_,h=>absurd h id
 |_::_,[],_,h=>absurd h id
 |p::m,e::es,i,h=>by
  have h1:e.key=keyV ka kk p.1:=h.1
  unfold Instr.findNow
  rw[h1,he]
  simp only[findP]
  cases eqK kk k p.1 with
  |true=>simp
  |false=>simpa using findNow_eq he k m es (i+1) h.2
theorem findP_spec {V:Type} {ka:Bool} {kk:CK} (k:CT kk):∀(m:List (CT kk×V)) (es:List MapEntry) (i:Nat),m.length=es.length→
  (findP kk k m es i=none∧hasM kk m k=false∧(∀d,getM kk d m k=d)∧∀v,insM kk m k v=m++[(k,v)])∨
  ∃j p e,findP kk k m es i=some (i+j,e.val)∧m[j]?=some p∧es[j]?=some e∧eqK kk k p.1=true∧hasM kk m k=true∧(∀d,getM kk d m k=p.2)∧∀v,insM kk m k v=m.set j (p.1,v)
 |[],[],i,_=> .inl ⟨rfl,rfl,fun _=>rfl,fun _=>rfl⟩
 |[],_::_,_,h=>by simp at h
 |_::_,[],_,h=>by simp at h
 | p::m,e::es,i,h=>by
  cases hk:eqK kk k p.1 with
  |true=>exact .inr ⟨0,p,e,by simp[findP,hk],rfl,rfl,hk,by simp[hasM,hk],fun d=>by simp[getM,hk],fun v=>by simp[insM,hk]⟩
  |false=>
   rcases findP_spec (ka:=ka) k m es (i+1) (by simpa using h) with ⟨h1,h2,h3,h4⟩|⟨j,p',e',h1,h2,h3,h4,h5,h6,h7⟩
   ·exact .inl ⟨by simp[findP,hk,h1],by simp[hasM,hk,h2],fun d=>by simp[getM,hk,h3],fun v=>by simp[insM,hk,h4]⟩
   ·exact .inr ⟨j+1,p',e',by simp[findP,hk,h1];omega,by simpa using h2,by simpa using h3,h4,by simp[hasM,hk,h5],fun d=>by simp[getM,hk,h6],fun v=>by simp[insM,hk,h7]⟩
structure KeyL (P:Program) (t:TypeId) (ka:Bool) (kk:CK):Prop where
 kc:keyC kk=true
 one:ka=true∨width kk=1
 check:∀w em a,(Instr.checkKey em 10000 t (keyV ka kk a)).run P w= .ok () w
 find:∀ {V:Type} w k (m:List (CT kk×V)) (es:List MapEntry),All2 (KeyR ka kk) m es→(Instr.findKey t (keyV ka kk k) es).run P w= .ok (findP kk k m es 0) w
theorem cellEq1:∀(k:CK),keyC k=true→width k=1→∀(a b:CT k),eqCellsOk [k] (enc k a) (enc k b)=true∧eqCells [k] (enc k a) (enc k b)=eqK k a b
 | .bool,_,_,a,b=>⟨rfl,by show (_&&true)=_;rw[Bool.and_true];rfl⟩
 | .int q,_,_,a,b=>⟨by simp[enc,eqCellsOk,isInt],by
   show (@BEq.beq Int _ a b&&true)= @decide (@Eq Int a b) (Int.instDecidableEq a b)
   rw[Bool.and_true];rfl⟩
 | .str,_,_,a,b=>⟨rfl,by show (_&&true)=_;rw[Bool.and_true];rfl⟩
 | .pair p q,_,h,_,_=>by
   have:=width_pos p
   have:=width_pos q
   simp only[width] at h
   omega
 | .slice e k,h,_,_,_=>by simp[keyC] at h
 | .map _ _ _ _,h,_,_,_=>by simp[keyC] at h
 | .other,h,_,_,_=>by simp[keyC] at h
theorem cellsEq:∀(ks:List CK),ks≠[]→ks.all keyC=true→(∀k∈ks,width k=1)→∀(a b:CT (kPair ks)),eqCellsOk ks (enc (kPair ks) a) (enc (kPair ks) b)=true∧eqCells ks (enc (kPair ks) a) (enc (kPair ks) b)=eqK (kPair ks) a b
 |[],h,_,_,_,_=>absurd rfl h
 |[k],_,hk,hw,a,b=>cellEq1 k (by simpa using hk) (hw k (by simp)) a b
 | k::k'::ks,_,hk,hw,a,b=>by
  simp only[List.all_cons,Bool.and_eq_true] at hk
  obtain ⟨h1,h2⟩:=cellEq1 k hk.1 (hw k (by simp)) a.1 b.1
  obtain ⟨h3,h4⟩:=cellsEq (k'::ks) (by simp) (by simp only[List.all_cons,Bool.and_eq_true];exact hk.2) (fun x hx=>hw x (List.mem_cons_of_mem _ hx)) a.2 b.2
  have hl:∀x:CT k,∃y,enc k x=[y]:=fun x=>by
   have:=enc_length' k x
   rw[hw k (by simp)] at this
   exact List.length_eq_one_iff.1 this
  obtain ⟨x,hx⟩:=hl a.1
  obtain ⟨y,hy⟩:=hl b.1
  have ea:enc (kPair (k::k'::ks)) a=x::enc (kPair (k'::ks)) a.2:=by
   show enc k a.1++_=_
   rw[hx];rfl
  have eb:enc (kPair (k::k'::ks)) b=y::enc (kPair (k'::ks)) b.2:=by
   show enc k b.1++_=_
   rw[hy];rfl
  rw[ea,eb]
  have h1':eqCellsOk [k] [x] [y]=true:=by rw[←hx,←hy];exact h1
  have h2':eqCells [k] [x] [y]=eqK k a.1 b.1:=by rw[←hx,←hy];exact h2
  simp only[eqCellsOk,eqCells,Bool.and_true] at h1' h2'⊢
  rw[h1',h2',h3,h4]
  exact ⟨rfl,rfl⟩
theorem flatK_w {fs:List Field} {i:Nat} (h:flatL P fs i=true):∀k∈flatK P fs,width k=1:=by
 induction fs generalizing i with
 |nil=>intro k hk;simp[flatK] at hk
 | cons f l ih=>
  simp only[flatL,Bool.and_eq_true] at h
  intro k hk
  simp only[flatK,List.mem_cons] at hk
  rcases hk with rfl|hk
  ·cases hu:P.underlying f.type with
   |none=>rfl
   |some d=>cases d<;>rfl
  ·exact ih h.2.2.2 k hk
theorem width_kPairM:∀(ks:List CK),ks≠[]→(∀k∈ks,width k=1)→width (kPair ks)=ks.length
 |[],h,_=>absurd rfl h
 |[k],_,h=>h k (by simp)
 |k::k'::ks,_,h=>by
  have h1:=h k (by simp)
  have h2:=width_kPairM (k'::ks) (by simp) (fun x hx=>h x (List.mem_cons_of_mem _ hx))
  show width k+width (kPair (k'::ks))=_
  rw[h1,h2];simp;omega
theorem flatK_length:∀(fs:List Field),(flatK P fs).length=fs.length
 |[]=>rfl
 |f::l=>by simp[flatK,flatK_length l]
def ckBody (em:Bool) (n:Nat) (vs:Array Value) (f:Field) (_:PUnit):Sem (ForInStep PUnit):=
 if f.name≠ "_" then do
  Instr.checkKey em n f.type (←part f.type vs f.offset)
  pure (ForInStep.yield PUnit.unit)
 else pure (ForInStep.yield PUnit.unit)
theorem check1 {t:TypeId} {em:Bool} {n:Nat} {v:Value} (h:(match P.underlying t with|some .bool=>true|some (.int _)=>true|some .string=>true|_=>false)=true):(Instr.checkKey em (n+1) t v).run P w= .ok () w:=by
 cases hu:P.underlying t with
 |none=>simp[hu] at h
 |some d=>cases d<;>simp[hu] at h<;>(unfold Instr.checkKey;rw[Sem.run_bind,run_underlying hu];simp)
theorem checkL {em:Bool} {n:Nat} {vs:Array Value}:∀(l:List Field) (i:Nat),flatL P l i=true→i+l.length≤vs.size→(forIn (m:=Sem) l PUnit.unit (ckBody em (n+1) vs)).run P w= .ok PUnit.unit w
 |[],_,_,_=>by simp
 | f::l,i,h,hs=>by
  simp only[flatL,Bool.and_eq_true,beq_iff_eq] at h
  obtain ⟨ho,hnm,hk,hf⟩:=h
  have hnm':f.name≠ "_" :=by simpa using hnm
  have ih:(forIn (m:=Sem) l PUnit.unit (ckBody em (n+1) vs)).run P w= .ok PUnit.unit w:=checkL l (i+1) hf (by simp only[List.length_cons] at hs;omega)
  have hu:∃dd,P.underlying f.type=some dd∧isAggT P f.type=false:=by
   cases hu:P.underlying f.type with
   |none=>simp[hu] at hk
   |some d=>cases d<;>simp[hu] at hk<;>exact ⟨_,rfl,by simp[isAggT,hu]⟩
  obtain ⟨dd,hdd,ha⟩:=hu
  have hlt:f.offset<vs.size:=by simp only[List.length_cons] at hs;omega
  have e:(ckBody em (n+1) vs f PUnit.unit).run P w= .ok (ForInStep.yield PUnit.unit) w:=by
   unfold ckBody
   simp only[hnm',ne_eq,not_false_eq_true,if_true,Sem.run_bind,run_part1 hdd ha hlt,Result.andThen_ok,check1 hk,Sem.run_pure]
  rw[List.forIn_cons,Sem.run_bind,e]
  simpa using ih
theorem flatK_w1:∀(fs:List Field),∀k∈flatK P fs,width k=1
 |[]=>by intro k hk;simp[flatK] at hk
 | f::l=>by
  intro k hk
  simp only[flatK,List.mem_cons] at hk
  rcases hk with rfl|hk
  ·cases hu:P.underlying f.type with
   |none=>rfl
   |some d=>cases d<;>rfl
  ·exact flatK_w1 l k hk
theorem arrF_length:∀(n:Nat) (e:TypeId),(arrF n e).length=n
 |0,_=>rfl
 |n+1,e=>by simp[arrF,arrF_length n e]
theorem arr_eq_run {H:List Blk} {μ:Nat→Value} {S:Nat→Prop} {vs us:Array Value} {d:Nat} {e:TypeId} (hs:scalT P e=true):∀(m i:Nat) (xs ys:List AV),eqCellsOk (flatK P (arrF m e)) xs ys=true→i+xs.length≤vs.size→i+ys.length≤us.size→
  (∀j,j<xs.length→VR H μ w S (nth .junk xs j) (vs.getD (i+j) undef))→(∀j,j<ys.length→VR H μ w S (nth .junk ys j) (us.getD (i+j) undef))→
  (Op.eqItems (d+1) e 1 vs us (List.range' i m)).run P w= .ok (eqCells (flatK P (arrF m e)) xs ys) w
 |0,i,xs,ys,_,_,_,_,_=>by simp[arrF,flatK,eqCells,Op.eqItems]
 | m +1,i,xs,ys,hok,hv,hu,hx,hy=>by
  cases xs with
  |nil=>simp[arrF,flatK,eqCellsOk] at hok
  | cons x xs=>
   cases ys with
   |nil=>simp[arrF,flatK,eqCellsOk] at hok
   | cons y ys=>
    simp only[List.length_cons] at hv hu hx hy
    have hx0:=hx 0 (by omega)
    have hy0:=hy 0 (by omega)
    simp only[nth,Nat.add_zero] at hx0 hy0
    simp only[arrF] at hok⊢
    obtain ⟨r,dd,hdd,ha,hrun,h2,he⟩:=cell_eq_run (d:=d) hx0 hy0 hok hs
    have ih:=arr_eq_run (vs:=vs) (us:=us) (d:=d) hs m (i+1) xs ys h2 (by omega) (by omega) (fun j hj=>by have:=hx (j+1) (by omega);rwa [show i+(j+1)=i+1+j by omega] at this)
     (fun j hj=>by have:=hy (j+1) (by omega);rwa [show i+(j+1)=i+1+j by omega] at this)
    rw[he]
    simp only[List.range'_succ,Op.eqItems,Nat.mul_one,Sem.run_bind]
    have hdd':P.underlying e=some dd:=hdd
    have ha':isAggT P e=false:=ha
    rw[run_part1 hdd' ha' (by omega),Result.andThen_ok,run_part1 hdd' ha' (by omega),Result.andThen_ok]
    have hrun':(Op.equalIn (d+1) e (vs.getD i undef) (us.getD i undef)).run P w= .ok r w:=hrun
    rw[hrun',Result.andThen_ok]
    cases r with
    |false=>simp
    |true=>simpa using ih
theorem arr_check {em:Bool} {n:Nat} {vs:Array Value} {e:TypeId} (hs:scalT P e=true) (hc:P.cellsOf e=1):∀(m i:Nat),i+m≤vs.size→
  (forIn (m:=Sem) (List.range' i m) PUnit.unit (fun j _=>do
   Instr.checkKey em (n+1) e (←part e vs (j*(←sizeOf e)))
   pure (ForInStep.yield PUnit.unit))).run P w= .ok PUnit.unit w
 |0,i,_=>by simp
 | m+1,i,h=>by
  have ih:=arr_check (em:=em) (n:=n) (vs:=vs) hs hc m (i+1) (by omega)
  have hu:∃dd,P.underlying e=some dd∧isAggT P e=false:=by
   unfold scalT at hs
   cases hu:P.underlying e with
   |none=>simp[hu] at hs
   |some d=>cases d<;>simp[hu] at hs<;>exact ⟨_,rfl,by simp[isAggT,hu]⟩
  obtain ⟨dd,hdd,ha⟩:=hu
  obtain ⟨ti,hti⟩:=info_of_underlying hdd
  rw[List.range'_succ,List.forIn_cons]
  simp only[Sem.run_bind,run_sizeOf hti,hc,Nat.mul_one,Result.andThen_ok,run_part1 hdd ha (show i<vs.size by omega),check1 hs,Sem.run_pure]
  exact ih
theorem keyC_kPair:∀(ks:List CK),ks≠[]→ks.all keyC=true→keyC (kPair ks)=true:=by
 intro ks
 induction ks with
 |nil=>intro h;exact absurd rfl h
 |cons k l ih=>
  intro _ h
  simp only[List.all_cons,Bool.and_eq_true] at h
  cases l with
  |nil=>exact h.1
  |cons k' l=>simp only[kPair,keyC,h.1,ih (by simp) h.2,Bool.and_self]
theorem keyLaw_of {t:TypeId} (h:keyOk P t=true):KeyL P t (isAggT P t) (kE P t):=by
 unfold keyOk at h
 cases hks:keyKs P t with
 |none=>simp[hks] at h
 | some ks=>
  simp only[hks,Bool.and_eq_true,decide_eq_true_eq] at h
  obtain ⟨h1,h2,h3,h4⟩:=h
  unfold keyKs at hks
  rw[h1]
  cases hu:P.underlying t with
  |none=>simp[hu] at hks
  | some d=>
   have scal:∀(k:CK),ks=[k]→isAggT P t=false→(match P.underlying t with|some .bool=>true|some (.int _)=>true|some .string=>true|_=>false)=true→keyC k=true→width k=1→(∀a b,Instr.sameNow d (keyV false k a) (keyV false k b)=some (eqK k a b))→KeyL P t (isAggT P t) (kPair ks):=by
    intro k hk ha hb hc hw hs
    subst hk
    rw[ha]
    refine ⟨hc, .inr hw,fun w em a=>check1 hb,fun {V} w k' m es hal=> ?_⟩
    unfold Instr.findKey
    rw[Sem.run_bind,run_underlying hu]
    have hn:Instr.findNow d (keyV false (kPair [k]) k') es 0=some (findP (kPair [k]) k' m es 0):=findNow_eq (kk:=k) hs k' m es 0 hal
    simp only[Result.andThen_ok,hn,Sem.run_pure]
   cases d<;>simp only[hu] at hks<;>try (cases hks;done)
   ·cases hks
    exact scal _ rfl (by simp[isAggT,hu]) (by simp[hu]) rfl rfl fun a b=>rfl
   ·rename_i q
    cases hks
    exact scal _ rfl (by simp[isAggT,hu]) (by simp[hu]) rfl rfl fun a b=>by
     show (if q=q then some (@BEq.beq Int _ a b) else none)=_
     rw[if_pos rfl];rfl
   ·cases hks
    exact scal _ rfl (by simp[isAggT,hu]) (by simp[hu]) rfl rfl fun a b=>by
     exact congrArg some (str_beq ⟨⟨a⟩⟩ ⟨⟨b⟩⟩).symm
   ·rename_i n e
    cases hfl:scalT P e&&(P.cellsOf e==1) with
    |false=>simp[hfl] at hks
    | true=>
     simp only[hfl,cond_true,Option.some.injEq] at hks
     subst hks
     simp only[Bool.and_eq_true,beq_iff_eq] at hfl
     obtain ⟨hsc,hce⟩:=hfl
     have hue:∃dd,P.underlying e=some dd:=by
      unfold scalT at hsc
      cases hu:P.underlying e with
      |none=>simp[hu] at hsc
      |some d=>exact ⟨d,rfl⟩
     obtain ⟨dd,hue⟩:=hue
     obtain ⟨ti,hti⟩:=info_of_underlying hue
     have ha:isAggT P t=true:=by simp[isAggT,hu]
     have hne:flatK P (arrF n e)≠[]:=by simpa using h2
     have hw:∀k∈flatK P (arrF n e),width k=1:=flatK_w1 _
     have hwid:=width_kPairM _ hne hw
     have hkc:keyC (kPair (flatK P (arrF n e)))=true:=keyC_kPair _ hne h3
     rw[ha]
     refine ⟨hkc, .inl rfl,fun w em a=> ?_,fun {V} w k' m es hal=> ?_⟩
     ·unfold Instr.checkKey
      rw[Sem.run_bind,run_underlying hu]
      simp only[Result.andThen_ok,keyV,cond_true]
      have hl:=arr_check (P:=P) (w:=w) (em:=em) (n:=9998) (vs:=(encV (kPair (flatK P (arrF n e))) a).toArray) hsc hce n 0 (by rw[List.size_toArray,encV_length,hwid,flatK_length,arrF_length];simp)
      simp only[Std.Legacy.Range.forIn_eq_forIn_range',Std.Legacy.Range.size,Nat.sub_zero,Nat.add_one_sub_one,Nat.div_one]
      rw[Sem.run_bind]
      refine (congrArg (fun z=>Result.andThen z _) hl).trans ?_
      simp
     ·have he:∀a b,(Op.equal t (keyV true (kPair (flatK P (arrF n e))) a) (keyV true (kPair (flatK P (arrF n e))) b)).run P w= .ok (eqK (kPair (flatK P (arrF n e))) a b) w:=fun a b=>by
       obtain ⟨q1,q2⟩:=cellsEq _ hne h3 hw a b
       have:=arr_eq_run (P:=P) (H:=[]) (μ:=fun _=>undef) (w:=w) (S:=fun _=>False) (d:=9998) (vs:=(encV (kPair (flatK P (arrF n e))) a).toArray) (us:=(encV (kPair (flatK P (arrF n e))) b).toArray) hsc n 0 (enc (kPair (flatK P (arrF n e))) a) (enc (kPair (flatK P (arrF n e))) b) q1 (by simp[enc_length',encV_length]) (by simp[enc_length',encV_length])
        (fun i hi=>by have:=encV_vr (H:=[]) (μ:=fun _=>undef) (w:=w) (S:=fun _=>False) _ a hkc i (by rwa [enc_length'] at hi);simpa using this)
        (fun i hi=>by have:=encV_vr (H:=[]) (μ:=fun _=>undef) (w:=w) (S:=fun _=>False) _ b hkc i (by rwa [enc_length'] at hi);simpa using this)
       rw[q2] at this
       show (Op.equalIn (9999+1) t (.agg _) (.agg _)).run P w=_
       rw[run_equalIn_array w 9999 _ _ hu hti,hce,List.range_eq_range']
       exact this
      unfold Instr.findKey
      rw[Sem.run_bind,run_underlying hu]
      simp only[Result.andThen_ok]
      cases es with
      |nil=>
       cases m with
       |nil=>simp[Instr.findNow,findP]
       |cons _ _=>exact absurd hal id
      | cons e' es=>
       have hn:Instr.findNow (.array n e) (keyV true (kPair (flatK P (arrF n e))) k') (e'::es) 0=none:=by
        simp[Instr.findNow,Instr.sameNow,keyV]
       rw[hn]
       exact findAsking_run he k' m (e'::es) 0 hal
   ·rename_i fs
    cases hfl:flatT P t with
    |false=>simp[hfl] at hks
    | true=>
     simp only[hfl,cond_true,Option.some.injEq] at hks
     subst hks
     obtain ⟨fs',hu',hst,hf,hfs⟩:=flat_spec hfl
     have ha:isAggT P t=true:=by simp[isAggT,hu]
     have hne:flatK P (fieldsOf P t)≠[]:=by simpa using h2
     have hw:∀k∈flatK P (fieldsOf P t),width k=1:=by rw[hfs];exact flatK_w hf
     have hwid:=width_kPairM _ hne hw
     have hkc:keyC (kPair (flatK P (fieldsOf P t)))=true:=by
      generalize flatK P (fieldsOf P t)=ks at hne h3
      have:∀(ks:List CK),ks≠[]→ks.all keyC=true→keyC (kPair ks)=true:=by
       intro ks
       induction ks with
       |nil=>intro h;exact absurd rfl h
       |cons k l ih=>
        intro _ h
        simp only[List.all_cons,Bool.and_eq_true] at h
        cases l with
        |nil=>exact h.1
        |cons k' l=>simp only[kPair,keyC,h.1,ih (by simp) h.2,Bool.and_self]
      exact this ks hne h3
     rw[ha]
     refine ⟨hkc, .inl rfl,fun w em a=> ?_,fun {V} w k' m es hal=> ?_⟩
     ·unfold Instr.checkKey
      rw[Sem.run_bind,run_underlying hu']
      simp only[Result.andThen_ok,keyV,cond_true]
      rw[←Array.forIn_toList]
      have hl:=checkL (P:=P) (w:=w) (em:=em) (n:=9998) (vs:=(encV (kPair (flatK P (fieldsOf P t))) a).toArray) fs'.toList 0 hf (by rw[List.size_toArray,encV_length,hwid,flatK_length,hfs];simp)
      rw[Sem.run_bind]
      refine (congrArg (fun z=>Result.andThen z _) hl).trans ?_
      simp
     ·have he:∀a b,(Op.equal t (keyV true (kPair (flatK P (fieldsOf P t))) a) (keyV true (kPair (flatK P (fieldsOf P t))) b)).run P w= .ok (eqK (kPair (flatK P (fieldsOf P t))) a b) w:=fun a b=>by
       obtain ⟨q1,q2⟩:=cellsEq _ hne h3 hw a b
       have:=agg_eq_run (P:=P) (H:=[]) (μ:=fun _=>undef) (w:=w) (S:=fun _=>False) (t:=t) (xs:=enc (kPair (flatK P (fieldsOf P t))) a) (ys:=enc (kPair (flatK P (fieldsOf P t))) b) (vs:=(encV (kPair (flatK P (fieldsOf P t))) a).toArray) (us:=(encV (kPair (flatK P (fieldsOf P t))) b).toArray) hfl (by simp[enc_length',encV_length])
        (fun i hi=>by have:=encV_vr (H:=[]) (μ:=fun _=>undef) (w:=w) (S:=fun _=>False) _ a hkc i (by rwa [enc_length'] at hi);simpa using this) (by simp[enc_length',encV_length])
        (fun i hi=>by have:=encV_vr (H:=[]) (μ:=fun _=>undef) (w:=w) (S:=fun _=>False) _ b hkc i (by rwa [enc_length'] at hi);simpa using this) q1
       rw[q2] at this
       exact this
      unfold Instr.findKey
      rw[Sem.run_bind,run_underlying hu']
      simp only[Result.andThen_ok]
      cases es with
      |nil=>
       cases m with
       |nil=>simp[Instr.findNow,findP]
       |cons _ _=>exact absurd hal id
      | cons e es=>
       have hn:Instr.findNow (.struct fs') (keyV true (kPair (flatK P (fieldsOf P t))) k') (e::es) 0=none:=by
        simp[Instr.findNow,Instr.sameNow,keyV]
       rw[hn]
       exact findAsking_run he k' m (e::es) 0 hal
end
end Go.Abs
