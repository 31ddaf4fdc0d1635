/- Aggregates; operations that make or write blocks. -/
import Derived.Test.YtiglikocfjhkcaaDoorA3
import Derived.Laws.AppendOwn
import Derived.Laws.MakeOwn
import Derived.Laws.OwnMore
set_option linter.all false
set_option linter.unusedVariables false
set_option linter.unusedSimpArgs false
namespace Go.Abs
variable [Globs]
open Go.RowKit (Below)
section
variable {H:List Blk} {μ:Nat→Value} {w:World} {S:Nat→Prop} {P:Program}
theorem mapM_run {α β:Type} {f:α→Sem β} {g:α→β}:∀(l:List α),(∀x∈l,(f x).run P w= .ok (g x) w)→(l.mapM f).run P w= .ok (l.map g) w
 |[],_=>by simp
 |x::l,h=>by
  rw[List.mapM_cons,Sem.run_bind,h x (by simp)]
  simp only[Result.andThen_ok,Sem.run_bind,mapM_run l (fun y hy=>h y (by simp[hy])),Sem.run_pure,List.map_cons]
theorem amapM_run {α β:Type} {f:α→Sem β} {g:α→β} (xs:Array α) (h:∀x∈xs.toList,(f x).run P w= .ok (g x) w):(xs.mapM f).run P w= .ok (xs.toList.map g).toArray w:=by
 rw[Array.mapM_eq_mapM_toList,Sem.run_map,mapM_run _ h]
 rfl
theorem cells_sound {v:AV} {u:Value} (h:VR H μ w S v u) (hv:isV v=true):(cellsA v).length=u.cells.size∧∀i,i<(cellsA v).length→VR H μ w S (nth .junk (cellsA v) i) (u.cells.getD i undef):=by
 have single:∀x y,VR H μ w S x y→(cellsA x)=[x]→y.cells= #[y]→(cellsA x).length=y.cells.size∧∀i,i<(cellsA x).length→VR H μ w S (nth .junk (cellsA x) i) (y.cells.getD i undef):=by
  intro x y hxy h1 h2
  rw[h1,h2]
  refine ⟨rfl,fun i hi=> ?_⟩
  obtain rfl:i=0:=by simpa using hi
  exact hxy
 cases h with
 |pv h=>
  cases h with
  |agg cs vs hl hc=>exact ⟨hl,fun i hi=> .pv (hc i hi)⟩
  |junk v=>simp[isV] at hv
  |bool b=>exact single _ _ (.pv (.bool b)) rfl rfl
  |int k n=>exact single _ _ (.pv (.int k n)) rfl rfl
  |str s=>exact single _ _ (.pv (.str s)) rfl rfl
  |nilp=>exact single _ _ (.pv .nilp) rfl rfl
  |nils=>exact single _ _ (.pv .nils) rfl rfl
  |nilm=>exact single _ _ (.pv .nilm) rfl rfl
  |nilf=>exact single _ _ (.pv .nilf) rfl rfl
  |nili=>exact single _ _ (.pv .nili) rfl rfl
  |zc A=>exact single _ _ (.pv (.zc A)) rfl rfl
  |rk k xs A n c h=>exact single _ _ (.pv (.rk k xs A n c h)) rfl rfl
  |rmapn=>exact single _ _ (.pv (.rmapn _ _ _ _)) rfl rfl
  |rmap ka va kk vk m B es clock q1 q2 q3 q4 q5 q6=>exact single _ _ (.pv (.rmap ka va kk vk m B es clock q1 q2 q3 q4 q5 q6)) rfl rfl
  |fn f=>exact single _ _ (.pv (.fn f)) rfl rfl
  |clo f cs vs hl hc=>simp[isV] at hv
  |roNil k A c=>exact single _ _ (.pv (.roNil k A c)) rfl rfl
  |ro k xs n B o c u a1 a2 a3 a4 a5 a6=>exact single _ _ (.pv (.ro k xs n B o c u a1 a2 a3 a4 a5 a6)) rfl rfl
  |rptr cs j B o u a1 a2 a3=>exact single _ _ (.pv (.rptr cs j B o u a1 a2 a3)) rfl rfl
 |ptr b off cs B h1 h2=>exact single _ _ (.ptr b off cs B h1 h2) rfl rfl
 |mp b B h1 h2=>exact single _ _ (.mp b B h1 h2) rfl rfl
 |it b I h1 h2=>exact single _ _ (.it b I h1 h2) rfl rfl
 |csl b off n cs B c h1 h2 h3=>exact single _ _ (.csl b off n cs B c h1 h2 h3) rfl rfl
 |eptr b ver i j r B o h1 h2 h3=>exact single _ _ (.eptr b ver i j r B o h1 h2 h3) rfl rfl
 |sl b ver off lw len r A c h1 h2 h3 h4 h5=>exact single _ _ (.sl b ver off lw len r A c h1 h2 h3 h4 h5) rfl rfl
 |tptr b ver p i j d B o h1 h2 h3=>exact single _ _ (.tptr b ver p i j d B o h1 h2 h3) rfl rfl
 |tsl b ver p d n A c h1 h2 h3=>exact single _ _ (.tsl b ver p d n A c h1 h2 h3) rfl rfl
 |agg cs vs hl hc=>exact ⟨hl,hc⟩
 |tup cs vs hl hc=>simp[isV] at hv
 |clo f cs vs hl hc=>simp[isV] at hv
 |when g v u hc _=>simp[isV] at hv
def CR (H:List Blk) (μ:Nat→Value) (w:World) (S:Nat→Prop) (cs:List AV) (vs:Array Value):Prop:=cs.length=vs.size∧∀i,i<cs.length→VR H μ w S (nth .junk cs i) (vs.getD i undef)
theorem splice_foldl (off:Nat):∀(l:List Value) (k:Nat) (cells:Array Value),off+k+l.length≤cells.size→
  (l.zipIdx k).foldl (fun cs (c:Value×Nat)=>cs.setIfInBounds (off+c.2) c.1) cells=(cells.toList.take (off+k)++l++cells.toList.drop (off+k+l.length)).toArray
 |[],k,cells,_=>by simp
 |v::l,k,cells,h=>by
  simp only[List.zipIdx_cons,List.foldl_cons]
  rw[splice_foldl off l (k+1) _ (by simp at h⊢;omega)]
  congr 1
  have e:=list_seg_step cells.toList (off+k) v l (by simp at h⊢;omega)
  simpa [Array.toList_setIfInBounds,Nat.add_assoc] using e
theorem CR.splice {cs:List AV} {vs:Array Value} (h:CR H μ w S cs vs) {c:List AV} {u:Array Value} (hc:CR H μ w S c u) {off:Nat} (hf:off+c.length≤cs.length):
  CR H μ w S (takeL cs off++c++dropL cs (off+c.length)) (vs.toList.take off++u.toList++vs.toList.drop (off+u.toList.length)).toArray:=by
 rw[takeL_eq,dropL_eq]
 have hu:u.toList.length=c.length:=by rw[Array.length_toList];exact hc.1.symm
 have hl:=h.1
 refine ⟨by simp[hu];omega,fun i hi=> ?_⟩
 have e:(vs.toList.take off++u.toList++vs.toList.drop (off+u.toList.length)).toArray.getD i undef=if i<off then vs.getD i undef else if i<off+c.length then u.getD (i-off) undef else vs.getD i undef:=by
  simp only[Array.getD_eq_getD_getElem?,List.getElem?_toArray,List.getElem?_append,List.length_append,List.length_take,Array.length_toList,hu,List.getElem?_take,List.getElem?_drop]
  rw[Nat.min_eq_left (by omega)]
  have hu':u.size=c.length:=hc.1.symm
  by_cases h1:i<off
  ·simp[h1,show i<off+c.length by omega]
  ·by_cases h2:i<off+c.length
   ·simp[h1,h2,show i<off+u.size by omega]
   ·simp[h1,h2,show ¬i<off+u.size by omega,hu',show off+c.length+(i-(off+c.length))=i by omega]
 rw[e,nth_append,nth_append]
 have ht:(cs.take off).length=off:=by simp;omega
 simp only[List.length_append,ht]
 by_cases h1:i<off
 ·rw[if_pos (by omega),if_pos h1,if_pos h1,nth_take _ _ _ _ h1]
  exact h.2 i (by omega)
 ·by_cases h2:i<off+c.length
  ·rw[if_pos h2,if_neg h1,if_neg h1,if_pos h2]
   exact hc.2 _ (by omega)
  ·rw[if_neg h2,if_neg h1,if_neg h2,nth_drop]
   have:off+c.length+(i-(off+c.length))=i:=by omega
   rw[this]
   refine h.2 i ?_
   simp at hi
   omega
theorem fill_sound {place:Nat→Option (Nat×Nat)}:∀ {parts:List (Nat×AV)} {vparts:List (Nat×Value)} {cs:List AV} {vs:Array Value} {out:List AV},
  CR H μ w S cs vs→parts.length=vparts.length→(∀i,i<parts.length→(nth (0, .junk) parts i).1=(nth (0,undef) vparts i).1∧VR H μ w S (nth (0, .junk) parts i).2 (nth (0,undef) vparts i).2)→fillA place cs parts=some out→
  ∃vout,Instr.fill place vs vparts=some vout∧CR H μ w S out vout
 |[],[],cs,vs,out,hc,_,_,h=>by
  simp only[fillA,Option.some.injEq] at h
  subst h
  exact ⟨vs,rfl,hc⟩
 |[],_::_,_,_,_,_,hl,_,_=>by simp at hl
 |_::_,[],_,_,_,_,hl,_,_=>by simp at hl
 | (i,x)::parts,(i',v)::vparts,cs,vs,out,hc,hl,hp,h=>by
  have h0:=hp 0 (by simp)
  simp only[nth] at h0
  obtain ⟨rfl,hv⟩:=h0
  simp only[fillA] at h
  cases hpl:place i with
  |none=>simp[hpl] at h
  | some p=>
   simp only[hpl] at h
   cases hcond:(isV x&&((cellsA x).length==p.2&&Nat.ble (p.1+p.2) cs.length)) with
   |false=>simp[hcond] at h
   |true=>
    rw[hcond] at h
    simp only[cond_true] at h
    simp only[Bool.and_eq_true,beq_iff_eq,Nat.ble_eq] at hcond
    obtain ⟨h1,h2,h3⟩:=hcond
    have hx:=cells_sound hv h1
    have hcr:CR H μ w S (cellsA x) v.cells:=hx
    have hs:=hc.splice hcr (off:=p.1) (by rw[h2];exact h3)
    rw[h2] at hs
    obtain ⟨vout,hf,ho⟩:=fill_sound hs (by simpa using hl) (fun j hj=>hp (j+1) (by simpa using hj)) h
    refine ⟨vout,?_,ho⟩
    have e1:v.cells.size=p.2:=by rw[←hx.1];exact h2
    have e2:¬(p.1+v.cells.size>vs.size):=by rw[e1,←hc.1];omega
    obtain ⟨off,size⟩:=p
    simp only at*
    have e3:=splice_foldl off v.cells.toList 0 vs (by simp;omega)
    simp only[Nat.add_zero] at e3
    simp only[Instr.fill,hpl,e1,ne_eq,not_true_eq_false,decide_false,Bool.false_or]
    rw[if_neg (by simp;omega)]
    rw[←hf]
    congr 1
    rw[←e3,←Array.foldl_toList,Array.toList_zipIdx]
theorem zeroA_run {t:TypeId} (h:isV (zeroA P t)=true):∃z inf,P.info? t=some inf∧(zeroValue t).run P w= .ok z w∧inf.zero=some z∧CR H μ w S (cellsA (zeroA P t)) z.cells:=by
 unfold zeroA at h
 cases hi:P.info? t with
 |none=>simp[hi,isV] at h
 | some inf=>
  cases hz:inf.zero with
  |none=>simp[hi,hz,isV] at h
  |some z=>
   simp only[hi,hz,Option.bind_some] at h
   refine ⟨z,inf,rfl,by simp[zeroValue,typeInfo,hi,hz],hz,?_⟩
   have hv:VR H μ w S (ofV 4 z) z:= .pv (ofV_sound w S 4 z)
   have:=cells_sound hv h
   simp only[zeroA,hi,hz,Option.bind_some]
   exact this
theorem buildE_run {t:TypeId} {parts:Array (Nat×Operand)} {ρ:Operand→Value} {f:Operand→AV} (hp:∀x∈parts.toList,VR H μ w S (f x.2) (ρ x.2)) (hc:(buildE P t (parts.toList.map fun p=>(p.1,f p.2))).chk=true):
  ∃u,(Instr.build t (parts.map fun (i,x)=>(i,ρ x))).run P w= .ok u w∧VR H μ w S (buildE P t (parts.toList.map fun p=>(p.1,f p.2))).val u:=by
 unfold buildE at hc⊢
 cases hf:fillA (placeOf P t) (cellsA (zeroA P t)) (parts.toList.map fun p=>(p.1,f p.2)) with
 |none=>simp[hf,Eff.bad] at hc
 | some out=>
  simp only[hf,Eff.v,Bool.and_eq_true] at hc⊢
  obtain ⟨hb,hz⟩:=hc
  obtain ⟨z,inf,hinf,hzr,_,hcr⟩:=zeroA_run (P:=P) (H:=H) (μ:=μ) (w:=w) (S:=S) hz
  have hrel:∀i,i<(parts.toList.map fun p=>(p.1,f p.2)).length→(nth (0,AV.junk) (parts.toList.map fun p=>(p.1,f p.2)) i).1=(nth (0,undef) (parts.map fun (i,x)=>(i,ρ x)).toList i).1∧
    VR H μ w S (nth (0,AV.junk) (parts.toList.map fun p=>(p.1,f p.2)) i).2 (nth (0,undef) (parts.map fun (i,x)=>(i,ρ x)).toList i).2:=by
   intro i hi
   have hi':i<parts.toList.length:=by simpa using hi
   rw[Array.toList_map,nth_lt _ _ _ hi,nth_lt _ _ _ (by simpa using hi')]
   simp only[List.getElem_map,true_and]
   exact hp _ (List.getElem_mem hi')
  have key:∀place,(∀i,place i=placeOf P t i)→∃vout,Instr.fill place z.cells (parts.map fun (i,x)=>(i,ρ x)).toList=some vout∧CR H μ w S out vout:=fun place hpl=>by
   have:place=placeOf P t:=funext hpl
   rw[this]
   exact fill_sound hcr (by simp) hrel hf
  unfold buildOk at hb
  cases hu:P.underlying t with
  |none=>simp[hu] at hb
  | some d=>
   cases d<;>simp only[hu] at hb<;>try (simp at hb;done)
   ·rename_i n e
    obtain ⟨ie,hie⟩:=Option.isSome_iff_exists.1 hb
    obtain ⟨vout,hf',hcr'⟩:=key (fun i=>some (i*P.cellsOf e,P.cellsOf e)) (fun i=>by simp[placeOf,hu])
    refine ⟨.agg vout,?_, .agg _ _ hcr'.1 hcr'.2⟩
    simp only[Instr.build,Sem.run_bind,hzr,Result.andThen_ok,run_underlying hu,Sem.run_pure,run_sizeOf hie,hf']
   ·rename_i fs
    have hall:=List.all_eq_true.1 hb
    have hpl:(fs.mapM fun f=>do pure (f.offset,←sizeOf f.type):Sem (Array (Nat×Nat))).run P w= .ok (fs.toList.map fun f=>(f.offset,P.cellsOf f.type)).toArray w:=by
     refine amapM_run fs fun x hx=> ?_
     obtain ⟨ix,hix⟩:=Option.isSome_iff_exists.1 (hall x hx)
     simp[run_sizeOf hix]
    obtain ⟨vout,hf',hcr'⟩:=key (fun i=>(fs.toList.map fun f=>(f.offset,P.cellsOf f.type)).toArray[i]?) (fun i=>by
     simp only[placeOf,hu,fieldOf,nth_get?]
     cases hfi:fs[i]? with
     |none=>simp[hfi]
     |some fd=>simp[hfi])
    refine ⟨.agg vout,?_, .agg _ _ hcr'.1 hcr'.2⟩
    simp only[Instr.build,Sem.run_bind,hzr,Result.andThen_ok,run_underlying hu,Sem.run_pure,hpl,hf']
theorem slT_spec {t:TypeId} (h:isSlT P t=true):∃e,P.underlying t=some (.slice e):=by
 unfold isSlT at h
 cases hu:P.underlying t with
 |none=>simp[hu] at h
 |some d=>cases d<;>simp[hu] at h⊢
theorem strT_spec {t:TypeId} (h:isStrT P t=true):P.underlying t=some .string:=by
 unfold isStrT at h
 cases hu:P.underlying t with
 |none=>simp[hu] at h
 |some d=>cases d<;>simp[hu] at h⊢
theorem HR.mapB {base:Nat→Prop} {b:Nat} (h:HR H μ w S base) {ka va:Bool} {kk vk:CK} {m:List (CT kk×CT vk)} (hb:nth .free H b= .map ka va kk vk m):∃B,μ b= .map (some B)∧base B∧¬S B∧MapAt w S ka va kk vk m B:=by
 have:=h.blk b
 rw[hb] at this
 exact this
theorem HR.mapD {base:Nat→Prop} {b:Nat} (h:HR H μ w S base) {d:MapD} (hb:mapD (nth .free H b)=some d):∃B,μ b= .map (some B)∧MapAt w S d.ka d.va d.kk d.vk d.m B:=by
 have hk:=h.blk b
 cases hx:nth .free H b<;>rw[hx] at hb hk<;>simp[Abs.mapD] at hb<;>subst hb
 ·obtain ⟨B,h1,_,h2⟩:=hk;exact ⟨B,h1,h2⟩
 ·obtain ⟨B,h1,_,_,h2⟩:=hk;exact ⟨B,h1,h2⟩
theorem All2.mk {α β:Type} {R:α→β→Prop} (d:α) (d':β):∀ {as:List α} {bs:List β},as.length=bs.length→(∀i,i<as.length→R (nth d as i) (nth d' bs i))→All2 R as bs
 |[],[],_,_=>trivial
 |[],_::_,h,_=>by simp at h
 |_::_,[],h,_=>by simp at h
 |a::as,b::bs,h,hr=>⟨hr 0 (by simp),All2.mk d d' (by simpa using h) fun i hi=>hr (i+1) (by simpa using hi)⟩
theorem PV.ofMap {ka va:Bool} {kk vk:CK} {m:List (CT kk×CT vk)} {B:Nat} (hS:S B) (h:MapAt w S ka va kk vk m B):PV w S (.rmap ka va kk vk m) (.map (some B)):=by
 obtain ⟨es,clock,h1,h2,h3⟩:=h
 exact .rmap ka va kk vk m B es clock hS h1 h2 h3.len (fun i hi=>(h3.get (dflt kk,dflt vk) default i hi).1) fun i hi=>(h3.get (dflt kk,dflt vk) default i hi).2
theorem pv_rmap {ka va:Bool} {kk vk:CK} {m:List (CT kk×CT vk)} {v:Value} (h:PV w S (.rmap ka va kk vk m) v):(v= .map none∧m=[])∨∃B,v= .map (some B)∧S B∧MapAt w S ka va kk vk m B:=by
 cases h with
 |rmapn=>exact .inl ⟨rfl,rfl⟩
 |rmap _ _ _ _ _ B es clock hS h1 h2 h3 h4 h5=>exact .inr ⟨B,rfl,hS,es,clock,h1,h2,All2.mk (dflt kk,dflt vk) default h3 fun i hi=>⟨h4 i hi,h5 i hi⟩⟩
theorem mapV_sound {base:Nat→Prop} (hh:HR H μ w S base) {x:AV} {v:Value} {d:MapD} (hv:VR H μ w S x v) (h:mapV H x=some d):(v= .map none∧d.m=[]∧isMpB x=false)∨∃B,v= .map (some B)∧MapAt w S d.ka d.va d.kk d.vk d.m B:=by
 cases x<;>simp[mapV] at h
 ·rename_i b
  obtain ⟨B,h1,h2⟩:=hh.mapD h
  refine .inr ⟨B,?_,h2⟩
  cases hv with
  |pv h=>cases h
  |mp _ B' _ hm=>rw[hm] at h1;exact h1
 ·subst h
  cases hv with
  |pv h=>
   rcases pv_rmap h with ⟨rfl,rfl⟩|⟨B,h1,_,h2⟩
   ·exact .inl ⟨rfl,rfl,rfl⟩
   ·exact .inr ⟨B,h1,h2⟩
theorem mapT_spec' {t:TypeId} (h:isMapT P t=true):∃k e,P.underlying t=some (.map k e):=by
 unfold isMapT at h
 cases hu:P.underlying t with
 |none=>simp[hu] at h
 |some d=>cases d<;>simp[hu] at h⊢
theorem lenE_run {base:Nat→Prop} {t:TypeId} {ty:TypeId} {x:AV} {v:Value} (hh:HR H μ w S base) (hv:VR H μ w S x v) (hc:(lenE P t H x).chk=true):∃u,(Builtin.len_ #[t] ty #[v]).run P w= .ok u w∧VR H μ w S (lenE P t H x).val u:=by
 unfold lenE at hc⊢
 cases x<;>simp only[Eff.bad,Eff.v] at hc⊢ <;>try (simp at hc;done)
 ·obtain ⟨s,rfl,rfl⟩:=vr_str hv
  rw[str_size]
  exact ⟨_,by simp[Builtin.len_,run_underlying (strT_spec hc)];rfl, .pv (.int _ _)⟩
 ·obtain ⟨e,he⟩:=slT_spec hc
  rw[vr_nils hv]
  exact ⟨_,by simp[Builtin.len_,run_underlying he];rfl, .pv (.int _ _)⟩
 ·obtain ⟨e,he⟩:=slT_spec hc
  obtain ⟨A,rfl⟩:=vr_zc hv
  exact ⟨_,by simp[Builtin.len_,run_underlying he];rfl, .pv (.int _ _)⟩
 ·rename_i b
  cases hbk:mapD (nth .free H b)<;>simp only[hbk] at hc⊢ <;>try (simp at hc;done)
  rename_i d
  obtain ⟨k,e,he⟩:=mapT_spec' hc
  obtain ⟨_,_,h0⟩|⟨B,rfl,es,clock,hg,_,hal⟩:=mapV_sound hh hv (show mapV H (.mp b)=some d from hbk)
  ·simp[isMpB] at h0
  have hl:d.m.length=es.size:=by simpa using hal.len
  refine ⟨.int .i64 es.size,by simp only[Builtin.len_];simp[run_underlying he,MapKept.run_getObj_map hg,goInt],?_⟩
  rw[hl]
  exact .pv (.int _ _)
 ·rename_i ka va kk vk m
  obtain ⟨k,e,he⟩:=mapT_spec' hc
  obtain ⟨rfl,hm0,_⟩|⟨B,rfl,es,clock,hg,_,hal⟩:=mapV_sound hh hv (show mapV H (.rmap ka va kk vk m)=some _ from rfl)
  ·simp only at hm0
   subst hm0
   exact ⟨.int .i64 0,by simp only[Builtin.len_];simp[run_underlying he];rfl, .pv (.int _ _)⟩
  have hl:m.length=es.size:=by simpa using hal.len
  refine ⟨.int .i64 es.size,by simp only[Builtin.len_];simp[run_underlying he,MapKept.run_getObj_map hg,goInt],?_⟩
  rw[hl]
  exact .pv (.int _ _)
 ·rename_i b n
  obtain ⟨e,he⟩:=slT_spec hc
  cases hv with
  |pv h=>cases h
  |csl _ _ _ cs B c hb hm hnc=>exact ⟨_,by simp[Builtin.len_,run_underlying he];rfl, .pv (.int _ _)⟩
 ·simp only[Bool.and_eq_true] at hc
  obtain ⟨e,he⟩:=slT_spec hc.1
  cases hv with
  |pv h=>cases h
  |tsl _ _ _ d n A c hd hle h3=>
   have hver:=hc.2
   simp only[tabVer,hd,beq_iff_eq] at hver
   obtain ⟨_,_,hn,_⟩:=h3 hver.symm
   refine ⟨.int .i64 n,by simp[Builtin.len_,run_underlying he];rfl,?_⟩
   simp only[tabN,hd]
   rw[←hn]
   exact .pv (.int _ _)
 ·simp only[Bool.and_eq_true,beq_iff_eq] at hc
  obtain ⟨e,he⟩:=slT_spec hc.1
  cases hv with
  |pv h=>cases h
  |sl _ _ _ _ ln r A c hr _ _ _ hcur=>
   have hver:=hc.2
   obtain ⟨hwn,_,_⟩:=hcur (by simp[verOf,hr] at hver;exact hver.symm)
   refine ⟨.int .i64 ln,by simp[Builtin.len_,run_underlying he];rfl,?_⟩
   simp only[nOf,hr]
   rw[←hwn]
   exact .pv (.int _ _)
 ·obtain ⟨e,he⟩:=slT_spec hc
  obtain ⟨A,c,rfl,_⟩:=pv_ro_inv (vr_ro hv)
  exact ⟨_,by simp[Builtin.len_,run_underlying he];rfl, .pv (.int _ _)⟩
theorem sets_append (l l':List (Nat×Blk)):∀H:List Blk,sets H (l++l')=sets (sets H l) l':=by
 induction l with
 |nil=>intro H;rfl
 |cons x l ih=>intro H;simp[sets,ih]
theorem sets_length (l:List (Nat×Blk)):∀H:List Blk,(sets H l).length=H.length:=by
 induction l with
 |nil=>intro H;rfl
 |cons x l ih=>intro H;simp[sets,ih,put_length]
def setI (μ:Nat→Value) (b:Nat) (v:Value):Nat→Value:=fun i=>if i=b then v else μ i
structure Grow (w w':World):Prop where
 os:w'.os=w.os
 tape:w'.tape=w.tape
 output:w'.output=w.output
 size:w.heap.size≤w'.heap.size
 old:∀B,B<w.heap.size→w'.heap[B]?=w.heap[B]?
theorem HR.old {base:Nat→Prop} (hh:HR H μ w S base) {b B:Nat} (hb:nth .free H b≠ .free) (hB:Owns (μ b) B):B<w.heap.size:=by
 have h:=hh.blk b
 have row:∀ {base e k xs},RowV w base (PC w S) (μ b) e k xs→B<w.heap.size:=fun {base e k xs} hr=>by
  rcases hr with ⟨hz,_⟩|⟨B',o,cap,cur,hm,_,hg,_⟩
  ·rw[hz] at hB;simp[Owns,blkOf] at hB
  ·rw[hm] at hB
   simp only[Owns,blkOf,Option.some.injEq] at hB
   subst hB
   exact (Array.getElem?_eq_some_iff.1 hg).1
 cases hx:nth .free H b with
 |free=>exact absurd hx hb
 |cells cs=>
  rw[hx] at h
  obtain ⟨B',arr,t,hm,hg,_⟩:=h
  rw[hm] at hB
  simp only[Owns,blkOf,Option.some.injEq] at hB
  subst hB
  exact (Array.getElem?_eq_some_iff.1 hg).1
 |map ka va kk vk m=>
  rw[hx] at h
  obtain ⟨B',hm,_,_,es,clock,hg,_⟩:=h
  rw[hm] at hB
  simp only[Owns,blkOf,Option.some.injEq] at hB
  subst hB
  exact (Array.getElem?_eq_some_iff.1 hg).1
 |fmap ka va kk vk m=>
  rw[hx] at h
  obtain ⟨B',hm,_,es,clock,hg,_⟩:=h
  rw[hm] at hB
  simp only[Owns,blkOf,Option.some.injEq] at hB
  subst hB
  exact (Array.getElem?_eq_some_iff.1 hg).1
 |iter ka va kk vk rest cur=>
  rw[hx] at h
  obtain ⟨B',hm,_,_,_,es,clock,_,hg,_⟩:=h
  rw[hm] at hB
  simp only[Owns,blkOf,Option.some.injEq] at hB
  subst hB
  exact (Array.getElem?_eq_some_iff.1 hg).1
 |row ver e k xs=>rw[hx] at h;exact row h.2
 |fro ver e k xs=>rw[hx] at h;exact row h.2
 |tab fz ver iv e k os xs hole=>
  rw[hx] at h
  cases fz with
  |true=>exact (h.2.old hB).1
  |false=>exact (h.2.old hB).1
theorem Ext.setFree {b:Nat} {x:Blk} {v:Value} (hb:nth .free H b= .free):Ext H μ (put H b x) (setI μ b v):=by
 intro i
 by_cases hi:i=b
 ·subst hi
  exact ⟨fun cs h=>(by rw[hb] at h;cases h),fun r h=>(by rw[hb] at h;simp[rdOf] at h),fun h=>(by rw[hb] at h;cases h),fun h=>(by rw[hb] at h;cases h),fun d h=>(by rw[hb] at h;cases h)⟩
 ·have e:nth .free (put H b x) i=nth .free H i:=by rw[nth_put];rw[if_neg (by omega)]
  rw[e]
  exact ⟨fun cs h=>⟨cs,h,by simp[setI,hi]⟩,fun r h=>⟨r,h,rfl,Nat.le_refl _,fun _=>⟨rfl,by simp[setI,hi]⟩⟩,fun h=>⟨h,by simp[setI,hi]⟩,fun h=>⟨h,by simp[setI,hi]⟩,fun d h=>⟨d,h,Nat.le_refl _,Nat.le_refl _,fun p _=>by simpa [setI,hi] using SameP.refl d (μ i) p⟩⟩
theorem BlkR.keep {H':List Blk} {μ':Nat→Value} {w':World} {base:Nat→Prop} {b:Nat} {x:Blk} (h:BlkR H μ w S base b x) (he:Ext H μ H' μ') (hm:μ' b=μ b) (hw:∀B,Owns (μ b) B→w'.heap[B]?=w.heap[B]?) (hS:∀B,S B→w'.heap[B]?=w.heap[B]?):BlkR H' μ' w' S base b x:=by
 cases x with
 |free=>trivial
 |cells cs=>
  obtain ⟨B,arr,t,h1,h2,h3,h4,h5,h6⟩:=h
  exact ⟨B,arr,t,hm.trans h1,by rw[hw B (by rw[h1];rfl)];exact h2,h3,h4,h5,fun i hi=>(h6 i hi).mono he (fun _ h=>h) hS⟩
 |map ka va kk vk m=>
  obtain ⟨B,h1,h3,h4,h5⟩:=h
  exact ⟨B,hm.trans h1,h3,h4,h5.mono (fun _ h=>h) hS (hw B (by rw[h1];rfl))⟩
 |fmap ka va kk vk m=>
  obtain ⟨B,h1,h3,h5⟩:=h
  exact ⟨B,hm.trans h1,h3,h5.mono (fun _ h=>h) hS (hw B (by rw[h1];rfl))⟩
 |iter ka va kk vk rest cur=>
  obtain ⟨I,h1,h3,h4,h5⟩:=h
  exact ⟨I,hm.trans h1,h3,h4,h5.mono (fun _ h=>h) hS (hw I (by rw[h1];rfl))⟩
 |row ver e k xs=>exact ⟨by rw[hm];exact h.1,by rw[hm];exact h.2.imp (fun _ h=>h) hw (fun x y hp=>hp.mono (fun _ h=>h) hS)⟩
 |fro ver e k xs=>exact ⟨by rw[hm];exact h.1,by rw[hm];exact h.2.imp (fun _ h=>h) hw (fun x y hp=>hp.mono (fun _ h=>h) hS)⟩
 |tab fz ver iv e k os xs hole=>
  cases fz with
  |true=>exact ⟨by rw[hm];exact h.1,by rw[hm];exact h.2.imp (fun _ h=>h) hw (fun x y hp=>hp.mono (fun _ h=>h) hS)⟩
  |false=>exact ⟨by rw[hm];exact h.1,by rw[hm];exact h.2.imp (fun _ h=>h) hw (fun x y hp=>hp.mono (fun _ h=>h) hS)⟩
theorem GlobOk.mono {w':World} {S':Nat→Prop} (h:GlobOk w S) (hs:∀B,S B→S' B) (hw:∀B,S B→w'.heap[B]?=w.heap[B]?):GlobOk w' S':=fun p hp=>(h p hp).mono hs hw
theorem HR.setFree {base:Nat→Prop} {b:Nat} {x:Blk} {v:Value} {w':World} (hh:HR H μ w S base) (hb:nth .free H b= .free) (hlt:b<H.length) (hg:Grow w w') (hv:∀B,Owns v B→w.heap.size≤B)
  (hx:BlkR (put H b x) (setI μ b v) w' S base b x):HR (put H b x) (setI μ b v) w' S base:=by
 have hS:∀B,S B→w'.heap[B]?=w.heap[B]?:=fun B h=>hg.old B (hh.stab B h)
 refine ⟨fun i=> ?_,fun i i' B hi hi' hne hB hB'=> ?_,fun B h=>Nat.lt_of_lt_of_le (hh.stab B h) hg.size,hh.glob.mono (fun _ h=>h) hS⟩
 ·rw[nth_put]
  by_cases hi:b=i
  ·subst hi
   rw[if_pos ⟨rfl,hlt⟩];exact hx
  ·rw[if_neg (by omega)]
   by_cases hf:nth .free H i= .free
   ·rw[hf];trivial
   ·exact (hh.blk i).keep (Ext.setFree hb) (by simp[setI];omega) (fun B h=>hg.old B (hh.old hf h)) hS
 ·rw[nth_put] at hi hi'
  simp only[setI] at hB hB'
  have old:∀j B,j≠b→(nth .free H j).live→Owns (μ j) B→B<w.heap.size:=fun j B _ hj h=>hh.old (fun hf=>by rw[hf] at hj;exact hj) h
  by_cases h1:i=b
  ·by_cases h2:i'=b
   ·omega
   ·rw[if_pos h1] at hB
    rw[if_neg h2] at hB'
    rw[if_neg (by omega)] at hi'
    have:=hv B hB
    have:=old i' B h2 hi' hB'
    omega
  ·rw[if_neg h1] at hB
   rw[if_neg (by omega)] at hi
   by_cases h2:i'=b
   ·rw[if_pos h2] at hB'
    have:=hv B hB'
    have:=old i B h1 hi hB
    omega
   ·rw[if_neg h2] at hB'
    rw[if_neg (by omega)] at hi'
    exact hh.inj i i' B hi hi' hne hB hB'
theorem nth_put_ne {b i:Nat} {x:Blk} (h:i≠b):nth .free (put H b x) i=nth .free H i:=by rw[nth_put,if_neg (by omega)]
theorem nth_put_eq {b:Nat} {x:Blk} (h:b<H.length):nth .free (put H b x) b=x:=by rw[nth_put,if_pos ⟨rfl,h⟩]
theorem lt_of_live {b:Nat} (h:nth .free H b≠ .free):b<H.length:=by
 rcases Nat.lt_or_ge b H.length with h'|h'
 ·exact h'
 ·exact absurd (nth_ge _ _ _ h') h
theorem HR.change {base:Nat→Prop} {b:Nat} {x:Blk} {v:Value} {w':World} (hh:HR H μ w S base) (hb:(nth .free H b).live) (he:Ext H μ (put H b x) (setI μ b v)) (hsz:w.heap.size≤w'.heap.size)
  (hw:∀B,B<w.heap.size→¬Owns (μ b) B→w'.heap[B]?=w.heap[B]?) (hns:∀B,Owns (μ b) B→¬S B) (hv:∀B,Owns v B→Owns (μ b) B∨w.heap.size≤B)
  (hx:BlkR (put H b x) (setI μ b v) w' S base b x):HR (put H b x) (setI μ b v) w' S base:=by
 have hbf:nth .free H b≠ .free:=fun hf=>by rw[hf] at hb;exact hb
 have hS:∀B,S B→w'.heap[B]?=w.heap[B]?:=fun B h=>hw B (hh.stab B h) (fun e=>hns B e h)
 refine ⟨fun i=> ?_,fun i i' B hi hi' hne hB hB'=> ?_,fun B h=>Nat.lt_of_lt_of_le (hh.stab B h) hsz,hh.glob.mono (fun _ h=>h) hS⟩
 ·by_cases hi:i=b
  ·subst hi
   rw[nth_put_eq (lt_of_live hbf)];exact hx
  ·rw [nth_put_ne hi]
   by_cases hf:nth .free H i= .free
   ·rw[hf];trivial
   ·refine (hh.blk i).keep he (by simp[setI,hi]) (fun B h=> ?_) hS
    have hlt:=hh.old hf h
    by_cases hl:(nth .free H i).live
    ·exact hw B hlt (fun e=>hh.inj i b B hl hb hi h e)
    ·have hblk:=hh.blk i
     cases hx:nth .free H i with
     |fro ver e kk xs=>rw[hx] at hblk;exact hS B (hblk.1 B h)
     |fmap ka va kk vk m=>
      rw[hx] at hblk
      obtain ⟨B',q1,q2,_⟩:=hblk
      rw[q1] at h
      simp only[Owns,blkOf,Option.some.injEq] at h
      exact hS B (h▸q2)
     |free=>exact absurd hx hf
     |tab fz ver iv e k os xs hole=>
      cases fz with
      |true=>rw[hx] at hblk;exact hS B (hblk.1 B h)
      |false=>rw[hx] at hl;exact absurd trivial hl
     |_=>rw[hx] at hl;exact absurd trivial hl
 ·have old:∀j B,j≠b→(nth .free H j).live→Owns (μ j) B→B<w.heap.size:=fun j B _ hj h=>hh.old (fun hf=>by rw[hf] at hj;exact hj) h
  simp only[setI] at hB hB'
  by_cases h1:i=b
  ·by_cases h2:i'=b
   ·omega
   ·rw[if_pos h1] at hB
    rw[if_neg h2] at hB'
    rw[nth_put_ne h2] at hi'
    rcases hv B hB with h|h
    ·exact hh.inj i' b B hi' hb h2 hB' h
    ·have:=old i' B h2 hi' hB'
     omega
  ·rw[if_neg h1] at hB
   rw[nth_put_ne h1] at hi
   by_cases h2:i'=b
   ·rw[if_pos h2] at hB'
    rcases hv B hB' with h|h
    ·exact hh.inj i b B hi hb h1 hB h
    ·have:=old i B h1 hi hB
     omega
   ·rw[if_neg h2] at hB'
    rw[nth_put_ne h2] at hi'
    exact hh.inj i i' B hi hi' hne hB hB'
theorem Grow.alloc (w:World) (o:Obj):Grow w (w.alloc o):=⟨rfl,rfl,rfl,by simp,fun B h=>heap_alloc_old w o B h⟩
theorem Grow.refl (w:World):Grow w w:=⟨rfl,rfl,rfl,Nat.le_refl _,fun _ _=>rfl⟩
theorem Grow.below {w w':World} (h:Grow w w') {w0:World} {M:Nat→Prop} (hb:Kept M w0 w):Kept M w0 w':=
 hb.trans ⟨h.os,h.tape,h.output,h.size,fun k hk _=>h.old k hk⟩
theorem HR.newCells {base:Nat→Prop} {b:Nat} {cs:List AV} {arr:Array Value} {t:TypeId} (hh:HR H μ w S base) (hb:nth .free H b= .free) (hlt:b<H.length) (hbase:base w.heap.size) (hc:CR H μ w S cs arr):
  HR (put H b (.cells cs)) (setI μ b (.pointer (some ⟨w.heap.size,0,none⟩))) (w.alloc (.cells arr t)) S base:=by
 refine hh.setFree hb hlt (Grow.alloc _ _) (fun B h=>by simp only[Owns,blkOf,Option.some.injEq] at h;omega) ?_
 refine ⟨w.heap.size,arr,t,by simp[setI],heap_alloc_new w _,hbase,fun h=> ?_,hc.1.symm,fun i hi=>(hc.2 i hi).mono (Ext.setFree hb) (fun _ h=>h) fun B h=>(Grow.alloc w _).old B (hh.stab B h)⟩
 have:=hh.stab _ h
 omega
theorem HR.newRow {base:Nat→Prop} {b:Nat} {v:Value} {e:TypeId} {k:CK} {xs:List (CT k)} {w':World} (hh:HR H μ w S base) (hb:nth .free H b= .free) (hlt:b<H.length) (hg:Grow w w') (hv:∀B,Owns v B→w.heap.size≤B) (hr:RowV w' base (PC w' S) v e k xs):
  HR (put H b (.row 0 e k xs)) (setI μ b v) w' S base:=by
 refine hh.setFree hb hlt hg hv ⟨fun B h hS=> ?_,?_⟩
 ·simp only[setI,if_true] at h
  have:=hv B h
  have:=hh.stab B hS
  omega
 ·simpa [setI] using hr
theorem vr_newRow {b:Nat} {v:Value} {e:TypeId} {k:CK} {xs:List (CT k)} {w':World} {base:Nat→Prop} {R:AV→Value→Prop} (hlt:b<H.length) (hr:RowV w' base R v e k xs) (ver:Nat):
  VR (put H b (.row ver e k xs)) (setI μ b v) w' S (.sl b ver 0 none) v:=by
 rcases hr with ⟨rfl,rfl⟩|⟨B,o,cap,cur,rfl,_,_,hn,_⟩
 ·refine .sl _ _ _ _ 0 ⟨ver,e,k,[]⟩ none 0 (by rw[nth_put_eq hlt];rfl) (Nat.le_refl _) (Nat.le_refl _) (fun h=>absurd h (by omega)) fun _=>⟨rfl,by simp, .inl ⟨by simp[setI],rfl,rfl,rfl⟩⟩
 ·refine .sl _ _ _ _ xs.length ⟨ver,e,k,xs⟩ _ cap (by rw[nth_put_eq hlt];rfl) (Nat.le_refl _) hn (fun _=>⟨B,o,rfl⟩) fun _=>⟨rfl,by simp[Rd.n], .inr ⟨B,o,cap,⟨B,o,none⟩,by simp[setI,Rd.n],by omega,by simp,fun _=>by simp⟩⟩
def nilI (os:List TypeId) (k:CK):Value:=bif anyOwn os k then img (.slice none 0 0) 0 0 fun _ _=>undef else .slice none 0 0
theorem nilI_owns {os:List TypeId} {k:CK} {B:Nat}:¬Owns (nilI os k) B:=by
 unfold nilI
 cases anyOwn os k
 ·intro h;cases h
 ·intro h
  rcases (owns_img (by simp)).1 h with h|⟨i,j,hi,_⟩
  ·cases h
  ·omega
theorem HR.newNil {base:Nat→Prop} {os:List TypeId} {b:Nat} {e:TypeId} {k:CK} (hh:HR H μ w S base) (hb:nth .free H b= .free) (hlt:b<H.length):HR (put H b (rowK os e k [])) (setI μ b (nilI os k)) w S base:=by
 refine hh.setFree hb hlt (Grow.refl w) (fun B h=>absurd h nilI_owns) ?_
 have hno:∀B,¬Owns (setI μ b (nilI os k) b) B:=fun B h=>by simp only[setI,if_true] at h;exact nilI_owns h
 unfold rowK
 cases ho:anyOwn os k with
 |false=>exact ⟨fun B h=>absurd h (hno B),by simp only[setI,if_true,nilI,ho];exact .inl ⟨rfl,rfl⟩⟩
 |true=>exact ⟨fun B h=>absurd h (hno B),by simp only[setI,if_true,nilI,ho];exact .nil _ _ _ _ (by simp) rfl⟩
theorem vr_newNil {b:Nat} {os:List TypeId} {e:TypeId} {k:CK} (hlt:b<H.length):VR (put H b (rowK os e k [])) (setI μ b (nilI os k)) w S (rowA os k b) (.slice none 0 0):=by
 unfold rowK rowA nilI
 cases ho:anyOwn os k with
 |false=>exact vr_newRow (R:=fun _ _=>True) (base:=fun _=>True) (w':=w) hlt (.inl ⟨rfl,rfl⟩) 0
 |true=>exact .tsl b 0 [] ⟨0,0,e,k,os,[],none⟩ 0 none 0 (by rw[nth_put_eq hlt];rfl) (Nat.le_refl _) fun _=>⟨trivial,by simp[setI,hdAt,imgAt,hd_img],rfl,fun h=>absurd h (by omega)⟩
theorem promo_sound {base:Nat→Prop} {os:List TypeId}:∀(ks:List CK) (cs:List AV) (b:Nat) (H:List Blk) (μ:Nat→Value),HR H μ w S base→(∀i,b≤i→i<b+(promo os ks cs b).2.length→nth .free H i= .free∧i<H.length)→
  ∃μ',HR (sets H (promo os ks cs b).2) μ' w S base∧Ext H μ (sets H (promo os ks cs b).2) μ'∧(promo os ks cs b).1.length=cs.length∧
   (∀(u:Nat→Value),(∀i,i<cs.length→VR H μ w S (nth .junk cs i) (u i))→∀i,i<cs.length→VR (sets H (promo os ks cs b).2) μ' w S (nth .junk (promo os ks cs b).1 i) (u i))∧
   (∀i,i<b∨b+(promo os ks cs b).2.length≤i→nth .free (sets H (promo os ks cs b).2) i=nth .free H i∧μ' i=μ i)
 |[],cs,b,H,μ,hh,_=>⟨μ,hh,Ext.refl H μ,rfl,fun u h=>h,fun _ _=>⟨rfl,rfl⟩⟩
 |k::ks,[],b,H,μ,hh,_=>⟨μ,hh,Ext.refl H μ,rfl,fun u h=>h,fun _ _=>⟨rfl,rfl⟩⟩
 | k ::ks,c::cs,b,H,μ,hh,hf=>by
  by_cases hp:∃e k',k= .slice e k'∧c= .nils
  ·obtain ⟨e,sz,rfl,rfl⟩:=hp
   simp only[promo] at hf⊢
   have h0:=hf b (Nat.le_refl _) (by simp)
   have hh1:=hh.newNil (os:=os) (e:=e) (k:=sz) h0.1 h0.2
   have hx1:Ext H μ (put H b (rowK os e sz [])) (setI μ b (nilI os sz)):=Ext.setFree h0.1
   obtain ⟨μ',g1,g2,g3,g4,g5⟩:=promo_sound (os:=os) ks cs (b+1) (put H b (rowK os e sz [])) (setI μ b (nilI os sz)) hh1 (fun i h1 h2=>by
    have:=hf i (by omega) (by simp;omega)
    exact ⟨by rw[nth_put_ne (by omega)];exact this.1,by rw[put_length];exact this.2⟩)
   refine ⟨μ',g1,hx1.trans g2,by simp[g3],fun u hu i hi=> ?_,fun i hi=> ?_⟩
   ·cases i with
    |zero=>
     have:=hu 0 (by simp)
     simp only[nth] at this⊢
     rw[vr_nils this]
     exact (vr_newNil (S:=S) h0.2).mono g2 (fun _ h=>h) (fun _ _=>rfl)
    |succ i=>exact g4 (fun j=>u (j+1)) (fun j hj=>(hu (j+1) (by simpa using hj)).mono hx1 (fun _ h=>h) (fun _ _=>rfl)) i (by simpa using hi)
   ·simp only[List.length_cons] at hi
    obtain ⟨q1,q2⟩:=g5 i (by omega)
    have hne:i≠b:=by omega
    exact ⟨q1.trans (nth_put_ne hne),q2.trans (by simp[setI,hne])⟩
  ·have e1:promo os (k::ks) (c::cs) b=(c::(promo os ks cs b).1,(promo os ks cs b).2):=by
    cases k<;>cases c<;>first|rfl|exact absurd ⟨_,_,rfl,rfl⟩ hp
   rw[e1] at hf⊢
   simp only at hf⊢
   obtain ⟨μ',g1,g2,g3,g4,g5⟩:=promo_sound (os:=os) ks cs b H μ hh hf
   refine ⟨μ',g1,g2,by simp[g3],fun u hu i hi=> ?_,g5⟩
   cases i with
   |zero=>exact (hu 0 (by simp)).mono g2 (fun _ h=>h) (fun _ _=>rfl)
   |succ i=>exact g4 (fun j=>u (j+1)) (fun j hj=>hu (j+1) (by simpa using hj)) i (by simpa using hi)
def frz (g:Bool):Blk→Blk
 | .row ver e k xs=>bif g then .fro ver e k xs else .row ver e k xs
 | .map ka va kk vk m=>bif g then .fmap ka va kk vk m else .map ka va kk vk m
 | .tab fz ver iv e k os xs hole=>bif g then .tab true ver iv e k os xs hole else .tab fz ver iv e k os xs hole
 |x=>x
theorem mapD_frz (g:Bool) (x:Blk):mapD (frz g x)=mapD x:=by cases x<;>cases g<;>rfl
theorem isIterB_frz (g:Bool) (x:Blk):isIterB (frz g x)=isIterB x:=by cases x<;>cases g<;>rfl
theorem tabD_frz (g:Bool) (x:Blk):tabD (frz g x)=tabD x:=by cases x<;>cases g<;>rfl
theorem rd_frz (g:Bool) (x:Blk):rdOf (frz g x)=rdOf x:=by cases x<;>cases g<;>rfl
theorem frozenB_nth (l0:List Blk):∀(l:List Nat) (H:List Blk),(∀i,nth .free H i=nth .free l0 i∨∃g,nth .free H i=frz g (nth .free l0 i))→H.length=l0.length→
  ∀i,nth .free (sets H (frozenB l0 l)) i=frz (l.contains i) (nth .free H i)
 |[],H,_,_,i=>by cases h:nth .free H i<;>simp[frozenB,sets,h,frz]
 | b ::l,H,hH,hlen,i=>by
  have step:∀H',(∀i,nth .free H' i=nth .free l0 i∨∃g,nth .free H' i=frz g (nth .free l0 i))→H'.length=l0.length→(∀i,nth .free H' i=frz (i==b) (nth .free H i))→sets H (frozenB l0 (b::l))=sets H' (frozenB l0 l)→
    nth .free (sets H (frozenB l0 (b::l))) i=frz ((b::l).contains i) (nth .free H i):=by
   intro H' h1 h2 h3 h4
   rw[h4,frozenB_nth l0 l H' h1 h2 i,h3 i]
   have e:(b::l).contains i=(l.contains i||i==b):=by
    rw[List.contains_cons,Bool.or_comm]
   rw[e]
   cases hx:nth .free H i<;>cases l.contains i<;>cases (i==b)<;>rfl
  cases hb:nth .free l0 b with
  | row ver e k xs=>
   have hlt:b<l0.length:=lt_of_live (by rw[hb];simp)
   have hbH:nth .free H b= .row ver e k xs∨nth .free H b= .fro ver e k xs:=by
    rcases hH b with h|⟨g,h⟩
    ·exact .inl (h.trans hb)
    ·rw[hb] at h
     cases g
     ·exact .inl h
     ·exact .inr h
   refine step (put H b (.fro ver e k xs)) (fun j=> ?_) (by rw[put_length];exact hlen) (fun j=> ?_) (by simp[frozenB,hb,sets])
   ·by_cases hj:j=b
    ·subst hj
     exact .inr ⟨true,by rw[nth_put_eq (by omega),hb];rfl⟩
    ·rw[nth_put_ne hj];exact hH j
   ·by_cases hj:j=b
    ·subst hj
     rw[nth_put_eq (by omega)]
     rcases hbH with h|h<;>rw[h]<;>simp[frz]
    ·rw[nth_put_ne hj]
     have:(j==b)=false:=by simpa using hj
     rw[this]
     cases nth .free H j<;>rfl
  | map ka va kk vk m=>
   have hlt:b<l0.length:=lt_of_live (by rw[hb];simp)
   have hbH:nth .free H b= .map ka va kk vk m∨nth .free H b= .fmap ka va kk vk m:=by
    rcases hH b with h|⟨g,h⟩
    ·exact .inl (h.trans hb)
    ·rw[hb] at h
     cases g
     ·exact .inl h
     ·exact .inr h
   refine step (put H b (.fmap ka va kk vk m)) (fun j=> ?_) (by rw[put_length];exact hlen) (fun j=> ?_) (by simp[frozenB,hb,sets])
   ·by_cases hj:j=b
    ·subst hj
     exact .inr ⟨true,by rw[nth_put_eq (by omega),hb];rfl⟩
    ·rw[nth_put_ne hj];exact hH j
   ·by_cases hj:j=b
    ·subst hj
     rw[nth_put_eq (by omega)]
     rcases hbH with h|h<;>rw[h]<;>simp[frz]
    ·rw[nth_put_ne hj]
     have:(j==b)=false:=by simpa using hj
     rw[this]
     cases nth .free H j<;>rfl
  | tab fz ver iv e k os xs hole=>
   cases fz with
   | true=>
    refine step H hH hlen (fun j=> ?_) (by simp[frozenB,hb])
    by_cases hj:j=b
    ·subst hj
     have hx:nth .free H j= .tab true ver iv e k os xs hole:=by
      rcases hH j with h|⟨g,h⟩
      ·exact h.trans hb
      ·rw[h,hb];cases g<;>rfl
     rw[hx];simp[frz]
    ·have:(j==b)=false:=by simpa using hj
     rw[this]
     cases nth .free H j<;>rfl
   | false=>
    have hlt:b<l0.length:=lt_of_live (by rw[hb];simp)
    have hbH:nth .free H b= .tab false ver iv e k os xs hole∨nth .free H b= .tab true ver iv e k os xs hole:=by
     rcases hH b with h|⟨g,h⟩
     ·exact .inl (h.trans hb)
     ·rw[hb] at h
      cases g
      ·exact .inl h
      ·exact .inr h
    refine step (put H b (.tab true ver iv e k os xs hole)) (fun j=> ?_) (by rw[put_length];exact hlen) (fun j=> ?_) (by simp[frozenB,hb,sets])
    ·by_cases hj:j=b
     ·subst hj
      exact .inr ⟨true,by rw[nth_put_eq (by omega),hb];rfl⟩
     ·rw[nth_put_ne hj];exact hH j
    ·by_cases hj:j=b
     ·subst hj
      rw[nth_put_eq (by omega)]
      rcases hbH with h|h<;>rw[h]<;>simp[frz]
     ·rw[nth_put_ne hj]
      have:(j==b)=false:=by simpa using hj
      rw[this]
      cases nth .free H j<;>rfl
  | _=>
   refine step H hH hlen (fun j=> ?_) (by simp[frozenB,hb])
   by_cases hj:j=b
   ·subst hj
    have hx:nth .free H j=nth .free l0 j:=by
     rcases hH j with h|⟨g,h⟩
     ·exact h
     ·rw[hb] at h⊢;rw[h];rfl
    rw[hx,hb];rfl
   ·have:(j==b)=false:=by simpa using hj
    rw[this]
    cases nth .free H j<;>rfl
theorem Ext.frozen (l:List Nat):Ext H μ (sets H (frozenB H l)) μ:=by
 intro b
 have e:=frozenB_nth H l H (fun _=> .inl rfl) rfl b
 rw[e]
 refine ⟨fun cs h=>⟨cs,by rw[h];rfl,rfl⟩,fun r h=>⟨r,by rw[rd_frz];exact h,rfl,Nat.le_refl _,fun _=>⟨rfl,rfl⟩⟩,fun h=>⟨by simp only[isMapB,mapD_frz] at h⊢;exact h,rfl⟩,fun h=>⟨by rw[isIterB_frz];exact h,rfl⟩,fun d h=>⟨d,by rw[tabD_frz];exact h,Nat.le_refl _,Nat.le_refl _,fun p _=>SameP.refl d _ p⟩⟩
def isOwnB:Blk→Bool
 | .row .. =>true
 | .map .. =>true
 | .tab false .. =>true
 |_=>false
def SF (H:List Blk) (μ:Nat→Value) (S:Nat→Prop) (l:List Nat) (B:Nat):Prop:=S B∨∃b,b∈l∧isOwnB (nth .free H b)=true∧Owns (μ b) B
theorem HR.rowBase {base:Nat→Prop} {b B:Nat} (hh:HR H μ w S base) {ver:Nat} {e:TypeId} {k:CK} {xs:List (CT k)} (hb:nth .free H b= .row ver e k xs) (hB:Owns (μ b) B):base B:=by
 have h:=hh.blk b
 rw[hb] at h
 rcases h.2 with ⟨hz,_⟩|⟨B',o,cap,cur,hm,hbase,_⟩
 ·rw[hz] at hB;simp[Owns,blkOf] at hB
 ·rw[hm] at hB
  simp only[Owns,blkOf,Option.some.injEq] at hB
  subst hB
  exact hbase
theorem HR.ownBase {base:Nat→Prop} {b B:Nat} (hh:HR H μ w S base) (hb:isOwnB (nth .free H b)=true) (hB:Owns (μ b) B):base B:=by
 cases hx:nth .free H b with
 |row ver e k xs=>exact hh.rowBase hx hB
 |map ka va kk vk m=>
  obtain ⟨B',h1,h2,_⟩:=hh.mapB hx
  rw[h1] at hB
  simp only[Owns,blkOf,Option.some.injEq] at hB
  exact hB▸h2
 | tab fz ver iv e k os xs hole=>
  cases fz with
  |true=>rw[hx] at hb;cases hb
  |false=>
   have h:=hh.blk b
   rw[hx] at h
   exact (h.2.old hB).2
 |_=>rw[hx] at hb;simp[isOwnB] at hb
theorem own_live {x:Blk} (h:isOwnB x=true):x.live:=by cases x<;>first|trivial|(simp[isOwnB] at h;done)|(rename_i fz _ _ _ _ _ _ _;cases fz<;>first|trivial|cases h)
theorem own_free {b:Nat} (h:isOwnB (nth .free H b)=true):nth .free H b≠ .free:=fun e=>by rw[e] at h;simp[isOwnB] at h
theorem HR.frozen {base:Nat→Prop} (hh:HR H μ w S base) (l:List Nat):HR (sets H (frozenB H l)) μ w (SF H μ S l) base∧(∀B,SF H μ S l B→S B∨base B):=by
 have hn:=frozenB_nth H l H (fun _=> .inl rfl) rfl
 have hsub:∀B,S B→SF H μ S l B:=fun B h=> .inl h
 have notS:∀b B,(nth .free H b).live→(isOwnB (nth .free H b)=true→b∉l)→¬S B→Owns (μ b) B→¬SF H μ S l B:=by
  rintro b B hl hnr hS hB (h|⟨b',hb',hr,hB'⟩)
  ·exact hS h
  ·by_cases he:b=b'
   ·subst he;exact hnr hr hb'
   ·exact hh.inj b b' B hl (own_live hr) he hB hB'
 refine ⟨⟨fun b=> ?_,fun b b' B hb hb'=> ?_,fun B hB=> ?_,hh.glob.mono hsub fun _ _=>rfl⟩,fun B hB=> ?_⟩
 ·rw [hn b]
  have h:=hh.blk b
  cases hx:nth .free H b with
  |free=>trivial
  |cells cs=>
   rw[hx] at h
   obtain ⟨B,arr,t,h1,h2,h3,h4,h5,h6⟩:=h
   refine ⟨B,arr,t,h1,h2,h3,notS b B (by rw[hx];trivial) (by simp[hx,isOwnB]) h4 (by rw[h1];rfl),h5,fun i hi=>(h6 i hi).mono (Ext.frozen l) hsub (fun _ _=>rfl)⟩
  | map ka va kk vk m=>
   rw[hx] at h
   obtain ⟨B,h1,h3,h4,h5⟩:=h
   cases hc:l.contains b with
   |true=>
    have hm:b∈l:=by simpa using hc
    exact ⟨B,h1, .inr ⟨b,hm,by rw[hx];rfl,by rw[h1];rfl⟩,h5.mono hsub (fun _ _=>rfl) rfl⟩
   |false=>
    have hm:b∉l:=by simpa using hc
    exact ⟨B,h1,h3,notS b B (by rw[hx];trivial) (fun _=>hm) h4 (by rw[h1];rfl),h5.mono hsub (fun _ _=>rfl) rfl⟩
  |fmap ka va kk vk m=>
   rw[hx] at h
   obtain ⟨B,h1,h3,h5⟩:=h
   exact ⟨B,h1, .inl h3,h5.mono hsub (fun _ _=>rfl) rfl⟩
  |iter ka va kk vk rest cur=>
   rw[hx] at h
   obtain ⟨I,h1,h3,h4,h5⟩:=h
   exact ⟨I,h1,h3,notS b I (by rw[hx];trivial) (by simp[hx,isOwnB]) h4 (by rw[h1];rfl),h5.mono hsub (fun _ _=>rfl) rfl⟩
  | row ver e k xs=>
   rw[hx] at h
   cases hc:l.contains b with
   |true=>
    have hm:b∈l:=by simpa using hc
    exact ⟨fun B hB=> .inr ⟨b,hm,by rw[hx];rfl,hB⟩,h.2.imp (fun _ _=>trivial) (fun _ _=>rfl) (fun x y hp=>hp.mono hsub (fun _ _=>rfl))⟩
   |false=>
    have hm:b∉l:=by simpa using hc
    exact ⟨fun B hB=>notS b B (by rw[hx];trivial) (fun _=>hm) (h.1 B hB) hB,h.2.imp (fun _ h=>h) (fun _ _=>rfl) (fun x y hp=>hp.mono hsub (fun _ _=>rfl))⟩
  |fro ver e k xs=>
   rw[hx] at h
   exact ⟨fun B hB=> .inl (h.1 B hB),h.2.imp (fun _ h=>h) (fun _ _=>rfl) (fun x y hp=>hp.mono hsub (fun _ _=>rfl))⟩
  | tab fz ver iv e k os xs hole=>
   rw[hx] at h
   cases fz with
   |true=>
    have:BlkR (sets H (frozenB H l)) μ w (SF H μ S l) base b (.tab true ver iv e k os xs hole):=⟨fun B hB=> .inl (h.1 B hB),h.2.imp (fun _ h=>h) (fun _ _=>rfl) (fun x y hp=>hp.mono hsub (fun _ _=>rfl))⟩
    cases hc:l.contains b<;>exact this
   | false=>
    cases hc:l.contains b with
    |true=>
     have hm:b∈l:=by simpa using hc
     exact ⟨fun B hB=> .inr ⟨b,hm,by rw[hx];rfl,hB⟩,h.2.imp (fun _ _=>trivial) (fun _ _=>rfl) (fun x y hp=>hp.mono hsub (fun _ _=>rfl))⟩
    |false=>
     have hm:b∉l:=by simpa using hc
     exact ⟨fun B hB=>notS b B (by rw[hx];trivial) (fun _=>hm) (h.1 B hB) hB,h.2.imp (fun _ h=>h) (fun _ _=>rfl) (fun x y hp=>hp.mono hsub (fun _ _=>rfl))⟩
 ·have live:∀i,(nth .free (sets H (frozenB H l)) i).live→(nth .free H i).live:=fun i hi=>by
   rw[hn i] at hi
   cases hx:nth .free H i<;>rw[hx] at hi<;>first|trivial|(cases h:l.contains i<;>rw[h] at hi<;>exact hi)|exact hi|(cases h:l.contains i<;>rw[h] at hi<;>rename_i fz _ _ _ _ _ _ _<;>cases fz<;>first|trivial|exact hi|exact absurd hi id)
  exact hh.inj b b' B (live b hb) (live b' hb')
 ·rcases hB with h|⟨b,_,hr,hB⟩
  ·exact hh.stab B h
  ·exact hh.old (own_free hr) hB
 ·rcases hB with h|⟨b,_,hr,hB⟩
  ·exact .inl h
  ·exact .inr (hh.ownBase hr hB)
theorem RowV.toRo {w':World} {M S':Nat→Prop} {v:Value} {e:TypeId} {k:CK} {xs:List (CT k)} (h:RowV w' M (PC w' S) v e k xs) (hS:∀B,S B→S' B) (hb:∀B,Owns v B→S' B):PV w' S' (.ro k xs) v:=by
 rcases h with ⟨rfl,rfl⟩|⟨B,o,cap,cur,rfl,_,h2,h3,h4,h5,h6⟩
 ·exact .roNil k none 0
 ·refine .ro k xs xs.length B o cap (fun i j=>cur.getD (o+(i*width k+j)) undef) rfl (hb B rfl) h3 (fun i j hi hj=> ?_) (fun i j hi hj=>(h6 i hi j hj).2) fun i j hi hj=>(h6 i hi j hj).1.mono hS fun _ _=>rfl
  rw[cell_of_row w' B _ cur _ _ h2,Array.getD_eq_getD_getElem?]
  have hlt:o+(i*width k+j)<cur.size:=by
   have:(i+1)*width k≤cap*width k:=Nat.mul_le_mul_right _ (by omega)
   rw[Nat.add_mul] at this
   omega
  simp[hlt]
theorem TabV.toRo {M S':Nat→Prop} {os:List TypeId} {h:Option Pth} {e:TypeId} {k:CK} {xs:List (CT k)} {m:Value} (ht:TabV w M S os h e k xs m):h=none→(∀B,S B→S' B)→(∀B,Owns m B→S' B)→PV w S' (.ro k xs) (hd m):=by
 induction ht with
 |out=>intro h;cases h
 |nil h e k xs h1 h2=>intro _ _ _;subst h2;rw[hd_img];exact .roNil k none 0
 | row h e k xs n B o cap cur F a1 a2 a3 a4 a5 a6 a7 a8 a9 a10 a11 a12 ih=>
  intro hn hS hb
  subst hn
  rw[hd_img]
  refine .ro k xs n B o cap (fun i c=>cur.getD (o+(i*width k+c)) undef) a2 (hb B ((owns_img (by simp)).2 (.inl rfl))) a5 (fun i c hi hc=> ?_) (fun i c hi hc=> ?_) fun i c hi hc=> ?_
  ·rw[cell_of_row w B _ cur _ _ a4,Array.getD_eq_getD_getElem?]
   have hlt:o+(i*width k+c)<cur.size:=by
    have:(i+1)*width k≤cap*width k:=Nat.mul_le_mul_right _ (by omega)
    rw[Nat.add_mul] at this
    omega
   simp[hlt]
  ·cases ho:ownC os k c with
   |none=>exact (a8 i c hi hc ho).1.2
   |some ek=>exact (a10 i c ek.1 ek.2 hi hc ho).1
  ·cases ho:ownC os k c with
   |none=>exact (a8 i c hi hc ho).1.1.mono hS fun _ _=>rfl
   |some ek=>
    obtain ⟨⟨ys,q1⟩,_,_⟩:=ownC_ro (nth (dflt k) xs i) ho
    have e1:nth .junk (gt k xs i) c= .ro ek.2 ys:=q1
    have:=ih i c ek.1 ek.2 hi hc ho rfl hS fun B' hB'=>hb B' ((owns_img (by simp)).2 (.inr ⟨i,c,hi,hc,hB'⟩))
    rw[(a10 i c ek.1 ek.2 hi hc ho).2 (by rw[hsub_none];simp),e1]
    rw[e1,asL_ro] at this
    exact this
theorem view1_sound {base:Nat→Prop} (hh:HR H μ w S base) {v:AV} {u:Value} (h:VR H μ w S v u) {S':Nat→Prop} (hsub:∀B,S B→S' B) (hl:∀b∈refs1 v,∀r B,rdOf (nth .free H b)=some r→Owns (μ b) B→S' B) (hlm:∀b∈refs1 v,∀B,isMapB (nth .free H b)=true→Owns (μ b) B→S' B) (hlt:∀b∈refs1 v,∀d B,tabD (nth .free H b)=some d→Owns (μ b) B→S' B):PV w S' (view1 H v) u:=by
 cases h with
 |pv h=>
  have h':=h.mono hsub (w':=w) (fun _ _=>rfl)
  cases v<;>first|exact h'|exact .junk _|(cases h';done)|(cases h';assumption)
 |ptr b off cs B h1 h2=>exact .junk _
 | mp b B h1 h2=>
  simp only[view1]
  cases hb:mapD (nth .free H b) with
  |none=>exact .junk _
  |some d=>
   obtain ⟨B',q1,q2⟩:=hh.mapD hb
   have e:B'=B:=by rw[h2] at q1;simpa using q1.symm
   subst e
   exact .ofMap (hlm b (by simp[refs1]) B' h1 (by rw[h2];rfl)) (q2.mono hsub (fun _ _=>rfl) rfl)
 |it b I h1 h2=>exact .junk _
 |csl b off n cs B c h1 h2 h3=>exact .junk _
 |eptr b ver i j r B o h1 h2 h3=>exact .junk _
 |tptr=>exact .junk _
 | tsl b ver p d n A c h1 h2 h3=>
  simp only[view1,h1]
  cases hv:(ver==d.vp p)&&d.hole.isNone with
  |false=>exact .junk _
  |true=>
   simp only[Bool.and_eq_true,beq_iff_eq] at hv
   simp only[cond_true]
   obtain ⟨hpo,hdd, -, -⟩:=h3 hv.1
   have hol:d.hole=none:=by cases hq:d.hole<;>rw[hq] at hv<;>first|rfl|simp at hv
   have hS:=hlt b (by simp[refs1]) d
   have ht:=hh.tabB h1
   rw[hol] at ht
   obtain ⟨q1,q2⟩:=TabV.node p ⟨d.e,d.k,d.xs⟩ ht hpo
   have:=q1.toRo rfl hsub fun B hB=>hS B h1 (q2 B hB)
   rw[←hdd]
   exact this
 |agg cs vs hl hc=>exact .junk _
 |tup cs vs hl hc=>exact .junk _
 |clo f cs vs hl hc=>exact .junk _
 |when g v u hc _=>exact .junk _
 | sl b ver off lw len r A c hr hle hlc hA hcur=>
  simp only[view1,hr]
  cases hv:(ver==r.ver) with
  |false=>exact .junk _
  | true=>
   have e:ver=r.ver:=by simpa using hv
   obtain ⟨hwn,hfit,hs⟩:=hcur e
   have hwl:(win off lw r.xs).length=len:=by rw[win_length (by rw[show r.xs.length=r.n from rfl,←hwn];exact hfit)];exact hwn.symm
   have hrs:r.sz=width r.k:=rfl
   have hrn:r.n=r.xs.length:=rfl
   simp only[cond_true]
   rcases Nat.eq_zero_or_pos len with h0|h0
   ·have:win off lw r.xs=[]:=List.eq_nil_of_length_eq_zero (by omega)
    rw[this,h0];exact .roNil _ _ _
   ·rcases hs with ⟨_,_,hz,_⟩|⟨B,o,cap,A',hm,hfit',hv',hA'⟩
    ·omega
    ·simp only[Value.slice.injEq,true_and] at hv'
     obtain ⟨rfl,rfl⟩:=hv'
     have:=hA' (.inr (by omega))
     subst this
     rcases hh.rdB hr with ⟨hz,_⟩|⟨B2,o2,cap2,cur,hm2,_,hg,hn,_,hsz,hrow⟩
     ·rw[hz] at hm;simp at hm
     ·rw[hm] at hm2
      simp only[Value.slice.injEq,Option.some.injEq,Addr.mk.injEq,and_true,true_and] at hm2
      obtain ⟨⟨rfl,rfl⟩,_,rfl⟩:=hm2
      have hSB:S' B:=hl b (by simp[refs1]) r B hr (by rw[hm];rfl)
      refine .ro _ _ _ B _ _ (fun i j=>cur.getD (o+((off+i)*r.sz+j)) undef) hwl hSB (by omega) (fun i j hi hj=> ?_) (fun i j hi hj=>(hrow (off+i) (by omega) j hj).2) fun i j hi hj=>by
       rw[gt_win (by rw[←hrn,←hwn];exact hi)]
       exact (hrow (off+i) (by omega) j hj).1.mono hsub (fun _ _=>rfl)
      rw[←hrs] at hj⊢
      have e2:o+off*r.sz+(i*r.sz+j)=o+((off+i)*r.sz+j):=by rw[Nat.add_mul];omega
      have e3:o+((off+i)*r.sz+j)<cur.size:=by
       rw[hsz,←hrs]
       have h1:(off+i+1)*r.sz≤cap*r.sz:=Nat.mul_le_mul_right _ (by omega)
       rw[Nat.add_mul (off+i) 1] at h1
       omega
      rw[e2,cell_of_row w B _ cur _ (0,0) hg,Array.getD_eq_getD_getElem?,Array.getElem?_eq_getElem e3]
      rfl
end
end Go.Abs
