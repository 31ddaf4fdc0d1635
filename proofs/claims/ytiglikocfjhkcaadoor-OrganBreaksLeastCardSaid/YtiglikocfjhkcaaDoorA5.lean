/- Operations that make or write memory: what stands behind them. -/
import Derived.Test.YtiglikocfjhkcaaDoorA4
set_option linter.all false
set_option linter.unusedVariables false
set_option linter.unusedSimpArgs false
namespace Go.Abs
variable [Globs]
open Go.RowKit (Below)
section
variable {H:List Blk} {μ:Nat→Value} {w:World} {S:Nat→Prop} {P:Program} {w0:World} {S0:Sc} {os:List TypeId}
def FreeAt (H:List Blk) (b n:Nat):Prop:=∀i,i<n→nth .free H (b+i)= .free∧b+i<H.length
theorem FreeAt.zero {b n:Nat} (h:FreeAt H b n) (hn:0<n):nth .free H b= .free∧b<H.length:=by simpa using h 0 hn
theorem newVar_run (t:TypeId) (v:Value) (w:World):(newVar t v).run P w= .ok ⟨w.heap.size,0,none⟩ (w.alloc (.cells v.cells t)):=rfl
theorem box_after {base:Nat} {t:TypeId} {x:AV} {v:Value} (hr:RepAt w0 S0 H μ S w) (hf:FreeAt H base 1) (hv:VR H μ w S x v) (hx:isV x=true) {f:Eff} (hval:f.val= .ptr base 0) (hwr:f.wr=[(base, .cells (cellsA x))]):
  ∃u w',(Instr.box t v).run P w= .ok u w'∧After w0 S0 H μ S w f u w':=by
 obtain ⟨h0,hlt⟩:=hf.zero (by omega)
 have hc:=cells_sound hv hx
 have hh:=hr.hr.newCells (t:=t) h0 hlt (hr.fresh _ hr.below.size) hc
 refine ⟨.pointer (some ⟨w.heap.size,0,none⟩),w.alloc (.cells v.cells t),by simp[Instr.box,newVar_run],setI μ base (.pointer (some ⟨w.heap.size,0,none⟩)),S,?_,?_,fun _ h=>h,fun B h=>(Grow.alloc _ _).old B (hr.hr.stab B h),?_⟩
 ·rw[hwr]
  exact ⟨hh,(Grow.alloc _ _).below hr.below,hr.sub,hr.sup,hr.fresh,hr.pins.ext (Ext.setFree h0)⟩
 ·rw[hwr];exact Ext.setFree h0
 ·rw[hwr,hval]
  exact .ptr _ _ _ _ (nth_put_eq hlt) (by simp[setI])
theorem alloc_after {base:Nat} {t:TypeId} (hr:RepAt w0 S0 H μ S w) (hf:FreeAt H base 6) (hx:isV (zeroA P t)=true) (hn:(promo os (cks P t) (cellsA (zeroA P t)) (base+1)).2.length≤5) {f:Eff} (hval:f.val= .ptr base 0)
  (hwr:f.wr=(promo os (cks P t) (cellsA (zeroA P t)) (base+1)).2++[(base, .cells (promo os (cks P t) (cellsA (zeroA P t)) (base+1)).1)]):
  ∃u w',(Instr.alloc t true (.tuple #[])).run P w= .ok u w'∧After w0 S0 H μ S w f u w':=by
 obtain ⟨z,inf,hi,hz,_,hc⟩:=zeroA_run (P:=P) (H:=H) (μ:=μ) (w:=w) (S:=S) hx
 obtain ⟨h0,hlt⟩:=hf.zero (by omega)
 obtain ⟨μ',g1,g2,g3,g4,g5⟩:=promo_sound (os:=os) (cks P t) (cellsA (zeroA P t)) (base+1) H μ hr.hr (fun i h1 h2=>by
  have:=hf (i-base) (by omega)
  rw[show base+(i-base)=i by omega] at this
  exact this)
 have hb:=(g5 base (by omega)).1.trans h0
 have hlt':base<(sets H (promo os (cks P t) (cellsA (zeroA P t)) (base+1)).2).length:=by rw[sets_length];exact hlt
 have hc':CR (sets H (promo os (cks P t) (cellsA (zeroA P t)) (base+1)).2) μ' w S (promo os (cks P t) (cellsA (zeroA P t)) (base+1)).1 z.cells:=
  ⟨by rw[g3];exact hc.1,fun i hi=>by rw[g3] at hi;exact g4 (fun i=>z.cells.getD i undef) hc.2 i hi⟩
 have hh:=g1.newCells (t:=t) hb hlt' (hr.fresh _ hr.below.size) hc'
 refine ⟨.pointer (some ⟨w.heap.size,0,none⟩),w.alloc (.cells z.cells t),?_,setI μ' base (.pointer (some ⟨w.heap.size,0,none⟩)),S,?_,?_,fun _ h=>h,fun B h=>(Grow.alloc _ _).old B (hr.hr.stab B h),?_⟩
 ·simp only[Instr.alloc,Sem.run_bind,hz,Result.andThen_ok,newVar_run,Sem.run_pure]
 ·rw[hwr,sets_append]
  exact ⟨hh,(Grow.alloc _ _).below hr.below,hr.sub,hr.sup,hr.fresh,hr.pins.ext (g2.trans (Ext.setFree hb))⟩
 ·rw[hwr,sets_append];exact g2.trans (Ext.setFree hb)
 ·rw[hwr,sets_append,hval]
  exact .ptr _ _ _ _ (nth_put_eq hlt') (by simp[setI])
theorem nil_after {base:Nat} {e:TypeId} {k:CK} {v:Value} (hr:RepAt w0 S0 H μ S w) (hf:FreeAt H base 1) (hv:VR H μ w S .nils v) {f:Eff} (hval:f.val=rowA os k base) (hwr:f.wr=[(base,rowK os e k [])]):After w0 S0 H μ S w f v w:=by
 obtain ⟨h0,hlt⟩:=hf.zero (by omega)
 rw[vr_nils hv]
 have hh:=hr.hr.newNil (os:=os) (e:=e) (k:=k) h0 hlt
 refine ⟨setI μ base (nilI os k),S,?_,?_,fun _ h=>h,fun _ _=>rfl,?_⟩
 ·rw[hwr];exact ⟨hh,hr.below,hr.sub,hr.sup,hr.fresh,hr.pins.ext (Ext.setFree h0)⟩
 ·rw[hwr];exact Ext.setFree h0
 ·rw[hwr,hval];exact vr_newNil hlt
theorem cell1_one {c:AV} {u:Value} (h:VR H μ w S c u) (hc:cell1 c=true):u.oneCell'=true:=by
 cases h with
 |pv h=>cases h<;>first|rfl|simp[cell1,pure1] at hc
 |ptr _ _ _ _ _ _=>rfl
 |mp _ _ _ _=>rfl
 |it _ _ _ _=>rfl
 |csl _ _ _ _ _ _ _ _ _=>rfl
 |eptr _ _ _ _ _ _ _ _ _ _=>rfl
 |sl _ _ _ _ _ _ _ _ _ _ _ _=>rfl
 |tsl _ _ _ _ _ _ _ _ _ _=>rfl
 |tptr _ _ _ _ _ _ _ _ _ _ _=>rfl
 |agg _ _ _ _=>simp[cell1,pure1] at hc
 |tup _ _ _ _=>simp[cell1,pure1] at hc
 |clo _ _ _ _ _=>simp[cell1,pure1] at hc
 |when _ _ _ _ _=>simp[cell1,pure1] at hc
theorem storeVar_run {t:TypeId} {v:Value} {B o:Nat} {cur:Array Value} {ty:TypeId} (ht:P.cellsOf t≠0) (hs:v.cells.size=P.cellsOf t) (hg:w.heap[B]?=some (.cells cur ty (0,0))) (hf:o+P.cellsOf t≤cur.size) (h1:∀x∈v.cells.toList,x.oneCell'=true):
  (Instr.storeAt t (.pointer (some ⟨B,o,none⟩)) v).run P w= .ok () (w.setRow B (cur.toList.take o++v.cells.toList++cur.toList.drop (o+v.cells.toList.length)).toArray):=by
 obtain ⟨inf,hi⟩:=info_of_cells ht
 have hst:=run_storeCells_at P B o ty v.cells.toList 0 cur w hg (by simp;omega) h1
 simp only[Nat.add_zero] at hst
 simp only[Instr.storeAt,Instr.sureAddr,Sem.run_bind,Sem.run_pure,Result.andThen_ok,storeVar,run_sizeOf hi]
 rw[if_neg (by omega)]
 exact hst
theorem mem_cells {c:List AV} {vs:Array Value} (hc:CR H μ w S c vs) (h:c.all cell1=true):∀x∈vs.toList,x.oneCell'=true:=by
 intro x hx
 obtain ⟨i,hi,rfl⟩:=List.getElem_of_mem hx
 have hi':i<vs.size:=by simpa using hi
 have hic:i<c.length:=by rw[hc.1];exact hi'
 have h2:=hc.2 i hic
 have h3:cell1 (nth .junk c i)=true:=List.all_eq_true.1 h _ (by rw[nth_lt _ _ _ hic];exact List.getElem_mem hic)
 have:=cell1_one h2 h3
 rw[Array.getD_eq_getD_getElem?,Array.getElem?_eq_getElem hi'] at this
 simpa using this
theorem setRow_get {B:Nat} {cur:Array Value} {ty:TypeId} {arr:Array Value} (hg:w.heap[B]?=some (.cells cur ty (0,0))):(w.setRow B arr).heap[B]?=some (.cells arr ty (0,0)):=setRow_heap w B cur arr ty _ hg
theorem setRow_ne {B B':Nat} {arr:Array Value} (h:B'≠B):(w.setRow B arr).heap[B']?=w.heap[B']?:=setRow_other w B B' _ h
theorem setRow_below {B:Nat} {arr:Array Value} {M:Nat→Prop} (hb:Kept M w0 w) (hB:M B):Kept M w0 (w.setRow B arr):=
 hb.trans ⟨rfl,rfl,rfl,by simp,fun k _ hk=>setRow_ne (fun e=>hk (e▸hB))⟩
theorem storeP_after {base b off:Nat} {t:TypeId} {x:AV} {v va:Value} {cs:List AV} (hr:RepAt w0 S0 H μ S w) (hf:FreeAt H base 4) (hb:nth .free H b= .cells cs) (hva:VR H μ w S (.ptr b off) va) (hv:VR H μ w S x v) {f:Eff} (hval:f.val= .junk)
  (hwr:f.wr=(promo os (cks P t) (cellsA x) base).2++[(b, .cells (putC cs off (promo os (cks P t) (cellsA x) base).1 (P.cellsOf t)))])
  (hx:isV x=true) (ht:0<P.cellsOf t) (hfit:off+P.cellsOf t≤cs.length) (hl:(promo os (cks P t) (cellsA x) base).1.length=P.cellsOf t) (hone:(promo os (cks P t) (cellsA x) base).1.all cell1=true) (hn:(promo os (cks P t) (cellsA x) base).2.length≤4) (u:Value):
  ∃w',(Instr.storeAt t va v).run P w= .ok () w'∧After w0 S0 H μ S w f u w':=by
 rw[putC_eq hfit] at hwr
 obtain ⟨B,arr,ty,hm,hg,hbase,hnS,hsz,hcs⟩:=hr.hr.cellsB hb
 obtain ⟨μ',g1,g2,g3,g4,g5⟩:=promo_sound (os:=os) (cks P t) (cellsA x) base H μ hr.hr (fun i h1 h2=>by
  have:=hf (i-base) (by omega)
  rw[show base+(i-base)=i by omega] at this
  exact this)
 have hc:=cells_sound hv hx
 have hbne:b<base∨base+(promo os (cks P t) (cellsA x) base).2.length≤b:=by
  rcases Nat.lt_or_ge b base with h|h
  ·exact .inl h
  ·refine .inr (Nat.le_of_not_lt fun h2=> ?_)
   have:=(hf (b-base) (by omega)).1
   rw[show base+(b-base)=b by omega,hb] at this
   cases this
 obtain ⟨e1,e2⟩:=g5 b hbne
 have hb':nth .free (sets H (promo os (cks P t) (cellsA x) base).2) b= .cells cs:=e1.trans hb
 have hcr':CR (sets H (promo os (cks P t) (cellsA x) base).2) μ' w S (promo os (cks P t) (cellsA x) base).1 v.cells:=⟨by rw[g3];exact hc.1,fun i hi=>by rw[g3] at hi;exact g4 (fun i=>v.cells.getD i undef) hc.2 i hi⟩
 have hcs':CR (sets H (promo os (cks P t) (cellsA x) base).2) μ' w S cs arr:=⟨hsz.symm,fun i hi=>(hcs i hi).mono g2 (fun _ h=>h) (fun _ _=>rfl)⟩
 have hvs:v.cells.size=P.cellsOf t:=by rw[←hcr'.1,hl]
 have hsp:=hcs'.splice hcr' (off:=off) (by rw[hl];exact hfit)
 rw[hl] at hsp
 cases hva with
 |pv h=>cases h
 | ptr _ _ cs0 B0 hb0 hm0=>
  have hBB:B0=B:=by rw[hm] at hm0;simpa using hm0.symm
  subst hBB
  have hrun:=storeVar_run (P:=P) (t:=t) (v:=v) (B:=B0) (o:=off) (by omega) hvs hg (by rw[hsz];exact hfit) (mem_cells hcr' hone)
  refine ⟨_,hrun,setI μ' b (μ b),S,?_,?_,fun _ h=>h,fun B h=>setRow_ne (fun e=>hnS (e▸h)),?_⟩
  rotate_left
  ·rw[hwr,sets_append]
   refine g2.trans fun i=> ?_
   by_cases hi:i=b
   ·subst hi
    refine ⟨fun cs' h=>⟨_,nth_put_eq (lt_of_live (by rw[hb'];simp)),by simp[setI,e2]⟩,fun r h=>by rw[hb'] at h;simp[rdOf] at h,fun h=>(by rw[hb'] at h;cases h),fun h=>(by rw[hb'] at h;cases h),fun d h=>(by rw[hb'] at h;cases h)⟩
   ·show _∧_
    have e:nth .free (sets (sets H (promo os (cks P t) (cellsA x) base).2) [(b, .cells (takeL cs off++(promo os (cks P t) (cellsA x) base).1++dropL cs (off+P.cellsOf t)))]) i=nth .free (sets H (promo os (cks P t) (cellsA x) base).2) i:=nth_put_ne hi
    rw[e]
    exact ⟨fun cs h=>⟨cs,h,by simp[setI,hi]⟩,fun r h=>⟨r,h,rfl,Nat.le_refl _,fun _=>⟨rfl,by simp[setI,hi]⟩⟩,fun h=>⟨h,by simp[setI,hi]⟩,fun h=>⟨h,by simp[setI,hi]⟩,fun d h=>⟨d,h,Nat.le_refl _,Nat.le_refl _,fun p _=>by simp[setI,hi,SameP.refl]⟩⟩
  ·rw[hval];exact .junk _
  ·rw[hwr,sets_append]
   have hx':Ext (sets H (promo os (cks P t) (cellsA x) base).2) μ' (put (sets H (promo os (cks P t) (cellsA x) base).2) b (.cells (takeL cs off++(promo os (cks P t) (cellsA x) base).1++dropL cs (off+P.cellsOf t)))) (setI μ' b (μ b)):=fun i=>by
    by_cases hi:i=b
    ·subst hi
     refine ⟨fun cs' h=>⟨_,nth_put_eq (lt_of_live (by rw[hb'];simp)),by simp[setI,e2]⟩,fun r h=>by rw[hb'] at h;simp[rdOf] at h,fun h=>(by rw[hb'] at h;cases h),fun h=>(by rw[hb'] at h;cases h),fun d h=>(by rw[hb'] at h;cases h)⟩
    ·rw[nth_put_ne hi]
     exact ⟨fun cs h=>⟨cs,h,by simp[setI,hi]⟩,fun r h=>⟨r,h,rfl,Nat.le_refl _,fun _=>⟨rfl,by simp[setI,hi]⟩⟩,fun h=>⟨h,by simp[setI,hi]⟩,fun h=>⟨h,by simp[setI,hi]⟩,fun d h=>⟨d,h,Nat.le_refl _,Nat.le_refl _,fun p _=>by simp[setI,hi,SameP.refl]⟩⟩
   have hmb:Owns (μ' b) B0:=by rw[e2,hm];rfl
   refine ⟨g1.change (w':=w.setRow B0 (arr.toList.take off++v.cells.toList++arr.toList.drop (off+v.cells.toList.length)).toArray) (by rw[hb'];trivial) hx' (by simp) (fun B' _ hne=>setRow_ne (fun e=>hne (e▸hmb))) (fun B' h=>by rw[e2,hm] at h;have h:some B0=some B':=h;simp only[Option.some.injEq] at h;subst h;exact hnS)
    (fun B' h=> .inl (by rw[e2];exact h)) ?_,setRow_below hr.below hbase,hr.sub,hr.sup,hr.fresh,hr.pins.ext (g2.trans hx')⟩
   refine ⟨B0,_,ty,by simp[setI,hm],setRow_get hg,hbase,hnS,hsp.1.symm,fun i hi=>(hsp.2 i hi).mono hx' (fun _ h=>h) fun B h=>setRow_ne (fun e=>hnS (e▸h))⟩
theorem splice_getD {cur:Array Value} {o:Nat} {l:List Value} (h:o+l.length≤cur.size) (k:Nat):
  (cur.toList.take o++l++cur.toList.drop (o+l.length)).toArray.getD k undef=if k<o then cur.getD k undef else if k<o+l.length then l.getD (k-o) undef else cur.getD k undef:=by
 simp only[Array.getD_eq_getD_getElem?,List.getElem?_toArray,List.getElem?_append,List.length_append,List.length_take,Array.length_toList,List.getElem?_take,List.getElem?_drop,List.getD_eq_getElem?_getD]
 rw[Nat.min_eq_left (by omega)]
 by_cases h1:k<o
 ·simp[h1,show k<o+l.length by omega]
 ·by_cases h2:k<o+l.length
  ·simp[h1,h2]
  ·simp[h1,h2,show o+l.length+(k-(o+l.length))=k by omega]
theorem mend_spec (old new:List AV) (j:Nat):∀(n k:Nat),(mend old new j k n).length=n∧∀q,q<n→nth .junk (mend old new j k n) q=if j≤k+q∧k+q<j+new.length then nth .junk new (k+q-j) else nth .junk old (k+q)
 |0,k=>⟨rfl,fun q h=>absurd h (by omega)⟩
 | n +1,k=>by
  obtain ⟨h1,h2⟩:=mend_spec old new j n (k+1)
  refine ⟨by simp[mend,h1],fun q hq=> ?_⟩
  cases q with
  | zero=>
   simp only[mend,nth,Nat.add_zero]
   by_cases h:j≤k∧k<j+new.length
   ·have:(Nat.ble j k&&Nat.blt k (j+new.length))=true:=by simp[Nat.ble_eq,Nat.blt_eq,h]
    rw[this,if_pos h];rfl
   ·have:(Nat.ble j k&&Nat.blt k (j+new.length))=false:=by
     rw[Bool.eq_false_iff]
     simp only[ne_eq,Bool.and_eq_true,Nat.ble_eq,Nat.blt_eq]
     exact h
    rw[this,if_neg h];rfl
  |succ q=>
   have:=h2 q (by omega)
   simp only[mend,nth]
   rw[this,show k+1+q=k+(q+1) by omega]
theorem cellsA_view1 (v:AV):cellsA (view1 H v)=[view1 H v]:=by
 cases v with
 |mp b=>simp only[view1];cases mapD (nth .free H b)<;>rfl
 |sl b ver off len=>
  simp only[view1]
  cases rdOf (nth .free H b) with
  |none=>rfl
  |some r=>simp only;cases (ver==r.ver)<;>rfl
 |tsl b ver p=>
  simp only[view1]
  cases tabD (nth .free H b) with
  |none=>rfl
  |some d=>simp only;cases (ver==d.vp p)&&d.hole.isNone<;>rfl
 |_=>rfl
theorem cellsA_view {x:AV} (hx:isV x=true):cellsA (view H x)=(cellsA x).map (view1 H):=by
 cases x with
 |mp b=>exact cellsA_view1 (.mp b)
 |sl b ver off len=>exact cellsA_view1 (.sl b ver off len)
 |tsl b ver p=>exact cellsA_view1 (.tsl b ver p)
 |junk=>simp[isV] at hx
 |when g v=>simp[isV] at hx
 |tup vs=>simp[isV] at hx
 |clo f caps=>simp[isV] at hx
 |_=>rfl
theorem refs_cell {x:AV} (hx:isV x=true) {i:Nat} (hi:i<(cellsA x).length):∀b∈refs1 (nth .junk (cellsA x) i),b∈refs x:=by
 intro b hb
 cases x with
 |agg cs=>
  show b∈cs.flatMap refs1
  rw[List.mem_flatMap]
  refine ⟨nth .junk cs i,?_,hb⟩
  have hi':i<cs.length:=hi
  rw[nth_lt _ _ _ hi']
  exact List.getElem_mem hi'
 |_=>
  have h0:i=0:=by simpa [cellsA] using hi
  subst h0
  exact hb
theorem mapB_SF {base:Nat→Prop} (hh:HR H μ w S base) {l:List Nat} {b B:Nat} (hb:b∈l) (hm:isMapB (nth .free H b)=true) (hB:Owns (μ b) B):SF H μ S l B:=by
 cases hx:nth .free H b with
 |map ka va kk vk m=>exact .inr ⟨b,hb,by rw[hx];rfl,hB⟩
 |fmap ka va kk vk m=>
  have hk:=hh.blk b
  rw[hx] at hk
  obtain ⟨B',h1,h2,_⟩:=hk
  rw[h1] at hB
  simp only[Owns,blkOf,Option.some.injEq] at hB
  exact .inl (hB▸h2)
 |_=>rw[hx] at hm;simp[isMapB,mapD] at hm
theorem tabB_SF {base:Nat→Prop} (hh:HR H μ w S base) {l:List Nat} {b B:Nat} {d:TD} (hb:b∈l) (hm:tabD (nth .free H b)=some d) (hB:Owns (μ b) B):SF H μ S l B:=by
 cases hx:nth .free H b<;>rw[hx] at hm<;>try (cases hm;done)
 rename_i fz ver iv e k os xs hole
 cases fz with
 |true=>
  have hk:=hh.blk b
  rw[hx] at hk
  exact .inl (hk.1 B hB)
 |false=>exact .inr ⟨b,hb,by rw[hx];rfl,hB⟩
theorem view_cells {base:Nat→Prop} (hh:HR H μ w S base) {x:AV} {v:Value} (hv:VR H μ w S x v) (hx:isV x=true) {l:List Nat} (hl:∀b∈refs x,b∈l):
  (cellsA (view H x)).length=v.cells.size∧∀i,i<(cellsA (view H x)).length→PV w (SF H μ S l) (nth .junk (cellsA (view H x)) i) (v.cells.getD i undef):=by
 obtain ⟨h1,h2⟩:=cells_sound hv hx
 rw[cellsA_view hx]
 refine ⟨by simpa using h1,fun i hi=> ?_⟩
 have hi':i<(cellsA x).length:=by simpa using hi
 rw[nth_map AV.junk AV.junk (view1 H) (cellsA x) i hi']
 refine view1_sound hh (h2 i hi') (fun B h=> .inl h) (fun b hb r B hr hB=> ?_) (fun b hb B hm hB=>mapB_SF hh (hl b (refs_cell hx hi' b hb)) hm hB) fun b hb d B hd hB=>tabB_SF hh (hl b (refs_cell hx hi' b hb)) hd hB
 cases hxb:nth .free H b with
 |free=>simp[hxb,rdOf] at hr
 |cells cs=>simp[hxb,rdOf] at hr
 |map _ _ _ _ _=>simp[hxb,rdOf] at hr
 |fmap _ _ _ _ _=>simp[hxb,rdOf] at hr
 |iter _ _ _ _ _ _=>simp[hxb,rdOf] at hr
 |tab _ _ _ _ _ _ _ _=>simp[hxb,rdOf] at hr
 |row ver e k xs=>exact .inr ⟨b,hl b (refs_cell hx hi' b hb),by rw[hxb];rfl,hB⟩
 |fro ver e k xs=>
  have hblk:=hh.blk b
  rw[hxb] at hblk
  exact .inl (hblk.1 B hB)
theorem pure1_cell1 {c:AV} (h:pure1 c=true):cell1 c=true:=by cases c<;>simp_all [pure1,cell1]
theorem Ext.row {b:Nat} {ver ver':Nat} {e:TypeId} {k:CK} {xs xs':List (CT k)} {v:Value} (hb:nth .free H b= .row ver e k xs) (hv:ver≤ver') (hs:ver=ver'→xs'.length=xs.length∧v=μ b):Ext H μ (put H b (.row ver' e k xs')) (setI μ b v):=by
 intro i
 by_cases hi:i=b
 ·subst hi
  refine ⟨fun cs h=>(by rw[hb] at h;cases h),fun r h=> ?_,fun h=>(by rw[hb] at h;cases h),fun h=>(by rw[hb] at h;cases h),fun d h=>(by rw[hb] at h;cases h)⟩
  rw[hb] at h
  simp only[rdOf,Option.some.injEq] at h
  subst h
  exact ⟨⟨ver',e,k,xs'⟩,by rw[nth_put_eq (lt_of_live (by rw[hb];simp))];rfl,rfl,hv,fun e=>⟨(hs e).1,by simp[setI,(hs e).2]⟩⟩
 ·rw[nth_put_ne hi]
  exact ⟨fun cs h=>⟨cs,h,by simp[setI,hi]⟩,fun r h=>⟨r,h,rfl,Nat.le_refl _,fun _=>⟨rfl,by simp[setI,hi]⟩⟩,fun h=>⟨h,by simp[setI,hi]⟩,fun h=>⟨h,by simp[setI,hi]⟩,fun d h=>⟨d,h,Nat.le_refl _,Nat.le_refl _,fun p _=>by simp[setI,hi,SameP.refl]⟩⟩
theorem storeE_after {b ver i j:Nat} {t:TypeId} {x:AV} {v va:Value} {e:TypeId} {k:CK} {xs:List (CT k)} (hr:RepAt w0 S0 H μ S w) (hb:nth .free H b= .row ver e k xs) (hva:VR H μ w S (.eptr b ver i j) va) (hv:VR H μ w S x v) {f:Eff} (hval:f.val= .junk)
  (hwr:f.wr=frozenB H (refs x)++[(b, .row ver e k (xs.set i (dec k (mend (gt k xs i) (cellsA (view H x)) j 0 (width k)))))]) (hx:isV x=true) (hnb:b∉refs x) (ht:0<P.cellsOf t) (hfit:j+P.cellsOf t≤width k) (hdk:decOk k (mend (gt k xs i) (cellsA (view H x)) j 0 (width k))=true) (hl:(cellsA (view H x)).length=P.cellsOf t)
  (hone:(cellsA (view H x)).all pure1=true) (hi:i<xs.length) (u:Value):∃w',(Instr.storeAt t va v).run P w= .ok () w'∧After w0 S0 H μ S w f u w':=by
 obtain ⟨hf1,hf2⟩:=hr.hr.frozen (refs x)
 obtain ⟨c1,c2⟩:=view_cells hr.hr hv hx (l:=refs x) (fun _ h=>h)
 have hn:=frozenB_nth H (refs x) H (fun _=> .inl rfl) rfl b
 have hbc:(refs x).contains b=false:=by simpa using hnb
 rw[hbc,hb] at hn
 have hn':nth .free (sets H (frozenB H (refs x))) b= .row ver e k xs:=hn
 have hblk:=hf1.blk b
 rw[hn'] at hblk
 obtain ⟨hnS,hrow⟩:=hblk
 cases hva with
 |pv h=>cases h
 | eptr _ _ _ _ r B o hrd hle hcur=>
  rw[hb] at hrd
  simp only[rdOf,Option.some.injEq] at hrd
  subst hrd
  obtain ⟨o0,cap',rfl,hm⟩:=hcur rfl
  rcases hrow with ⟨hz,_⟩|⟨B',o1,cap,cur,hm',hbase,hg,hnc,hcm,hsz,hcs⟩
  ·rw[hz] at hm;simp at hm
  ·rw [hm] at hm'
   simp only[Value.slice.injEq,Option.some.injEq,Addr.mk.injEq,and_true,true_and] at hm'
   obtain ⟨⟨rfl,rfl⟩,_,rfl⟩:=hm'
   rw[show (Rd.mk ver e k xs).sz=width k from rfl]
   rw[show (Rd.mk ver e k xs).n=xs.length from rfl] at hm
   have hmb:Owns (μ b) B:=by rw[hm];rfl
   have hvs:v.cells.size=P.cellsOf t:=by rw[←c1];exact hl
   have hin:o0+(i*width k+width k)≤cur.size:=by
    rw[hsz,←Nat.succ_mul];exact Nat.add_le_add_left (Nat.mul_le_mul_right _ (by omega)) _
   have hone':∀y∈v.cells.toList,y.oneCell'=true:=mem_cells (H:=H) (μ:=μ) (w:=w) (S:=SF H μ S (refs x)) (c:=cellsA (view H x)) ⟨c1,fun q hq=> .pv (c2 q hq)⟩ (by
    rw[List.all_eq_true] at hone⊢
    exact fun y hy=>pure1_cell1 (hone y hy))
   have hrun:=storeVar_run (P:=P) (t:=t) (v:=v) (B:=B) (o:=o0+(i*width k+j)) (by omega) hvs hg (by omega) hone'
   have hlen:v.cells.toList.length=P.cellsOf t:=by simpa using hvs
   have hx':Ext (sets H (frozenB H (refs x))) μ (put (sets H (frozenB H (refs x))) b (.row ver e k (xs.set i (dec k (mend (gt k xs i) (cellsA (view H x)) j 0 (width k)))))) (setI μ b (μ b)):=Ext.row hn' (Nat.le_refl _) (fun _=>⟨by simp,rfl⟩)
   have hnSB:¬SF H μ S (refs x) B:=hnS B hmb
   refine ⟨_,hrun,setI μ b (μ b),SF H μ S (refs x),?_,?_,fun B h=> .inl h,fun B' h=>setRow_ne (fun e=>hnSB (e▸ .inl h)),?_⟩
   ·rw [hwr,sets_append]
    refine ⟨hf1.change (w':=w.setRow B (cur.toList.take (o0+(i*width k+j))++v.cells.toList++cur.toList.drop (o0+(i*width k+j)+v.cells.toList.length)).toArray) (by rw[hn'];trivial) hx' (by simp) (fun B' _ hne=>setRow_ne (fun e=>hne (e▸hmb))) hnS (fun B' h=> .inl h) ?_,setRow_below hr.below hbase,fun B h=> .inl (hr.sub B h),fun B h=>(hf2 B h).elim (hr.sup B) .inr,hr.fresh,hr.pins.ext ((Ext.frozen _).trans hx')⟩
    refine ⟨by simpa [setI] using hnS,?_⟩
    simp only[setI,if_true]
    refine .inr ⟨B,o0,cap',_,by rw[List.length_set];exact hm,hbase,setRow_get hg,by rw[List.length_set];exact hnc,hcm,by simp;omega,fun i' hi'=> ?_⟩
    rw[List.length_set] at hi'
    have hms:=mend_spec (gt k xs i) (cellsA (view H x)) j (width k) 0
    have old:=hcs i' hi'
    have hgo:∀q,q<width k→¬(i'=i∧j≤q∧q<j+P.cellsOf t)→(cur.toList.take (o0+(i*width k+j))++v.cells.toList++cur.toList.drop (o0+(i*width k+j)+v.cells.toList.length)).toArray.getD (o0+(i'*width k+q)) undef=cur.getD (o0+(i'*width k+q)) undef:=fun q hq hne=>by
     rw[splice_getD (by omega),hlen]
     by_cases h1:o0+(i'*width k+q)<o0+(i*width k+j)
     ·rw[if_pos h1]
     ·rw [if_neg h1]
      by_cases h2:o0+(i'*width k+q)<o0+(i*width k+j)+P.cellsOf t
      ·exfalso
       have h3:i'=i:=by
        rcases Nat.lt_trichotomy i' i with h|h|h
        ·have:(i'+1)*width k≤i*width k:=Nat.mul_le_mul_right _ h
         rw[Nat.add_mul] at this;omega
        ·exact h
        ·have:(i+1)*width k≤i'*width k:=Nat.mul_le_mul_right _ h
         rw[Nat.add_mul] at this;omega
       subst h3
       exact hne ⟨rfl,by omega,by omega⟩
      ·rw[if_neg h2]
    by_cases hii:i'=i
    ·subst hii
     have hall:∀q,q<width k→PC (w.setRow B (cur.toList.take (o0+(i'*width k+j))++v.cells.toList++cur.toList.drop (o0+(i'*width k+j)+v.cells.toList.length)).toArray) (SF H μ S (refs x)) (nth .junk (mend (gt k xs i') (cellsA (view H x)) j 0 (width k)) q) ((cur.toList.take (o0+(i'*width k+j))++v.cells.toList++cur.toList.drop (o0+(i'*width k+j)+v.cells.toList.length)).toArray.getD (o0+(i'*width k+q)) undef):=fun q hq=>by
      rw[hms.2 q hq]
      simp only[Nat.zero_add]
      by_cases hjq:j≤q∧q<j+(cellsA (view H x)).length
      ·rw[if_pos hjq,splice_getD (by omega),hlen,if_neg (by omega),if_pos (by omega)]
       have h4:=c2 (q-j) (by omega)
       have e5:v.cells.toList.getD (o0+(i'*width k+q)-(o0+(i'*width k+j))) undef=v.cells.getD (q-j) undef:=by
        rw[show o0+(i'*width k+q)-(o0+(i'*width k+j))=q-j by omega,List.getD_eq_getElem?_getD,Array.getD_eq_getD_getElem?];simp
       rw[e5]
       refine ⟨h4.mono (fun _ h=>h) (fun B' h=>setRow_ne (fun e=>hnSB (e▸h))),hone' _ ?_⟩
       have hq4:q-j<v.cells.size:=by omega
       rw[Array.getD_eq_getD_getElem?,Array.getElem?_eq_getElem hq4]
       exact Array.mem_toList_iff.2 (Array.getElem_mem hq4)
      ·rw[if_neg hjq,hgo q hq (by rw[hl] at hjq;omega)]
       exact (old q hq).mono (fun _ h=>h) (fun B' h=>setRow_ne (fun e=>hnSB (e▸h)))
     intro q hq
     have he:gt k (xs.set i' (dec k (mend (gt k xs i') (cellsA (view H x)) j 0 (width k)))) i'=enc k (dec k (mend (gt k xs i') (cellsA (view H x)) j 0 (width k))):=by
      simp only[gt];rw[nth_set,if_pos ⟨rfl,hi'⟩]
     rw[he]
     exact ⟨dec_sound k _ _ hdk (fun q hq=>(hall q hq).1) q hq,(hall q hq).2⟩
    ·intro q hq
     have he:gt k (xs.set i (dec k (mend (gt k xs i) (cellsA (view H x)) j 0 (width k)))) i'=gt k xs i':=by
      simp only[gt];rw[nth_set,if_neg (fun h=>hii h.1.symm)]
     rw[he,hgo q hq (fun h=>hii h.1)]
     exact (old q hq).mono (fun _ h=>h) (fun B' h=>setRow_ne (fun e=>hnSB (e▸h)))
   ·rw[hwr,sets_append]
    exact (Ext.frozen _).trans hx'
   ·rw[hval];exact .junk _
end
end Go.Abs
