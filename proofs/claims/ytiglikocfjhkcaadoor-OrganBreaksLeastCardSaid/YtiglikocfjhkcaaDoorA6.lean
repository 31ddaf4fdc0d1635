/- Operations that make rows. -/
import Derived.Test.YtiglikocfjhkcaaDoorAT
import Derived.Laws.OwnMore
set_option linter.all false
set_option linter.unusedVariables false
set_option linter.unusedSimpArgs false
namespace Go.Abs
variable [Globs]
open Go.RowKit (Below)
section
variable {H:List Blk} {μ:Nat→Value} {w:World} {S:Nat→Prop} {P:Program} {w0:World} {S0:Sc} {os:List TypeId}
theorem HR.nil {base:Nat→Prop} {μ:Nat→Value} (hs:∀B,S B→B<w.heap.size) (hG:GlobOk w S):HR [] μ w S base:=
 ⟨fun b=>by rw[nth_nil];trivial,fun b b' B h=>by rw[nth_nil] at h;exact absurd h (by simp[Blk.live]),hs,hG⟩
theorem elemT_spec {t e:TypeId} (h:elemT P t=some e):P.underlying t=some (.slice e):=by
 unfold elemT at h
 cases hu:P.underlying t with
 |none=>simp[hu] at h
 |some d=>cases d<;>simp[hu] at h<;>subst h<;>rfl
theorem pure_one {c:AV} {u:Value} (h:PV w S c u) (hp:pure1 c=true):u.oneCell'=true:=cell1_one (H:=[]) (μ:=fun _=>undef) (.pv h) (pure1_cell1 hp)
theorem made_get {z:Array Value} {n k:Nat} (hk:k<n) (hz:0<z.size):(madeCells z n).getD k undef=z.getD (k % z.size) undef:=by
 have:k % z.size<z.size:=Nat.mod_lt _ hz
 simp[madeCells,Array.getD_eq_getD_getElem?,hk,this]
theorem pv_of_pure {c:AV} {u:Value} (h:VR H μ w S c u) (hp:pure1 c=true):PV w S c u:=by
 cases h with
 |pv h=>exact h
 |_=>simp[pure1] at hp
theorem nilOwn_spec {k:CK}:∀(cs:List AV) (j q:Nat),nilOwn os k cs j=true→q<cs.length→(ownC os k (j+q)).isSome=true→nth .junk cs q= .nils
 |[],_,_,_,h,_=>by simp at h
 | c::cs,j,0,hn,_,ho=>by
  simp only[nilOwn,Bool.and_eq_true] at hn
  rw[Nat.add_zero] at ho
  cases h:ownC os k j with
  |none=>rw[h] at ho;cases ho
  |some _=>
   rw[h] at hn
   have:=hn.1
   cases c<;>first|rfl|(simp at this)
 |c::cs,j,q+1,hn,h,ho=>by
  simp only[nilOwn,Bool.and_eq_true] at hn
  exact nilOwn_spec cs (j+1) q hn.2 (by simpa using h) (by rw[show j+1+q=j+(q+1) by omega];exact ho)
theorem makeSlice_after {base:Nat} {t:TypeId} {l c:AV} {vl vc:Value} (hr:RepAt w0 S0 H μ S w) (hf:FreeAt H base 1) (hl:VR H μ w S l vl) (hcc:VR H μ w S c vc) (hc:(makeSliceE P os t base l c).chk=true):
  ∃u w',(Instr.makeSlice t vl vc).run P w= .ok u w'∧After w0 S0 H μ S w (makeSliceE P os t base l c) u w':=by
 obtain ⟨h0,hlt⟩:=hf.zero (by omega)
 cases he:elemT P t with
 |none=>simp[makeSliceE,he,Eff.bad] at hc
 | some e=>
  cases l<;>(try (simp[makeSliceE,he,Eff.bad] at hc;done))
  cases c<;>(try (simp[makeSliceE,he,Eff.bad] at hc;done))
  rename_i k n k' m
  simp only[makeSliceE,he] at hc⊢
  simp only[Bool.and_eq_true,beq_iff_eq,Nat.blt_eq,decide_eq_true_eq] at hc
  obtain ⟨cn,c1,cw,c2,c3,c4,cd,c5,c6,c7,c8⟩:=hc
  rw[vr_int hl,vr_int hcc]
  obtain ⟨z,inf,hi,hz,hz',hcr⟩:=zeroA_run (P:=P) (H:=[]) (μ:=μ) (w:=w) (S:=S) c3
  have hb:inf.bytes=P.bytesOf e:=by simp[Program.bytesOf,hi]
  have hs:inf.size=P.cellsOf e:=(cellsOf_info hi).symm
  have hzs:z.cells.size=P.cellsOf e:=by rw[←hcr.1,c2]
  have hrun:=run_make (P:=P) w t e inf z (elemT_spec he) hi hz' k k' n m c5 c6 (by rw[hb,Int.mul_comm];omega) (by omega)
  rw[hs] at hrun
  refine ⟨_,_,hrun,?_⟩
  have hrow:RowV (w.alloc (.cells (madeCells z.cells (m.toNat*P.cellsOf e)) e)) S0.own (PC (w.alloc (.cells (madeCells z.cells (m.toNat*P.cellsOf e)) e)) S) (.slice (some ⟨w.heap.size,0,none⟩) n.toNat m.toNat) e (kE P e) (List.replicate n.toNat (dec (kE P e) (cellsA (zeroA P e)))):=by
   refine .inr ⟨w.heap.size,0,m.toNat,_,by rw[List.length_replicate],hr.fresh _ hr.below.size,heap_alloc_new w _,by rw[List.length_replicate];omega,by simp only[maxLen];omega,by rw[Nat.zero_add,cw];exact size_madeCells _ _,fun i hi j hj=> ?_⟩
   rw[List.length_replicate] at hi
   rw[cw] at hj⊢
   have hk:i*P.cellsOf e+j<m.toNat*P.cellsOf e:=by
    have:(i+1)*P.cellsOf e≤m.toNat*P.cellsOf e:=Nat.mul_le_mul_right _ (by omega)
    rw[Nat.add_mul] at this;omega
   rw[Nat.zero_add,made_get hk (by omega),hzs,Nat.mul_comm i,Nat.mul_add_mod,Nat.mod_eq_of_lt hj]
   have hpz:∀q,q<width (kE P e)→PV w S (nth .junk (cellsA (zeroA P e)) q) (z.cells.getD q undef):=fun q hq=>by
    have hql:q<(cellsA (zeroA P e)).length:=by omega
    exact pv_of_pure (hcr.2 q hql) (by have:=List.all_eq_true.1 c4 _ (List.getElem_mem hql);rwa [←nth_lt .junk _ _ hql] at this)
   have hge:gt (kE P e) (List.replicate n.toNat (dec (kE P e) (cellsA (zeroA P e)))) i=enc (kE P e) (dec (kE P e) (cellsA (zeroA P e))):=by
    simp only[gt];rw[nth_lt _ _ _ (by rw[List.length_replicate];exact hi),List.getElem_replicate]
   rw[hge]
   have hpv:=dec_sound (kE P e) _ _ cd hpz j (by rw[cw];exact hj)
   have hpu:(z.cells.getD j undef).oneCell'=true:=by
    have hjl:j<(cellsA (zeroA P e)).length:=by omega
    exact pure_one (hpz j (by rw[cw];exact hj)) (by have:=List.all_eq_true.1 c4 _ (List.getElem_mem hjl);rwa [←nth_lt .junk _ _ hjl] at this)
   exact ⟨hpv.mono (fun _ h=>h) fun B h=>(Grow.alloc w _).old B (hr.hr.stab B h),hpu⟩
  obtain ⟨mi,hh,hxx,hvr⟩:=hr.hr.newRK (os:=os) h0 hlt (Grow.alloc w _) (fun B h=>by simp only[Owns,blkOf,Option.some.injEq] at h;omega) hrow (fun i j ek hi ho=>by
   rw[List.length_replicate] at hi
   have hge:gt (kE P e) (List.replicate n.toNat (dec (kE P e) (cellsA (zeroA P e)))) i=enc (kE P e) (dec (kE P e) (cellsA (zeroA P e))):=by
    simp only[gt];rw[nth_lt _ _ _ (by rw[List.length_replicate];exact hi),List.getElem_replicate]
   obtain ⟨⟨ys,q1⟩,q2,_⟩:=ownC_ro (dec (kE P e) (cellsA (zeroA P e))) ho
   have hjl:j<(cellsA (zeroA P e)).length:=by omega
   have hnl:=nilOwn_spec _ 0 j cn hjl (by rw[Nat.zero_add,ho];rfl)
   have hys:ys=[]:=by
    have:=own_dec (e2:=ek.1) (kE P e) j (cellsA (zeroA P e)) ho
    rw[q1,asL_ro,hnl] at this
    exact this
   refine ⟨by rw[hge,q1,hys],fun B o cap cur hv hg=> ?_⟩
   simp only[Value.slice.injEq,Option.some.injEq,Addr.mk.injEq,and_true] at hv
   obtain ⟨⟨rfl,rfl⟩,_⟩:=hv
   rw[heap_alloc_new] at hg
   simp only[Option.some.injEq,Obj.cells.injEq] at hg
   obtain ⟨rfl,_⟩:=hg
   have hk:i*P.cellsOf e+j<m.toNat*P.cellsOf e:=by
    have:(i+1)*P.cellsOf e≤m.toNat*P.cellsOf e:=Nat.mul_le_mul_right _ (by omega)
    rw[Nat.add_mul] at this;omega
   rw[cw,Nat.zero_add,made_get hk (by omega),hzs,Nat.mul_comm i,Nat.mul_add_mod,Nat.mod_eq_of_lt (by omega)]
   have:=hcr.2 j hjl
   rw[hnl] at this
   exact vr_nils this)
  exact ⟨_,S,⟨hh,(Grow.alloc _ _).below hr.below,hr.sub,hr.sup,hr.fresh,hr.pins.ext hxx⟩,hxx,fun _ h=>h,fun B h=>(Grow.alloc _ _).old B (hr.hr.stab B h),hvr⟩
theorem reps_length {α:Type}:∀(n:Nat) (l:List α),(reps n l).length=n*l.length
 |0,l=>by simp[reps]
 |n+1,l=>by simp[reps,reps_length n l,Nat.add_mul,Nat.add_comm]
theorem reps_nth {l:List AV}:∀(n k:Nat),k<n*l.length→nth .junk (reps n l) k=nth .junk l (k % l.length)
 |0,k,h=>by simp at h
 | n+1,k,h=>by
  simp only[reps,nth_append]
  by_cases hk:k<l.length
  ·rw[if_pos hk,Nat.mod_eq_of_lt hk]
  ·rw[if_neg hk,reps_nth n (k-l.length) (by rw[Nat.add_mul] at h;omega)]
   congr 1
   exact (Nat.mod_eq_sub_mod (by omega)).symm
theorem view_sound {base:Nat→Prop} (hh:HR H μ w S base) {x:AV} {v:Value} (hv:VR H μ w S x v) (hx:isV x=true) {l:List Nat} (hl:∀b∈refs x,b∈l):PV w (SF H μ S l) (view H x) v:=by
 have h1:∀ {c:AV} {u:Value},VR H μ w S c u→(∀b∈refs1 c,b∈l)→PV w (SF H μ S l) (view1 H c) u:=fun hc hl=>view1_sound hh hc (fun B h=> .inl h) (hlm:=fun b hb B hm hB=>mapB_SF hh (hl b hb) hm hB) (hlt:=fun b hb d B hd hB=>tabB_SF hh (hl b hb) hd hB) fun b hb r B hr hB=>by
  cases hxb:nth .free H b with
  |free=>simp[hxb,rdOf] at hr
  |cells cs=>simp[hxb,rdOf] at hr
  |map _ _ _ _ _=>simp[hxb,rdOf] at hr
  |fmap _ _ _ _ _=>simp[hxb,rdOf] at hr
  |iter _ _ _ _ _ _=>simp[hxb,rdOf] at hr
  |tab _ _ _ _ _ _ _ _=>simp[hxb,rdOf] at hr
  |row ver e k xs=>exact .inr ⟨b,hl b hb,by rw[hxb];rfl,hB⟩
  |fro ver e k xs=>
   have hblk:=hh.blk b
   rw[hxb] at hblk
   exact .inl (hblk.1 B hB)
 cases x with
 | agg cs=>
  have hcs:∀ {vs:Array Value},cs.length=vs.size→(∀i,i<cs.length→VR H μ w S (nth .junk cs i) (vs.getD i undef))→PV w (SF H μ S l) (view H (.agg cs)) (.agg vs):=fun hlen hc=>by
   refine .agg _ _ (by simpa using hlen) fun i hi=> ?_
   have hi':i<cs.length:=by simpa using hi
   rw[nth_map AV.junk AV.junk (view1 H) cs i hi']
   exact h1 (hc i hi') fun b hb=>hl b (by
    show b∈cs.flatMap refs1
    exact List.mem_flatMap.2 ⟨_,by rw[nth_lt _ _ _ hi'];exact List.getElem_mem hi',hb⟩)
  cases hv with
  |pv h=>cases h with|agg _ _ hlen hc=>exact hcs hlen fun i hi=> .pv (hc i hi)
  |agg _ _ hlen hc=>exact hcs hlen hc
 |tup _|when _ _|clo _ _|junk=>simp[isV] at hx
 |_=>exact h1 hv hl
theorem fillA_length {place:Nat→Option (Nat×Nat)}:∀(parts:List (Nat×AV)) (cs:List AV) (out:List AV) (_:Unit),fillA place cs parts=some out→out.length=cs.length
 |[],cs,out,_,h=>by simp only[fillA,Option.some.injEq] at h;rw[h]
 | (i,x)::parts,cs,out,_,h=>by
  simp only[fillA] at h
  cases hpl:place i with
  |none=>simp[hpl] at h
  | some p=>
   simp only[hpl] at h
   cases hcond:(isV x&&((cellsA x).length==p.2&&Nat.ble (p.1+p.2) cs.length)) with
   |false=>simp[hcond] at h
   |true=>
    rw[hcond] at h
    simp only[cond_true] at h
    simp only[Bool.and_eq_true,beq_iff_eq,Nat.ble_eq] at hcond
    rw[fillA_length parts _ out () h,takeL_eq,dropL_eq]
    simp
    omega
theorem buildCsl_after {base len:Nat} {t e:TypeId} {parts:List (Nat×AV)} {vparts:Array (Nat×Value)} (he:elemT P t=some e) (hr:RepAt w0 S0 H μ S w) (hf:FreeAt H base 1) (hpl:parts.length=vparts.toList.length)
  (hp:∀i,i<parts.length→(nth (0, .junk) parts i).1=(nth (0,undef) vparts.toList i).1∧VR H μ w S (nth (0, .junk) parts i).2 (nth (0,undef) vparts.toList i).2) (hc:(buildCslE P e base len parts).chk=true):
  ∃u w',(Instr.buildSlice t len vparts).run P w= .ok u w'∧After w0 S0 H μ S w (buildCslE P e base len parts) u w':=by
 obtain ⟨h0,hlt⟩:=hf.zero (by omega)
 unfold buildCslE at hc⊢
 cases hfill:fillA (fun i=>some (i*P.cellsOf e,P.cellsOf e)) (reps len (cellsA (zeroA P e))) parts with
 |none=>simp[hfill,Eff.bad] at hc
 | some cs=>
  simp only[hfill,Bool.and_eq_true,beq_iff_eq,Nat.blt_eq,Nat.ble_eq] at hc⊢
  obtain ⟨c1,c2,c4,c5,c6⟩:=hc
  obtain ⟨z,inf,hi,hz,hz',hcr⟩:=zeroA_run (P:=P) (H:=H) (μ:=μ) (w:=w) (S:=S) c4
  have hs:inf.size=P.cellsOf e:=(cellsOf_info hi).symm
  have hzs:z.cells.size=P.cellsOf e:=by rw[←hcr.1,c2]
  have hinit:CR H μ w S (reps len (cellsA (zeroA P e))) (madeCells z.cells (len*P.cellsOf e)):=by
   refine ⟨by rw[reps_length,size_madeCells,c2],fun i hi=> ?_⟩
   rw[reps_length,c2] at hi
   rw[reps_nth _ _ (by rw[c2];exact hi),made_get hi (by omega),c2,hzs]
   have hm:i % P.cellsOf e<P.cellsOf e:=Nat.mod_lt _ c1
   exact hcr.2 _ (by omega)
  obtain ⟨vout,hfr,hout⟩:=fill_sound (vparts:=vparts.toList) hinit hpl hp hfill
  have hrun:(Instr.buildSlice t len vparts).run P w= .ok (.slice (some ⟨w.heap.size,0,none⟩) len len) (w.alloc (.cells vout e)):=by
   have hsz:¬(len*P.cellsOf e>2^24):=by omega
   by_cases h00:len*P.cellsOf e=0
   ·rw[h00] at hfr
    have:madeCells z.cells 0= #[]:=by simp[madeCells,Array.range_zero']
    rw[this] at hfr
    have hz0:len=0:=(Nat.mul_eq_zero.1 h00).resolve_right (by omega)
    subst hz0
    simp[Instr.buildSlice,run_underlying (elemT_spec he),run_sizeOf hi,hfr,newRow,Array.range_zero']
   ·have hz0:¬(len=0∨P.cellsOf e=0):=fun h=>h00 (by rcases h with h|h<;>simp[h])
    simp only[madeCells] at hfr
    simp[Instr.buildSlice,run_underlying (elemT_spec he),run_sizeOf hi,hz0,hsz,hz,hfr,newRow]
    exact fun h=>absurd h h00
  have hh:=hr.hr.newCells (t:=e) h0 hlt (hr.fresh _ hr.below.size) hout
  refine ⟨_,_,hrun,setI μ base (.pointer (some ⟨w.heap.size,0,none⟩)),S,?_,?_,fun _ h=>h,fun B h=>(Grow.alloc _ _).old B (hr.hr.stab B h),?_⟩
  ·exact ⟨hh,(Grow.alloc _ _).below hr.below,hr.sub,hr.sup,hr.fresh,hr.pins.ext (Ext.setFree h0)⟩
  ·exact Ext.setFree h0
  ·exact .csl base 0 len cs w.heap.size len (nth_put_eq hlt) (by simp[setI]) (Nat.le_refl _)
theorem view1_SF {base:Nat→Prop} (hh:HR H μ w S base) {c:AV} {u:Value} {l:List Nat} (hc:VR H μ w S c u) (hl:∀b∈refs1 c,b∈l):PV w (SF H μ S l) (view1 H c) u:=by
 refine view1_sound hh hc (fun B h=> .inl h) (hlm:=fun b hb B hm hB=>mapB_SF hh (hl b hb) hm hB) (hlt:=fun b hb d B hd hB=>tabB_SF hh (hl b hb) hd hB) fun b hb r B hr hB=> ?_
 cases hxb:nth .free H b with
 |free=>simp[hxb,rdOf] at hr
 |cells cs=>simp[hxb,rdOf] at hr
 |map _ _ _ _ _=>simp[hxb,rdOf] at hr
 |fmap _ _ _ _ _=>simp[hxb,rdOf] at hr
 |iter _ _ _ _ _ _=>simp[hxb,rdOf] at hr
 |tab _ _ _ _ _ _ _ _=>simp[hxb,rdOf] at hr
 |row ver e k xs=>exact .inr ⟨b,hl b hb,by rw[hxb];rfl,hB⟩
 |fro ver e k xs=>
  have hblk:=hh.blk b
  rw[hxb] at hblk
  exact .inl (hblk.1 B hB)
theorem buildT_after {base:Nat} {t e:TypeId} {x:AV} {v:Value} (he:elemT P t=some e) (hr:RepAt w0 S0 H μ S w) (hf:FreeAt H base 1) (hv:VR H μ w S x v) (hc:(buildT P os e H base x).chk=true):
  ∃u w',(Instr.buildSlice t 1 #[(0,v)]).run P w= .ok u w'∧After w0 S0 H μ S w (buildT P os e H base x) u w':=by
 obtain ⟨h0,hlt⟩:=hf.zero (by omega)
 simp only[buildT,Bool.and_eq_true,beq_iff_eq,Nat.blt_eq,Nat.ble_eq] at hc⊢
 obtain ⟨⟨c1,c1'⟩,cw,c2,⟨c3,c3'⟩,c4,c5,c6,c7,c8⟩:=hc
 generalize hk:kE P e=k at*
 generalize hcs:cellsA x=cs at*
 obtain ⟨z,inf,hi,hz,hz',hcr⟩:=zeroA_run (P:=P) (H:=H) (μ:=μ) (w:=w) (S:=S) c3
 have hs:inf.size=P.cellsOf e:=(cellsOf_info hi).symm
 have hzs:z.cells.size=P.cellsOf e:=by rw[←hcr.1,c3']
 have hinit:CR H μ w S (reps 1 (cellsA (zeroA P e))) (madeCells z.cells (1*P.cellsOf e)):=by
  refine ⟨by rw[reps_length,size_madeCells,c3'],fun i hi=> ?_⟩
  rw[reps_length,c3'] at hi
  rw[reps_nth _ _ (by rw[c3'];exact hi),made_get hi (by omega),c3',hzs]
  have hm:i % P.cellsOf e<P.cellsOf e:=Nat.mod_lt _ c1
  exact hcr.2 _ (by omega)
 have hfill:fillA (fun i=>some (i*P.cellsOf e,P.cellsOf e)) (reps 1 (cellsA (zeroA P e))) [(0,x)]=some cs:=by
  have hrl:(reps 1 (cellsA (zeroA P e))).length=P.cellsOf e:=by rw[reps_length,c3',Nat.one_mul]
  simp only[fillA,Nat.zero_mul,Nat.zero_add,c2,hcs,c4,hrl,beq_self_eq_true,Bool.true_and,Nat.ble_eq,Nat.le_refl,show Nat.ble (P.cellsOf e) (P.cellsOf e)=true by simp,cond_true]
  rw[takeL_eq,dropL_eq,List.drop_eq_nil_of_le (by omega)]
  simp
 obtain ⟨vout,hfr,hout⟩:=fill_sound (vparts:=[(0,v)]) hinit rfl (fun i hi=>by
  obtain rfl:i=0:=by simpa using hi
  exact ⟨rfl,hv⟩) hfill
 have hrun:(Instr.buildSlice t 1 #[(0,v)]).run P w= .ok (.slice (some ⟨w.heap.size,0,none⟩) 1 1) (w.alloc (.cells vout e)):=by
  have hz0:¬(1=0∨P.cellsOf e=0):=fun h=>by omega
  simp only[madeCells,Nat.one_mul] at hfr
  have hsz:¬(P.cellsOf e>2^24):=by omega
  simp[Instr.buildSlice,run_underlying (elemT_spec he),run_sizeOf hi,hz0,hsz,hz,hfr,newRow,Nat.one_mul]
  exact fun h=>absurd h (by omega)
 obtain ⟨hf1,hf2⟩:=hr.hr.frozen (leftB os k cs 0)
 have hx1:=Ext.frozen (H:=H) (μ:=μ) (leftB os k cs 0)
 have hn:=frozenB_nth H (leftB os k cs 0) H (fun _=> .inl rfl) rfl
 have hvl:cs.length=width k:=c4.trans cw.symm
 have hcl:(takeCells H os k cs 0).length=cs.length:=takeCells_length cs 0
 have hcn:∀q,q<width k→nth .junk (takeCells H os k cs 0) q=match ownC os k q with|some ek=>rowV H os ek (nth .junk cs q)|none=>view1 H (nth .junk cs q):=fun q hq=>by
  rw[takeCells_nth cs 0 q (by omega),Nat.zero_add]
  cases ownC os k q<;>rfl
 have hex:∀q,∃m,(∀ek,ownC os k q=some ek→q<width k→TabV w S0.own S os none ek.1 ek.2 (asL ek.2 (nth .junk (takeCells H os k cs 0) q)) m∧hd m=vout.getD q undef∧(vout.getD q undef).oneCell'=true∧(∀c∈refs1 (nth .junk cs q),takeable (nth .free H c)=true)∧∀B,Owns m B→∃c∈refs1 (nth .junk cs q),Owns (μ c) B)∧(ownC os k q=none→m=undef):=fun q=>by
  cases ho:ownC os k q with
  |none=>exact ⟨undef,fun ek h=>(by cases h),fun _=>rfl⟩
  | some ek=>
   by_cases hq:q<width k
   ·have hcq:=hcn q hq
    rw[ho] at hcq
    simp only at hcq
    have hro:isRo ek.2 (rowV H os ek (nth .junk cs q))=true:=by
     have:=own_decOk (os:=os) (e2:=ek.1) (k2:=ek.2) k q _ c6 ho
     rw[hcq] at this
     exact this
    obtain ⟨m,m1,m2,m3,m4,m5,m6⟩:=rowV_sound hr.hr (hout.2 q (by omega)) hro
    exact ⟨m, fun ek' h _ => by obtain rfl:ek=ek':=by simpa using h
                                rw[hcq];exact ⟨m1,m2,m4,m5,m6⟩,fun h=>(by cases h)⟩
   ·exact ⟨undef,fun _ _ h=>absurd h hq,fun h=>(by cases h)⟩
 obtain ⟨G,hG⟩:=Classical.axiomOfChoice hex
 have hGo:∀q,q<width k→∀B,Owns (G q) B→∃c∈refs1 (nth .junk cs q),takeable (nth .free H c)=true∧Owns (μ c) B∧(ownC os k q).isSome=true:=fun q hq B hB=>by
  cases ho:ownC os k q with
  |none=>rw[(hG q).2 ho] at hB;exact absurd hB owns_undef
  |some ek=>
   obtain ⟨_,_,_,g4,g5⟩:=(hG q).1 ek ho hq
   obtain ⟨c,hc,hB⟩:=g5 B hB
   exact ⟨c,hc,g4 c hc,hB,rfl⟩
 have hnod:=distinct_spec c7
 have htkn:∀c∈takenB os k cs 0,(leftB os k cs 0).contains c=false:=fun c hc=>by
  have:=List.all_eq_true.1 c8 c hc
  simpa using this
 have htk1:∀c∈takenB os k cs 0,nth .free (sets H (frozenB H (leftB os k cs 0))) c=nth .free H c:=fun c hc=>by
  rw[hn c,htkn c hc];cases nth .free H c<;>rfl
 have htkb:∀c∈takenB os k cs 0,takeable (nth .free (sets H (frozenB H (leftB os k cs 0))) c)=true:=fun c hc=>by
  rw[htk1 c hc]
  obtain ⟨q,q1,q2,q3⟩:=takenB_of cs 0 c hc
  rw[Nat.zero_add] at q2
  cases ho:ownC os k q with
  |none=>rw[ho] at q2;cases q2
  |some ek=>exact ((hG q).1 ek ho (by omega)).2.2.2.1 c q3
 have hdead:(takenB os k cs 0).map (deadB H)=(takenB os k cs 0).map (deadB (sets H (frozenB H (leftB os k cs 0)))):=by
  refine List.map_congr_left fun c hc=> ?_
  simp only[deadB,htk1 c hc]
 have hg:=Grow.alloc w (.cells vout e)
 have hS1:∀B,SF H μ S (leftB os k cs 0) B→(w.alloc (.cells vout e)).heap[B]?=w.heap[B]?:=fun B h=>hg.old B (hf1.stab B h)
 have hdc:dec k (takeCells H os k cs 0)=dec k (takeCells H os k cs 0):=rfl
 have htab:TabV (w.alloc (.cells vout e)) S0.own (SF H μ S (leftB os k cs 0)) os none e k [dec k (takeCells H os k cs 0)] (img (.slice (some ⟨w.heap.size,0,none⟩) 1 1) 1 (width k) fun _ q=>G q):=by
  have hg0:∀i,i<1→gt k [dec k (takeCells H os k cs 0)] i=enc k (dec k (takeCells H os k cs 0)):=fun i hi=>by
   obtain rfl:i=0:=by omega
   rfl
  have hq0:∀i j,i<1→0+(i*width k+j)=j:=fun i j hi=>by
   obtain rfl:i=0:=by omega
   omega
  refine .row none e k _ 1 w.heap.size 0 1 vout (fun _ q=>G q) (by simp) rfl (hr.fresh _ hr.below.size) (heap_alloc_new w _) (Nat.le_refl _) (by simp[maxLen]) (by rw[←hout.1,hvl];omega) (fun i j hi hj ho=> ?_) (fun i j e2 k2 hi hj ho=> ?_) (fun i j e2 k2 hi hj ho=> ?_) (fun i j i' j' B hi hj hi' hj' hne h3 h4=> ?_) (fun i j hi hj h3=> ?_)
  ·rw[hg0 i hi,hq0 i j hi]
   refine ⟨?_,(hG j).2 ho⟩
   have hcj:=hcn j hj
   rw[ho] at hcj
   simp only at hcj
   have hp1:pure1 (nth .junk (takeCells H os k cs 0) j)=true:=List.all_eq_true.1 c5 _ (by rw[nth_lt _ _ _ (by omega)];exact List.getElem_mem _)
   have hpv:PV w (SF H μ S (leftB os k cs 0)) (nth .junk (takeCells H os k cs 0) j) (vout.getD j undef):=by
    rw[hcj]
    exact view1_SF hr.hr (hout.2 j (by omega)) fun b hb=>leftB_mem cs 0 j (by omega) (by rw[Nat.zero_add];exact ho) b hb
   exact ⟨(dec_cell k _ j c6 hj hpv).mono (fun _ h=>h) hS1,pure_one hpv hp1⟩
  ·rw[hg0 i hi,hsub_none,own_dec k j _ ho]
   obtain ⟨g1,_,_,g4,g5⟩:=(hG j).1 (e2,k2) ho hj
   exact g1.imp (fun _ h=>h) (fun B hB=>by
    obtain ⟨c,hc,ho⟩:=g5 B hB
    exact hg.old B (hr.hr.old (take_free (g4 c hc)) ho)) fun a b h=>h.mono (fun _ h=> .inl h) fun B h=>hg.old B (hr.hr.stab B h)
  ·rw[hq0 i j hi]
   obtain ⟨_,g2,g3,_,_⟩:=(hG j).1 (e2,k2) ho hj
   exact ⟨g3,fun _=>g2.symm⟩
  ·have hij:j≠j':=hne.resolve_left (by omega)
   obtain ⟨c,a1,a2,a3,a4⟩:=hGo j hj B h3
   obtain ⟨c',b1,b2,b3,b4⟩:=hGo j' hj' B h4
   have hcc:=takenB_apart cs 0 hnod j j' (by omega) (by omega) hij (by rw[Nat.zero_add];exact a4) (by rw[Nat.zero_add];exact b4) c a1
   exact hr.hr.inj c c' B (take_live a2) (take_live b2) (fun e=>hcc (e▸b1)) a3 b3
  ·obtain ⟨c,a1,a2,a3,_⟩:=hGo j hj _ h3
   have:=hr.hr.old (take_free a2) a3
   omega
 have h0':nth .free (sets H (frozenB H (leftB os k cs 0))) base= .free:=by rw[hn,h0];cases (leftB os k cs 0).contains base<;>rfl
 have hlt':base<(sets H (frozenB H (leftB os k cs 0))).length:=by rw[sets_length];exact hlt
 have hbn:base∉takenB os k cs 0:=fun h=>take_free (htkb base h) h0'
 obtain ⟨t1,t2,t3⟩:=hf1.take (l:=takenB os k cs 0) (b:=base) (x:= .tab false 0 0 e k os [dec k (takeCells H os k cs 0)] none) (v:=img (.slice (some ⟨w.heap.size,0,none⟩) 1 1) 1 (width k) fun _ q=>G q) (w':=w.alloc (.cells vout e)) htkb hbn hlt' (.inl h0') (Ext.setFree h0') hg.size (fun B hB _=>hg.old B hB)
  (fun B hB=>by
   rcases (owns_img (by simp)).1 hB with h|⟨i,q,hi,hq,h⟩
   ·simp only[blkOf,Option.some.injEq] at h;exact .inr (.inr (by omega))
   ·obtain ⟨c,a1,a2,a3,a4⟩:=hGo q hq B h
    exact .inr (.inl ⟨c,takenB_mem cs 0 q (by omega) (by rw[Nat.zero_add];exact a4) c a1,a3⟩)) (fun H' μ' e hns=>⟨by rw[e];exact hns,by rw[e];exact htab⟩)
 rw[←hdead] at t1 t2 t3
 have hfin:nth .free (sets (sets H (frozenB H (leftB os k cs 0))) ((takenB os k cs 0).map (deadB H)++[(base, .tab false 0 0 e k os [dec k (takeCells H os k cs 0)] none)])) base= .tab false 0 0 e k os [dec k (takeCells H os k cs 0)] none:=by
  rw[sets_append]
  exact nth_put_eq (by rw[sets_length];exact hlt')
 refine ⟨_,_,hrun,setI (fun i=>if i∈takenB os k cs 0 then deadI (sets H (frozenB H (leftB os k cs 0))) i else μ i) base (img (.slice (some ⟨w.heap.size,0,none⟩) 1 1) 1 (width k) fun _ q=>G q),SF H μ S (leftB os k cs 0),?_,?_,fun B h=> .inl h,fun B h=>hg.old B (hr.hr.stab B h),?_⟩
 ·rw[sets_append]
  exact ⟨t1,hg.below hr.below,fun B h=> .inl (hr.sub B h),fun B h=>(hf2 B h).elim (hr.sup B) .inr,hr.fresh,hr.pins.ext (hx1.trans t2)⟩
 ·rw[sets_append];exact hx1.trans t2
 ·rw[sets_append];exact vr_tab hfin (by simp[setI]) hd_img htab
theorem buildSlice_after {base len:Nat} {t:TypeId} {parts:List (Nat×AV)} {vparts:Array (Nat×Value)} (hr:RepAt w0 S0 H μ S w) (hf:FreeAt H base 1) (hpl:parts.length=vparts.toList.length)
  (hp:∀i,i<parts.length→(nth (0, .junk) parts i).1=(nth (0,undef) vparts.toList i).1∧VR H μ w S (nth (0, .junk) parts i).2 (nth (0,undef) vparts.toList i).2) (hc:(buildSliceE P os t H base len parts).chk=true):
  ∃u w',(Instr.buildSlice t len vparts).run P w= .ok u w'∧After w0 S0 H μ S w (buildSliceE P os t H base len parts) u w':=by
 obtain ⟨h0,hlt⟩:=hf.zero (by omega)
 cases he:elemT P t with
 |none=>simp[buildSliceE,he,Eff.bad] at hc
 | some e=>
  simp only[buildSliceE,he] at hc⊢
  cases han:anyOwn os (kE P e) with
  | true=>
   simp only[han,cond_true] at hc⊢
   split at hc
   ·rename_i x
    have hp0:=hp 0 (by simp)
    obtain ⟨⟨q,v⟩,hvp⟩:∃y,vparts= #[y]:=by
     have:vparts.size=1:=by simpa using hpl.symm
     exact ⟨vparts[0],by apply Array.ext;simp[this];intro i h1 h2;simp at h2;subst h2;rfl⟩
    subst hvp
    simp only[nth] at hp0
    obtain ⟨e1,e2⟩:=hp0
    have e1:0=q:=e1
    subst e1
    exact buildT_after he hr hf e2 hc
   ·simp[Eff.bad] at hc
  |false=>
  simp only[han,cond_false] at hc⊢
  cases hbr:bears H parts with
  |true=>
   simp only[hbr,cond_true] at hc⊢
   exact buildCsl_after he hr hf hpl hp hc
  |false=>
  simp only[hbr,cond_false] at hc⊢
  cases hfill:fillA (fun i=>some (i*P.cellsOf e,P.cellsOf e)) (reps len (cellsA (zeroA P e))) (parts.map fun p=>(p.1,view H p.2)) with
  |none=>simp[hfill,Eff.bad] at hc
  | some cs=>
   simp only[hfill,Bool.and_eq_true,beq_iff_eq,Nat.blt_eq,Nat.ble_eq] at hc⊢
   obtain ⟨c1,cw,c2,c3,cd,c4,c5,c6⟩:=hc
   obtain ⟨hf1,hf2⟩:=hr.hr.frozen (parts.flatMap fun p=>refs p.2)
   have hx1:=Ext.frozen (H:=H) (μ:=μ) (parts.flatMap fun p=>refs p.2)
   have hn:=frozenB_nth H (parts.flatMap fun p=>refs p.2) H (fun _=> .inl rfl) rfl base
   rw[h0] at hn
   have h0':nth .free (sets H (frozenB H (parts.flatMap fun p=>refs p.2))) base= .free:=by
    rw[hn];cases (parts.flatMap fun p=>refs p.2).contains base<;>rfl
   have hlt':base<(sets H (frozenB H (parts.flatMap fun p=>refs p.2))).length:=by rw[sets_length];exact hlt
   obtain ⟨z,inf,hi,hz,hz',hcr⟩:=zeroA_run (P:=P) (H:=[]) (μ:=μ) (w:=w) (S:=S) c4
   have hs:inf.size=P.cellsOf e:=(cellsOf_info hi).symm
   have hzs:z.cells.size=P.cellsOf e:=by rw[←hcr.1,c2]
   have hinit:CR [] μ w (SF H μ S (parts.flatMap fun p=>refs p.2)) (reps len (cellsA (zeroA P e))) (madeCells z.cells (len*P.cellsOf e)):=by
    refine ⟨by rw[reps_length,size_madeCells,c2],fun i hi=> ?_⟩
    rw[reps_length,c2] at hi
    rw[reps_nth _ _ (by rw[c2];exact hi),made_get hi (by omega),c2,hzs]
    have hm:i % P.cellsOf e<P.cellsOf e:=Nat.mod_lt _ c1
    exact (hcr.2 _ (by omega)).mono (Ext.refl _ _) (fun B h=> .inl h) (fun _ _=>rfl)
   obtain ⟨vout,hfr,hout⟩:=fill_sound (vparts:=vparts.toList) hinit (by simpa using hpl) (fun i hi'=>by
    have hi2:i<parts.length:=by simpa using hi'
    rw[nth_map (0,AV.junk) (0,AV.junk) (fun p=>(p.1,view H p.2)) parts i hi2]
    obtain ⟨q1,q2⟩:=hp i hi2
    have hmem:nth (0,AV.junk) parts i∈parts:=by rw[nth_lt _ _ _ hi2];exact List.getElem_mem hi2
    exact ⟨q1, .pv (view_sound hr.hr q2 (List.all_eq_true.1 c5 _ hmem) fun b hb=>List.mem_flatMap.2 ⟨_,hmem,hb⟩)⟩) hfill
   have hcl:cs.length=len*P.cellsOf e:=by
    have:=fillA_length _ _ _ () hfill
    rw[this,reps_length,c2]
   have hrun:(Instr.buildSlice t len vparts).run P w= .ok (.slice (some ⟨w.heap.size,0,none⟩) len len) (w.alloc (.cells vout e)):=by
    have hsz:¬(len*P.cellsOf e>2^24):=by omega
    by_cases h00:len*P.cellsOf e=0
    ·rw[h00] at hfr
     have:madeCells z.cells 0= #[]:=by simp[madeCells,Array.range_zero']
     rw[this] at hfr
     have hz0:len=0:=(Nat.mul_eq_zero.1 h00).resolve_right (by omega)
     subst hz0
     simp[Instr.buildSlice,run_underlying (elemT_spec he),run_sizeOf hi,hfr,newRow,Array.range_zero']
    ·have hz0:¬(len=0∨P.cellsOf e=0):=fun h=>h00 (by rcases h with h|h<;>simp[h])
     simp only[madeCells] at hfr
     simp[Instr.buildSlice,run_underlying (elemT_spec he),run_sizeOf hi,hz0,hsz,hz,hfr,newRow]
     exact fun h=>absurd h h00
   refine ⟨_,_,hrun,?_⟩
   have hlen:len≤16777216:=Nat.le_trans (Nat.le_mul_of_pos_right len c1) c6
   have hg:=Grow.alloc w (.cells vout e)
   have hrow:RowV (w.alloc (.cells vout e)) S0.own (PC (w.alloc (.cells vout e)) (SF H μ S (parts.flatMap fun p=>refs p.2))) (.slice (some ⟨w.heap.size,0,none⟩) len len) e (kE P e) (chunks (kE P e) len cs):=by
    refine .inr ⟨w.heap.size,0,len,vout,by rw[chunks_length],hr.fresh _ hr.below.size,heap_alloc_new w _,by rw[chunks_length];exact Nat.le_refl _,by simp only[maxLen];omega,by rw[←hout.1,hcl,Nat.zero_add,cw],fun i hi j hj=> ?_⟩
    rw[chunks_length] at hi
    have hpq:∀q,q<len*width (kE P e)→PV w (SF H μ S (parts.flatMap fun p=>refs p.2)) (nth .junk cs q) (vout.getD q undef)∧(vout.getD q undef).oneCell'=true:=fun q hq=>by
     have hk:q<cs.length:=by rw[hcl,←cw];exact hq
     have hpure:pure1 (nth .junk cs q)=true:=List.all_eq_true.1 c3 _ (by rw[nth_lt _ _ _ hk];exact List.getElem_mem hk)
     exact ⟨pv_of_pure (hout.2 _ hk) hpure,pure_one (pv_of_pure (hout.2 _ hk) hpure) hpure⟩
    have hin:i*width (kE P e)+j<len*width (kE P e):=by
     have:(i+1)*width (kE P e)≤len*width (kE P e):=Nat.mul_le_mul_right _ (by omega)
     rw[Nat.add_mul,Nat.one_mul] at this;omega
    rw[Nat.zero_add]
    exact ⟨(chunks_sound (kE P e) len cs (fun q=>vout.getD q undef) cd (fun q hq=>(hpq q hq).1) i hi j hj).mono (fun _ h=>h) fun B h=>hg.old B (hf1.stab B h),(hpq _ hin).2⟩
   have hh:=hf1.newRow h0' hlt' hg (fun B h=>by simp only[Owns,blkOf,Option.some.injEq] at h;omega) hrow
   refine ⟨setI μ base (.slice (some ⟨w.heap.size,0,none⟩) len len),SF H μ S (parts.flatMap fun p=>refs p.2),?_,?_,fun B h=> .inl h,fun B h=>hg.old B (hr.hr.stab B h),?_⟩
   ·rw[sets_append]
    exact ⟨hh,hg.below hr.below,fun B h=> .inl (hr.sub B h),fun B h=>(hf2 B h).elim (hr.sup B) .inr,hr.fresh,hr.pins.ext (hx1.trans (Ext.setFree h0'))⟩
   ·rw[sets_append];exact hx1.trans (Ext.setFree h0')
   ·rw[sets_append];exact vr_newRow hlt' hrow 0
end
end Go.Abs
