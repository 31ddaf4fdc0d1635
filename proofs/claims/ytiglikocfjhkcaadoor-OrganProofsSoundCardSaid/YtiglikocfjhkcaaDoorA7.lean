/- append. -/
import Derived.Test.YtiglikocfjhkcaaDoorA6
import Derived.Deep.AppendSrc
import Derived.Laws.BytesString
import Derived.Laws.CopyRow
import Derived.Laws.IdiomCopy
set_option linter.all false
set_option linter.unusedVariables false
set_option linter.unusedSimpArgs false
namespace Go.Abs
variable [Globs]
open Go.RowKit (Below)
section
variable {H:List Blk} {μ:Nat→Value} {w:World} {S:Nat→Prop} {P:Program} {w0:World} {S0:Sc} {os:List TypeId}
def Elems (w:World) (S:Nat→Prop) (k:CK) (xs:List (CT k)) (news:List Value):Prop:=
 news.length=xs.length*width k∧∀i,i<xs.length→∀j,j<width k→PC w S (nth .junk (gt k xs i) j) (news.getD (i*width k+j) undef)
theorem Elems.one {k:CK} {xs:List (CT k)} {news:List Value} (h:Elems w S k xs news):∀u∈news,u.oneCell'=true:=by
 intro u hu
 obtain ⟨q,hk,rfl⟩:=List.getElem_of_mem hu
 have hsz:=width_pos k
 rw[h.1] at hk
 have h1:q / width k<xs.length:=Nat.div_lt_of_lt_mul (by rw[Nat.mul_comm];exact hk)
 have h2:=h.2 (q / width k) h1 (q % width k) (Nat.mod_lt _ hsz)
 have e:q / width k*width k+q % width k=q:=by rw[Nat.mul_comm];exact Nat.div_add_mod q _
 rw[e,List.getD_eq_getElem?_getD,List.getElem?_eq_getElem (by rw[h.1];exact hk)] at h2
 exact h2.2
theorem Elems.join {k:CK} {xs ys:List (CT k)} {olds news:List Value} (h:Elems w S k xs olds) (h':Elems w S k ys news):Elems w S k (xs++ys) (olds++news):=by
 refine ⟨by rw[List.length_append,h.1,h'.1,List.length_append,Nat.add_mul],fun i hi j hj=> ?_⟩
 rw[List.length_append] at hi
 by_cases hn:i<xs.length
 ·rw[gt_append_left hn]
  have hk:i*width k+j<olds.length:=by
   rw[h.1]
   have:(i+1)*width k≤xs.length*width k:=Nat.mul_le_mul_right _ hn
   rw[Nat.add_mul] at this;omega
  rw[List.getD_eq_getElem?_getD,List.getElem?_append_left hk,←List.getD_eq_getElem?_getD]
  exact h.2 i hn j hj
 ·rw[gt_append_right (by omega)]
  have hk:olds.length≤i*width k+j:=by
   rw[h.1]
   have:xs.length*width k≤i*width k:=Nat.mul_le_mul_right _ (by omega)
   omega
  have e:i*width k+j-olds.length=(i-xs.length)*width k+j:=by
   rw[h.1,Nat.sub_mul]
   have:xs.length*width k≤i*width k:=Nat.mul_le_mul_right _ (by omega)
   omega
  rw[List.getD_eq_getElem?_getD,List.getElem?_append_right hk,←List.getD_eq_getElem?_getD,e]
  exact h'.2 _ (by omega) j hj
theorem Elems.mono {w':World} {S':Nat→Prop} {k:CK} {xs:List (CT k)} {news:List Value} (h:Elems w S k xs news) (hS:∀B,S B→S' B) (hw:∀B,S B→w'.heap[B]?=w.heap[B]?):Elems w' S' k xs news:=
 ⟨h.1,fun i hi j hj=>(h.2 i hi j hj).mono hS hw⟩
theorem Elems.row {cap B o n:Nat} {M:Nat→Prop} {k:CK} {xs:List (CT k)} {olds:List Value} {cur:Array Value} {e:TypeId} (h:Elems w S k xs olds) (hn':xs.length=n) (hb:M B) (hg:w.heap[B]?=some (.cells cur e (0,0))) (hn:n≤cap) (hc:cap≤maxLen) (hs:cur.size=o+cap*width k) (ht:(cur.toList.drop o).take (n*width k)=olds):
  RowV w M (PC w S) (.slice (some ⟨B,o,none⟩) n cap) e k xs:=by
 subst hn'
 refine .inr ⟨B,o,cap,cur,rfl,hb,hg,hn,hc,hs,fun i hi j hj=> ?_⟩
 have hk:i*width k+j<xs.length*width k:=by
  have:(i+1)*width k≤xs.length*width k:=Nat.mul_le_mul_right _ hi
  rw[Nat.add_mul] at this;omega
 have:=h.2 i hi j hj
 rw[←ht,List.getD_eq_getElem?_getD,List.getElem?_take,if_pos hk,List.getElem?_drop] at this
 rw[Array.getD_eq_getD_getElem?]
 simpa using this
theorem RowV.elems {M:Nat→Prop} {v:Value} {e:TypeId} {k:CK} {xs:List (CT k)} (h:RowV w M (PC w S) v e k xs):
  (v= .slice none 0 0∧xs=[])∨∃B o cap cur,v= .slice (some ⟨B,o,none⟩) xs.length cap∧M B∧w.heap[B]?=some (.cells cur e (0,0))∧xs.length≤cap∧cap≤maxLen∧cur.size=o+cap*width k∧Elems w S k xs ((cur.toList.drop o).take (xs.length*width k)):=by
 rcases h with h|⟨B,o,cap,cur,rfl,h1,h2,h3,h4,h5,h6⟩
 ·exact .inl h
 ·refine .inr ⟨B,o,cap,cur,rfl,h1,h2,h3,h4,h5,?_,fun i hi j hj=> ?_⟩
  ·rw[List.length_take,List.length_drop,show cur.toList.length=cur.size from Array.length_toList,h5]
   have:=Nat.mul_le_mul_right (width k) h3
   omega
  ·have hk:i*width k+j<xs.length*width k:=by
    have:(i+1)*width k≤xs.length*width k:=Nat.mul_le_mul_right _ hi
    rw[Nat.add_mul] at this;omega
   rw[List.getD_eq_getElem?_getD,List.getElem?_take,if_pos hk,List.getElem?_drop]
   have:=h6 i hi j hj
   rw[Array.getD_eq_getD_getElem?] at this
   simpa using this
theorem Elems.nil {k:CK}:Elems w S k ([]:List (CT k)) []:=⟨by simp,fun i hi=>absurd hi (by simp)⟩
theorem src_ro {k:CK} {xs:List (CT k)} {v:Value} (h:PV w S (.ro k xs) v):
  ∃A c news,v= .slice A xs.length c∧Elems w S k xs news∧(A=none→xs.length=0)∧∀a,A=some a→∀j u,news[j]?=some u→w.cell? (a.add j)=some u:=by
 obtain ⟨A,c,rfl,hx⟩:=pv_ro_inv h
 rcases Nat.eq_zero_or_pos xs.length with h0|h0
 ·have:xs=[]:=List.eq_nil_of_length_eq_zero h0
  subst this
  exact ⟨A,c,[],rfl,Elems.nil,fun _=>rfl,fun a _ j u h=>by simp at h⟩
 ·obtain ⟨hn,B,o,u,rfl,hS,hcell,hp⟩:=hx h0
  have hs0:=width_pos k
  refine ⟨_,c,(List.range (xs.length*width k)).map fun q=>u (q / width k) (q % width k),rfl,⟨by simp,fun i hi j hj=> ?_⟩,(fun h=>by cases h),fun a ha j v hv=> ?_⟩
  ·have hk:i*width k+j<xs.length*width k:=by
    have:(i+1)*width k≤xs.length*width k:=Nat.mul_le_mul_right _ hi
    rw[Nat.add_mul] at this;omega
   have e1:(i*width k+j) / width k=i:=by rw[Nat.mul_comm,Nat.mul_add_div (by omega),Nat.div_eq_of_lt hj];rfl
   have e2:(i*width k+j) % width k=j:=by rw[Nat.mul_comm,Nat.mul_add_mod,Nat.mod_eq_of_lt hj]
   rw[List.getD_eq_getElem?_getD,List.getElem?_map,List.getElem?_range hk]
   simp only[Option.map_some,Option.getD_some,e1,e2]
   exact hp i j hi hj
  ·simp only[Option.some.injEq] at ha
   subst ha
   rw[List.getElem?_map] at hv
   rcases Nat.lt_or_ge j (xs.length*width k) with hj|hj
   ·rw[List.getElem?_range hj] at hv
    simp only[Option.map_some,Option.some.injEq] at hv
    subst hv
    have e:j / width k*width k+j % width k=j:=by rw[Nat.mul_comm];exact Nat.div_add_mod j _
    have:=hcell (j / width k) (j % width k) (Nat.div_lt_of_lt_mul (by rw[Nat.mul_comm];exact hj)) (Nat.mod_lt _ hs0)
    rw[e] at this
    rw[Addr.add_lit]
    exact this
   ·rw[List.getElem?_eq_none (by simpa using hj)] at hv
    cases hv
theorem src_row {M:Nat→Prop} {v:Value} {e:TypeId} {k:CK} {xs:List (CT k)} (h:RowV w M (PC w S) v e k xs):
  ∃A c news,v= .slice A xs.length c∧Elems w S k xs news∧(A=none→xs.length=0)∧∀a,A=some a→∀j u,news[j]?=some u→w.cell? (a.add j)=some u:=by
 rcases h.elems with ⟨rfl,rfl⟩|⟨B,o,cap,cur,rfl,_,hg,hn,_,hcs,hel⟩
 ·exact ⟨none,0,[],rfl,Elems.nil,fun _=>rfl,fun a h=>by cases h⟩
 ·refine ⟨_,cap,_,rfl,hel,fun h=>(by cases h),fun a ha j u hu=> ?_⟩
  simp only[Option.some.injEq] at ha
  subst ha
  rw[List.getElem?_take] at hu
  split at hu
  ·rw[List.getElem?_drop] at hu
   rw[Addr.add_lit,cell_of_row w B _ cur _ (0,0) hg]
   simpa using hu
  ·cases hu
theorem src_sound {base:Nat→Prop} {k:CK} (hh:HR H μ w S base) {x:AV} {v:Value} (hv:VR H μ w S x v) (hok:isRo k (view1 H x)=true) (hnt:srcOk H x=true):
  ∃A c news,v= .slice A (asL k (view1 H x)).length c∧Elems w S k (asL k (view1 H x)) news∧(A=none→(asL k (view1 H x)).length=0)∧∀a,A=some a→∀j u,news[j]?=some u→w.cell? (a.add j)=some u:=by
 cases hv with
 |pv h=>
  have e:∀(w:World) (S:Nat→Prop),PV w S x v→PV w S (view1 H x) v:=fun w S h=>by cases h<;>first|exact .junk _|(simp only[view1];assumption)|(constructor<;>assumption)|(simp only[view1];constructor<;>assumption)
  exact src_ro ((e w S h).asL hok)
 | sl b ver off lw len r A c hr hle hlc hA hcur=>
  simp only[view1,hr] at hok⊢
  cases hvv:(ver==r.ver) with
  |false=>simp[hvv,isRo] at hok
  | true=>
   simp only[hvv,cond_true] at hok⊢
   simp only[isRo,decide_eq_true_eq] at hok
   subst hok
   rw[asL_ro]
   obtain ⟨hwn,hfit,hs⟩:=hcur (by simpa using hvv)
   have hwl:(win off lw r.xs).length=len:=by rw[win_length (by rw[show r.xs.length=r.n from rfl,←hwn];exact hfit)];exact hwn.symm
   have hrs:r.sz=width r.k:=rfl
   have hrn:r.n=r.xs.length:=rfl
   rcases Nat.eq_zero_or_pos len with h0|h0
   ·have hwe:win off lw r.xs=[]:=List.eq_nil_of_length_eq_zero (by omega)
    subst h0
    rw[hwe]
    exact ⟨A,c,[],rfl,Elems.nil,fun _=>rfl,fun a _ j u h=>by simp at h⟩
   ·rcases hs with ⟨_,_,hz,_⟩|⟨B,o,cap,A',hm,hfit',hv',hA'⟩
    ·omega
    ·simp only[Value.slice.injEq,true_and] at hv'
     obtain ⟨rfl,rfl⟩:=hv'
     have:=hA' (.inr (by omega))
     subst this
     rcases (hh.rdB hr).elems with ⟨hz,_⟩|⟨B2,o2,cap2,cur,hm2,_,hg,hn,_,hcs,hel⟩
     ·rw[hz] at hm;simp at hm
     ·rw[hm] at hm2
      simp only[Value.slice.injEq,Option.some.injEq,Addr.mk.injEq,and_true,true_and] at hm2
      obtain ⟨⟨rfl,rfl⟩,_,rfl⟩:=hm2
      generalize hszz:width r.k=sz at*
      have hle1:off*sz+len*sz≤r.n*sz:=by rw[←Nat.add_mul];exact Nat.mul_le_mul_right _ hfit
      have hle2:r.n*sz≤cap*sz:=Nat.mul_le_mul_right _ hn
      refine ⟨_,cap-off,(cur.toList.drop (o+off*sz)).take (len*sz),by rw[hwl],⟨?_,fun i hi j hj=> ?_⟩,(fun h=>by cases h),fun a ha j v hv=> ?_⟩
      ·rw[hwl,hszz];simp only[List.length_take,List.length_drop,Array.length_toList,hcs];omega
      ·rw[hwl] at hi
       rw[hszz] at hj⊢
       rw[gt_win (by rw[←hrn,←hwn];exact hi)]
       have q2:=hel.2 (off+i) (by omega) j (by omega)
       rw[hszz] at q2
       have hk:i*sz+j<len*sz:=by
        have:(i+1)*sz≤len*sz:=Nat.mul_le_mul_right _ hi
        rw[Nat.add_mul] at this;omega
       rw[List.getD_eq_getElem?_getD,List.getElem?_take,if_pos (by rw[Nat.add_mul,←hrn];omega),List.getElem?_drop] at q2
       rw[List.getD_eq_getElem?_getD,List.getElem?_take,if_pos hk,List.getElem?_drop,show o+off*sz+(i*sz+j)=o+((off+i)*sz+j) by rw[Nat.add_mul];omega]
       exact q2
      ·simp only[Option.some.injEq] at ha
       subst ha
       rw[List.getElem?_take] at hv
       split at hv
       ·rw[List.getElem?_drop] at hv
        rw[Addr.add_lit,hrs,cell_of_row w B _ cur _ (0,0) hg]
        simpa using hv
       ·cases hv
 |mp b B _ _=>
  simp only[view1] at hok
  cases hb:mapD (nth .free H b)<;>rw[hb] at hok<;>simp[isRo] at hok
 | tsl b ver p d n A c hd hle h3=>
  simp only[view1,hd] at hok⊢
  simp only[srcOk,hd,Bool.not_eq_true'] at hnt
  cases hvv:(ver==d.vp p)&&d.hole.isNone with
  |false=>simp[hvv,isRo] at hok
  |true=>
   simp only[hvv,cond_true] at hok⊢
   simp only[isRo,decide_eq_true_eq] at hok
   subst hok
   rw[asL_ro]
   simp only[Bool.and_eq_true,beq_iff_eq,Option.isNone_iff_eq_none] at hvv
   obtain ⟨hpo,hdd, -, -⟩:=h3 hvv.1
   have ht:=hh.tabB hd
   rw[hvv.2] at ht
   have hrow:=((TabV.node p ⟨d.e,d.k,d.xs⟩ ht hpo).1.toRow hnt).1
   have hdd':Abs.hd (imgAt (μ b) p)= .slice A n c:=hdd
   rw[show nodeAt d.os ⟨d.e,d.k,d.xs⟩ p=d.nd p from rfl] at hrow
   rw[hdd'] at hrow
   exact src_row hrow
 |_=>simp[view1,isRo] at hok
structure Appended (w w':World) (v v':Value):Prop where
 os:w'.os=w.os
 tape:w'.tape=w.tape
 output:w'.output=w.output
 size:w.heap.size≤w'.heap.size
 old:∀B,B<w.heap.size→¬Owns v B→w'.heap[B]?=w.heap[B]?
 new:∀B,Owns v' B→Owns v B∨w.heap.size≤B
theorem appended_refl {v:Value}:Appended w w v v:=⟨rfl,rfl,rfl,Nat.le_refl _,fun _ _ _=>rfl,fun _ h=> .inl h⟩
theorem appended_fresh {v:Value} {n c:Nat} {o:Obj}:Appended w (w.drew.alloc o) v (.slice (some ⟨w.heap.size,0,none⟩) n c):=
 ⟨rfl,rfl,rfl,by simp,fun B h _=>heap_alloc_old w.drew o B h,fun B h=> .inr (by simp only[Owns,blkOf,Option.some.injEq] at h;omega)⟩
theorem fresh_row {N cap:Nat} {M:Nat→Prop} {k:CK} {ys:List (CT k)} {xs:List Value} {z:Array Value} {e:TypeId} (h:Elems w S k ys xs) (hN:ys.length=N) (hs:∀B,S B→B<w.heap.size) (hb:M w.heap.size) (hc:N≤cap) (hm:cap≤maxLen) (hz:z.size=width k) {cells:Array Value} (hcells:cells=xs.toArray++Builtin.zeroCells z (cap-N)):
  RowV (w.drew.alloc (.cells cells e)) M (PC (w.drew.alloc (.cells cells e)) S) (.slice (some ⟨w.heap.size,0,none⟩) N cap) e k ys:=by
 subst hN
 have hm':Elems (w.drew.alloc (.cells cells e)) S k ys xs:=h.mono (fun _ h=>h) fun B hB=>heap_alloc_old w.drew _ B (hs B hB)
 refine hm'.row rfl hb (heap_alloc_new w.drew _) hc hm ?_ ?_
 ·rw[hcells,Array.size_append,size_zeroCells,hz,List.size_toArray,h.1,←Nat.add_mul,Nat.zero_add]
  congr 1;omega
 ·rw[hcells,Array.toList_append,←h.1,List.drop_zero]
  exact List.take_left
theorem run_append_in {t tx ty e:TypeId} {i:TypeInfo} (ht:P.underlying t=some (.slice e)) (hi:P.info? e=some i)
  {g o sLen sCap:Nat} {cur:Array Value} (hg:w.heap[g]?=some (.cells cur e (0,0)))
  {x:Value} {m:Nat} {news:List Value} (hs:Src P i.size tx x m news w)
  (hroom:sLen+m≤sCap) (hfit:o+sLen*i.size+news.length≤cur.size):
  (Builtin.append_ #[t,tx] ty #[.slice (some ⟨g,o,none⟩) sLen sCap,x]).run P w=
   .ok (.slice (some ⟨g,o,none⟩) (sLen+m) sCap) (w.setRow g (cur.toList.take (o+sLen*i.size)++news++cur.toList.drop (o+sLen*i.size+news.length)).toArray):=by
 have hst:=run_storeCells_at P g (o+sLen*i.size) e news 0 cur w hg (by simpa using hfit) hs.one
 simp only[Nat.add_zero] at hst
 rcases hs.kind with ⟨e',hk⟩|hk<;>simp[Builtin.append_,run_underlying ht,run_underlying hk,sizeOf,typeInfo,hi,hs.len,hroom,hs.cells,Addr.add_lit,hst]
theorem run_append_none {t tx ty e:TypeId} {i:TypeInfo} (ht:P.underlying t=some (.slice e)) (hi:P.info? e=some i) {base:Option Addr} {sLen sCap:Nat} (hle:sLen≤sCap) {x:Value} (hs:Src P i.size tx x 0 [] w):
  (Builtin.append_ #[t,tx] ty #[.slice base sLen sCap,x]).run P w= .ok (.slice base sLen sCap) w:=by
 rcases hs.kind with ⟨e',hk⟩|hk<;>cases base<;>simp[Builtin.append_,run_underlying ht,run_underlying hk,sizeOf,typeInfo,hi,hs.len,hle,hs.cells,storeCells]
theorem src_slice {base:Nat→Prop} {k:CK} {tx e':TypeId} (hk:P.underlying tx=some (.slice e')) (hh:HR H μ w S base) {x:AV} {v:Value} (hv:VR H μ w S x v) (hok:isRo k (view1 H x)=true) (hnt:srcOk H x=true):
  ∃news,Src P (width k) tx v (asL k (view1 H x)).length news w∧Elems w S k (asL k (view1 H x)) news:=by
 obtain ⟨A,c,news,rfl,hel,hA,hcells⟩:=src_sound hh hv hok hnt
 refine ⟨news,?_,hel⟩
 cases A with
 |some a=>exact Src.ofSlice w hk a _ c news hel.1 (hcells a rfl) hel.one
 |none=>
  have h0:=hA rfl
  have hn:news=[]:=List.eq_nil_of_length_eq_zero (by rw[hel.1,h0,Nat.zero_mul])
  rw[h0,hn]
  exact Src.ofNil w hk c
theorem bytesI_len:∀s:List UInt8,(bytesI s).length=s.length
 |[]=>rfl
 |_::s=>congrArg (· +1) (bytesI_len s)
theorem bytesI_nth (d:CT (.int .u8)):∀(s:List UInt8) (i:Nat) (h:i<s.length),nth d (bytesI s) i=byteI (s[i]'h)
 |_::_,0,_=>rfl
 |_::s,i+1,h=>bytesI_nth d s i (Nat.lt_of_succ_lt_succ h)
theorem src_str {tx:TypeId} (hk:P.underlying tx=some .string) (s:ByteArray):∃news,Src P (width (.int .u8)) tx (.string s) (asL (.int .u8) (.ro (.int .u8) (bytesI s.data.toList))).length news w∧Elems w S (.int .u8) (asL (.int .u8) (.ro (.int .u8) (bytesI s.data.toList))) news:=by
 rw[asL_ro]
 have hl:(bytesI s.data.toList).length=s.size:=by rw[bytesI_len];cases s;exact Array.length_toList
 rw[hl]
 refine ⟨byteCells s,Src.ofString w hk s,?_,fun i hi j hj=> ?_⟩
 ·rw[byteCells_length,hl];exact (Nat.mul_one _).symm
 ·obtain rfl:j=0:=by simp[width] at hj;exact hj
  rw[hl] at hi
  have hi':i<s.data.toList.length:=by cases s;simpa [ByteArray.size] using hi
  have e1:(byteCells s).getD (i*width (.int .u8)+0) undef= .int .u8 ((s.data.toList[i]'hi').toNat:Int):=by
   simp only[width,Nat.mul_one,Nat.add_zero,byteCells]
   rw[List.getD_eq_getElem?_getD,List.getElem?_map,List.getElem?_eq_getElem hi']
   rfl
  have e2:nth .junk (gt (.int .u8) (bytesI s.data.toList) i) 0= .int .u8 ((s.data.toList[i]'hi').toNat:Int):=by
   have e3:=bytesI_nth (dflt (.int .u8)) s.data.toList i hi'
   simp only[gt]
   rw[e3]
   rfl
  rw[e1,e2]
  exact ⟨.int _ _,rfl⟩
theorem append_core {n m:Nat} {M:Nat→Prop} {t tx ty e:TypeId} {v vx:Value} {k:CK} {xs ys:List (CT k)} {news:List Value} {inf:TypeInfo} {z:Value} (hxn:xs.length=n) (hym:ys.length=m) (hrow:RowV w M (PC w S) v e k xs) (hsrc:Elems w S k ys news) (hs:Src P inf.size tx vx m news w) (ht:P.underlying t=some (.slice e)) (hi:P.info? e=some inf) (hz:inf.zero=some z) (hsz:inf.size=width k) (hzs:z.cells.size=width k) (hbp:0<inf.bytes)
  (hS:∀B,S B→B<w.heap.size) (hns:∀B,Owns v B→¬S B) (hbase:M w.heap.size) (hb:(n+m)*inf.bytes≤140737488355328):
  ∃v' w',(Builtin.append_ #[t,tx] ty #[v,vx]).run P w= .ok v' w'∧RowV w' M (PC w' S) v' e k (xs++ys)∧Appended w w' v v':=by
 have hp:=width_pos k
 have hsl:=hsrc.1
 rw[hym] at hsl
 have hnm:n+m≤140737488355328:=Nat.le_trans (Nat.le_mul_of_pos_right _ hbp) hb
 have hml:n+m≤maxLen:=by simp only[maxLen];omega
 rcases Nat.eq_zero_or_pos m with h0|h0
 ·subst h0
  have hys:ys=[]:=List.eq_nil_of_length_eq_zero hym
  have hrow':RowV w M (PC w S) v e k (xs++ys):=by rw[hys,List.append_nil];exact hrow
  have hn0:news=[]:=List.eq_nil_of_length_eq_zero (by rw[hsl,Nat.zero_mul])
  subst hn0
  refine ⟨v,w,?_,hrow',appended_refl⟩
  rcases hrow with ⟨rfl,hxe⟩|⟨B,o,cap,cur,rfl,h1,h2,h3,h4,h5,h6⟩
  ·exact run_append_none ht hi (Nat.le_refl _) hs
  ·exact run_append_none ht hi h3 hs
 ·rw [←hsz] at hsl hp
  rcases hrow.elems with ⟨rfl,hxe⟩|⟨B,o,cap,cur,rfl,h1,h2,h3,h4,h5,hel⟩
  ·subst hxe
   simp only[List.length_nil] at hxn
   subst hxn
   have hr:=run_append_grow_src w t tx ty e inf z ht hi hz none 0 0 [] (run_firstCells_none w.drew inf.size 0 0 0) vx m news hs (by omega) (by omega) (growslice_fits (by omega) hb)
   refine ⟨_,_,hr,?_,appended_fresh⟩
   rw[List.nil_append]
   exact fresh_row hsrc (by omega) hS hbase (grownCap_ge w (0+m) 0 e) (grownCap_le_maxLen w (0+m) 0 e (by omega)) hzs (by simp)
  ·subst hxn
   generalize hnn:xs.length=n at*
   have hjl:(xs++ys).length=n+m:=by rw[List.length_append,hnn,hym]
   rw[←hsz] at h5 hel
   have hj:=hel.join hsrc
   by_cases hroom:n+m≤cap
   ·have hfit:o+n*inf.size+news.length≤cur.size:=by
     rw[hsl,h5]
     have:=Nat.mul_le_mul_right inf.size hroom
     rw[Nat.add_mul] at this;omega
    have hr:=run_append_in (P:=P) (w:=w) (t:=t) (tx:=tx) (ty:=ty) (e:=e) (i:=inf) ht hi (g:=B) (o:=o) (sLen:=n) (sCap:=cap) h2 hs hroom hfit
    refine ⟨_,_,hr,?_,⟨rfl,rfl,rfl,by simp,fun B' _ h=>setRow_other w B B' _ (fun e=>h (by rw[e];rfl)),fun B' h=> .inl h⟩⟩
    have hBS:¬S B:=hns B rfl
    refine (hj.mono (fun _ h=>h) fun B' h=>setRow_other w B B' _ (fun e=>hBS (e▸h))).row hjl h1 (setRow_heap w B cur _ e _ h2) hroom h4 ?_ ?_
    ·simp only[List.size_toArray,List.length_append,List.length_take,List.length_drop,Array.length_toList,←hsz]
     omega
    ·have hj1:=hj.1
     rw[hjl] at hj1
     have e1:cur.toList.take (o+n*inf.size)=cur.toList.take o++(cur.toList.drop o).take (n*inf.size):=by
      rw[List.take_add]
     have e2:(cur.toList.take o).length=o:=by rw[List.length_take,Array.length_toList];omega
     simp only[e1,List.append_assoc]
     rw[List.drop_left' e2,←List.append_assoc,←hj1]
     exact List.take_left
   ·have holds:∀j u,((cur.toList.drop o).take (n*inf.size))[j]?=some u→w.cell? ((⟨B,o,none⟩:Addr).add j)=some u:=fun j u h=>by
     rw[List.getElem?_take] at h
     split at h
     ·rw[List.getElem?_drop] at h
      rw[Addr.add_lit,cell_of_row w B _ cur _ (0,0) h2];simpa using h
     ·cases h
    have hr:=run_append_grow_src w t tx ty e inf z ht hi hz (some ⟨B,o,none⟩) n cap _ (run_firstCells_some w.drew inf.size n ⟨B,o,none⟩ n cap _ (by have:=hel.1;rw[hnn,←hsz] at this;exact this) (fun j u h=>by simpa using holds j u h)) vx m news hs (by omega) (by omega) (growslice_fits (by omega) hb)
    refine ⟨_,_,hr,?_,appended_fresh⟩
    exact fresh_row hj hjl hS hbase (grownCap_ge w _ cap e) (grownCap_le_maxLen w _ cap e hml) hzs (by simp)
theorem RowV.tail {M:Nat→Prop} {m v:Value} {e:TypeId} {off len:Nat} {k:CK} {xs:List (CT k)} (h:RowV w M (PC w S) m e k xs) (hs:Sub m xs.length (width k) off len v) (hl:off+len=xs.length):
  (RowV w M (PC w S) v e k (xs.drop off)∧∀B,Owns v B→Owns m B)∨(len=0∧off≠0∧∃A,v= .slice (some A) 0 0):=by
 have hdl:(xs.drop off).length=len:=by rw[List.length_drop];omega
 rcases hs with ⟨_,rfl,rfl,rfl⟩|⟨B,o,cap,A,hm,hfit,rfl,hA⟩
 ·exact .inl ⟨.inl ⟨rfl,List.eq_nil_of_length_eq_zero hdl⟩,fun B h=>by simp[Owns,blkOf] at h⟩
 ·rcases h with ⟨hz,_⟩|⟨B',o',cap',cur,hm',h1,h2,h3,h4,h5,h6⟩
  ·rw[hz] at hm;simp at hm
  ·rw[hm] at hm'
   simp only[Value.slice.injEq,Option.some.injEq,Addr.mk.injEq,and_true,true_and] at hm'
   obtain ⟨⟨rfl,rfl⟩,rfl⟩:=hm'
   generalize hszz:width k=sz at*
   by_cases hc:off<cap∨off=0
   ·have hAA:=hA hc.symm
    subst hAA
    refine .inl ⟨.inr ⟨B,o+off*sz,cap-off,cur,by rw[hdl],h1,h2,by omega,by omega,?_,fun i hi j hj=> ?_⟩,fun B' h=>by rw[hm];simpa [Owns,blkOf] using h⟩
    ·rw[h5,hszz,Nat.sub_mul]
     have:off*sz≤cap*sz:=Nat.mul_le_mul_right _ (by omega)
     omega
    ·rw[gt_drop]
     rw[hdl] at hi
     rw[hszz] at hj⊢
     have:=h6 (off+i) (by omega) j hj
     rw[show o+off*sz+(i*sz+j)=o+((off+i)*sz+j) by rw[Nat.add_mul];omega]
     exact this
   ·have h0:len=0:=by omega
    subst h0
    exact .inr ⟨rfl,by omega,A,by rw[show cap-off=0 by omega]⟩
theorem rowV_sl {b ver:Nat} {v:Value} {e:TypeId} {k:CK} {xs:List (CT k)} {w':World} {base:Nat→Prop} {R:AV→Value→Prop} (hb:rdOf (nth .free H b)=some ⟨ver,e,k,xs⟩) (hm:μ b=v) (hr:RowV w' base R v e k xs):
  VR H μ w' S (.sl b ver 0 none) v:=by
 rcases hr with ⟨rfl,rfl⟩|⟨B,o,cap,cur,rfl,_,_,hn,_⟩
 ·exact .sl _ _ _ _ 0 ⟨ver,e,k,[]⟩ none 0 hb (Nat.le_refl _) (Nat.le_refl _) (fun h=>absurd h (by omega)) fun _=>⟨rfl,by simp, .inl ⟨hm,rfl,rfl,rfl⟩⟩
 ·exact .sl _ _ _ _ xs.length ⟨ver,e,k,xs⟩ _ cap hb (Nat.le_refl _) hn (fun _=>⟨B,o,rfl⟩) fun _=>⟨rfl,by simp[Rd.n], .inr ⟨B,o,cap,⟨B,o,none⟩,by simpa [Rd.n] using hm,by omega,by simp,fun _=>by simp⟩⟩
theorem HR.more {base:Nat→Prop} {w':World} {S':Nat→Prop} (hh:HR H μ w S base) (hg:Grow w w') (h1:∀B,S B→S' B) (h2:∀B,S' B→S B∨w.heap.size≤B) (h3:∀B,S' B→B<w'.heap.size):HR H μ w' S' base:=by
 have hS:∀B,S B→w'.heap[B]?=w.heap[B]?:=fun B h=>hg.old B (hh.stab B h)
 refine ⟨fun b=> ?_,hh.inj,h3,hh.glob.mono h1 hS⟩
 have hb:=hh.blk b
 have hold:nth .free H b≠ .free→∀B,Owns (μ b) B→B<w.heap.size:=fun h B hB=>hh.old h hB
 cases hx:nth .free H b with
 |free=>trivial
 |cells cs=>
  rw[hx] at hb
  obtain ⟨B,arr,t,e1,e2,e3,e4,e5,e6⟩:=hb
  have hlt:=hold (by rw[hx];simp) B (by rw[e1];rfl)
  exact ⟨B,arr,t,e1,by rw[hg.old B hlt];exact e2,e3,fun h=>(h2 B h).elim e4 (fun h=>by omega),e5,fun i hi=>(e6 i hi).mono (Ext.refl _ _) h1 hS⟩
 |map ka va kk vk m=>
  rw[hx] at hb
  obtain ⟨B,e1,e3,e4,e5⟩:=hb
  have hlt:=hold (by rw[hx];simp) B (by rw[e1];rfl)
  exact ⟨B,e1,e3,fun h=>(h2 B h).elim e4 (fun h=>by omega),e5.mono h1 hS (hg.old B hlt)⟩
 |fmap ka va kk vk m=>
  rw[hx] at hb
  obtain ⟨B,e1,e3,e5⟩:=hb
  have hlt:=hold (by rw[hx];simp) B (by rw[e1];rfl)
  exact ⟨B,e1,h1 B e3,e5.mono h1 hS (hg.old B hlt)⟩
 |iter ka va kk vk rest cur=>
  rw[hx] at hb
  obtain ⟨B,e1,e3,e4,e5⟩:=hb
  have hlt:=hold (by rw[hx];simp) B (by rw[e1];rfl)
  exact ⟨B,e1,e3,fun h=>(h2 B h).elim e4 (fun h=>by omega),e5.mono h1 hS (hg.old B hlt)⟩
 |row ver e k xs=>
  rw[hx] at hb
  have hlt:=hold (by rw[hx];simp)
  exact ⟨fun B hB h=>(h2 B h).elim (hb.1 B hB) (fun h=>by have:=hlt B hB;omega),hb.2.imp (fun _ h=>h) (fun B hB=>hg.old B (hlt B hB)) fun x y hp=>hp.mono h1 hS⟩
 |fro ver e k xs=>
  rw[hx] at hb
  have hlt:=hold (by rw[hx];simp)
  exact ⟨fun B hB=>h1 B (hb.1 B hB),hb.2.imp (fun _ h=>h) (fun B hB=>hg.old B (hlt B hB)) fun x y hp=>hp.mono h1 hS⟩
 | tab fz ver iv e k os xs hole=>
  rw[hx] at hb
  have hlt:=hold (by rw[hx];simp)
  cases fz with
  |true=>
   exact ⟨fun B hB=>h1 B (hb.1 B hB),hb.2.imp (fun _ h=>h) (fun B hB=>hg.old B (hlt B hB)) fun x y hp=>hp.mono h1 hS⟩
  |false=>
   exact ⟨fun B hB h=>(h2 B h).elim (hb.1 B hB) (fun h=>by have:=hlt B hB;omega),hb.2.imp (fun _ h=>h) (fun B hB=>hg.old B (hlt B hB)) fun x y hp=>hp.mono h1 hS⟩
theorem append_zc {t tx ty:TypeId} {x:AV} {vs vx:Value} {k:CK} {e:TypeId} {z:Value} {inf:TypeInfo} (hr:RepAt w0 S0 H μ S w) (hs:VR H μ w S .zc vs) (hx:∃news,Src P (width k) tx vx (asL k (view1 H x)).length news w∧Elems w S k (asL k (view1 H x)) news)
  (ht:P.underlying t=some (.slice e)) (hi:P.info? e=some inf) (hz:inf.zero=some z) (hsz:inf.size=width k) (hzs:z.cells.size=width k) (hbp:0<inf.bytes) (hb:(asL k (view1 H x)).length*inf.bytes≤140737488355328):
  ∃u w',(Builtin.append_ #[t,tx] ty #[vs,vx]).run P w= .ok u w'∧After w0 S0 H μ S w (Eff.v (.ro k (asL k (view1 H x))) true) u w':=by
 obtain ⟨A0,rfl⟩:=vr_zc hs
 obtain ⟨news,hsrc,hel⟩:=hx
 rw[←hsz] at hsrc
 generalize asL k (view1 H x)=ys at*
 have grown:∀(v':Value) (w':World),RowV w' S0.own (PC w' S) v' e k ys→Grow w w'→(∀B,Owns v' B→w.heap.size≤B∧B<w'.heap.size)→After w0 S0 H μ S w (Eff.v (.ro k ys) true) v' w':=fun v' w' hrow hg hnew=>by
  have hh:HR H μ w' (fun B=>S B∨(w.heap.size≤B∧B<w'.heap.size)) S0.own:=hr.hr.more hg (fun _ h=> .inl h) (fun B h=>h.imp id fun h=>h.1) fun B h=>h.elim (fun h=>Nat.lt_of_lt_of_le (hr.hr.stab B h) hg.size) fun h=>h.2
  refine ⟨μ,_,⟨hh,hg.below hr.below,fun B h=> .inl (hr.sub B h),fun B h=>h.elim (hr.sup B) fun h=> .inr (hr.fresh B (Nat.le_trans hr.below.size h.1)),hr.fresh,hr.pins⟩,Ext.refl H μ,fun _ h=> .inl h,fun B h=>hg.old B (hr.hr.stab B h), .pv (hrow.toRo (fun _ h=> .inl h) fun B h=> .inr (hnew B h))⟩
 by_cases h0:ys.length=0
 ·have hys:ys=[]:=List.eq_nil_of_length_eq_zero h0
  subst hys
  have hn0:news=[]:=List.eq_nil_of_length_eq_zero (by rw[hel.1];simp)
  subst hn0
  exact ⟨.slice A0 0 0,w,run_append_none ht hi (Nat.le_refl _) hsrc,μ,S,hr,Ext.refl H μ,fun _ h=>h,fun _ _=>rfl, .pv (.roNil k A0 0)⟩
 ·have hnm:ys.length≤140737488355328:=Nat.le_trans (Nat.le_mul_of_pos_right _ hbp) hb
  have hfc:(Builtin.firstCells inf.size 0 (.slice A0 0 0)).run P w.drew= .ok (#[]:Array Value) w.drew:=by cases A0<;>simp[Builtin.firstCells,loadCells,loadCellsFrom]
  have hgr:=run_append_grow_src w t tx ty e inf z ht hi hz A0 0 0 [] hfc vx ys.length news hsrc (by omega) (by omega) (growslice_fits (by omega) (by rw[Nat.zero_add];exact hb))
  refine ⟨_,_,hgr,grown _ _ ?_ ⟨rfl,rfl,rfl,by simp,fun B h=>heap_alloc_old w.drew _ B h⟩ fun B h=> ?_⟩
  ·have:=fresh_row (w:=w) (M:=S0.own) (e:=e) (cells:=(([]++news).toArray++Builtin.zeroCells z.cells (grownCap w (0+ys.length) 0 e-(0+ys.length)))) hel (by rw[Nat.zero_add]) hr.hr.stab (hr.fresh _ hr.below.size) (grownCap_ge w (0+ys.length) 0 e) (grownCap_le_maxLen w (0+ys.length) 0 e (by simp only[maxLen];omega)) hzs (by simp)
   simpa using this
  ·simp only[Owns,blkOf,Option.some.injEq] at h
   subst h
   simp
theorem append0_after {base:Nat} {t tx ty:TypeId} {s x:AV} {vs vx:Value} (hr:RepAt w0 S0 H μ S w) (hf:s= .nils→FreeAt H base 1) (hs:VR H μ w S s vs) (hx:∀k,isRo k (view1 H x)=true→∃news,Src P (width k) tx vx (asL k (view1 H x)).length news w∧Elems w S k (asL k (view1 H x)) news) (hc:(appendE0 P t H base s x).chk=true):
  ∃u w',(Builtin.append_ #[t,tx] ty #[vs,vx]).run P w= .ok u w'∧After w0 S0 H μ S w (appendE0 P t H base s x) u w':=by
 cases he:elemT P t with
 |none=>simp[appendE0,appendS,he,Eff.bad] at hc
 | some e=>
  cases s<;>(try (simp[appendE0,appendS,he,Eff.bad] at hc;done))
  ·obtain ⟨h0,hlt⟩:=(hf rfl).zero (by omega)
   simp only[appendE0,appendS,he] at hc⊢
   simp only[Bool.and_eq_true,beq_iff_eq,Nat.blt_eq,decide_eq_true_eq] at hc
   obtain ⟨c1,c2,⟨c3,c4⟩,cw,c5,c6⟩:=hc
   rw[vr_nils hs]
   obtain ⟨z,inf,hi,hz,hz',hcr⟩:=zeroA_run (P:=P) (H:=[]) (μ:=μ) (w:=w) (S:=S) c3
   have hb:inf.bytes=P.bytesOf e:=by simp[Program.bytesOf,hi]
   have hsi:inf.size=width (kE P e):=by rw[cw];exact (cellsOf_info hi).symm
   have hzs:z.cells.size=width (kE P e):=by rw[←hcr.1,c4,cw]
   obtain ⟨news,hsrc,hel⟩:=hx _ c5
   rw[←hsi] at hsrc
   obtain ⟨v',w',hrun,hrow,hap⟩:=append_core (P:=P) (ty:=ty) (t:=t) (n:=0) (M:=S0.own) (v:= .slice none 0 0) (xs:=[]) rfl rfl (.inl ⟨rfl,rfl⟩) hel hsrc (elemT_spec he) hi hz' hsi hzs (by omega) hr.hr.stab (fun B h=>by simp[Owns,blkOf] at h) (hr.fresh _ hr.below.size) (by rw[hb,Nat.zero_add];exact c6)
   rw[List.nil_append] at hrow
   have hg:Grow w w':=⟨hap.os,hap.tape,hap.output,hap.size,fun B h=>hap.old B h (by simp[Owns,blkOf])⟩
   have hh:=hr.hr.newRow h0 hlt hg (fun B h=>(hap.new B h).elim (fun h=>by simp[Owns,blkOf] at h) id) hrow
   exact ⟨v',w',hrun,setI μ base v',S,⟨hh,hg.below hr.below,hr.sub,hr.sup,hr.fresh,hr.pins.ext (Ext.setFree h0)⟩,Ext.setFree h0,fun _ h=>h,fun B h=>hg.old B (hr.hr.stab B h),vr_newRow hlt hrow 0⟩
  ·simp only[appendE0,appendS,he,Eff.v] at hc
   simp only[Bool.and_eq_true,beq_iff_eq,Nat.blt_eq,decide_eq_true_eq] at hc
   obtain ⟨c1,c2,⟨c3,c4⟩,cw,c5,c6⟩:=hc
   obtain ⟨z,inf,hi,hz,hz',hcr⟩:=zeroA_run (P:=P) (H:=[]) (μ:=μ) (w:=w) (S:=S) c3
   have hb:inf.bytes=P.bytesOf e:=by simp[Program.bytesOf,hi]
   have hsi:inf.size=width (kE P e):=by rw[cw];exact (cellsOf_info hi).symm
   have hzs:z.cells.size=width (kE P e):=by rw[←hcr.1,c4,cw]
   obtain ⟨u,w',q1,μ',S',q2,q3,q4,q5,q6⟩:=append_zc (P:=P) (ty:=ty) hr hs (hx _ c5) (elemT_spec he) hi hz' hsi hzs (by omega) (by rw[hb];exact c6)
   simp only[appendE0,appendS,he]
   exact ⟨u,w',q1,μ',S',q2,q3,q4,q5,q6⟩
  ·rename_i b ver off lw
   simp only[appendE0,appendS,he] at hc⊢
   cases hbk:nth .free H b<;>(try (simp[hbk,Eff.bad] at hc;done))
   rename_i ver' e' k xs
   simp only[hbk] at hc⊢
   simp only[Bool.and_eq_true,beq_iff_eq,Nat.blt_eq,decide_eq_true_eq] at hc
   simp only[Bool.or_eq_true,beq_iff_eq,decide_eq_true_eq] at hc
   obtain ⟨rfl,⟨rfl,cw⟩,c1,c2,⟨c3,c4⟩,c6,c5,hend,c7⟩:=hc
   obtain ⟨z,inf,hi,hz,hz',hcr⟩:=zeroA_run (P:=P) (H:=[]) (μ:=μ) (w:=w) (S:=S) c3
   have hb:inf.bytes=P.bytesOf e':=by simp[Program.bytesOf,hi]
   have hsi:inf.size=width k:=by rw[cw];exact (cellsOf_info hi).symm
   have hzs:z.cells.size=width k:=by rw[←hcr.1,c4,cw]
   obtain ⟨news,hsrc,hel⟩:=hx _ c6
   rw[←hsi] at hsrc
   generalize hys:asL k (view1 H x)=ys at*
   have hblk:=hr.hr.blk b
   rw[hbk] at hblk
   obtain ⟨hns,hrow0⟩:=hblk
   obtain ⟨len,hlen,hfit,hsub⟩:∃len,len=winN xs.length off lw∧off+len≤xs.length∧Sub (μ b) xs.length (width k) off len vs:=by
    cases hs with
    |pv h=>cases h
    |sl _ _ _ _ ln r A c hr' hle hlc hA hcur=>
     rw[hbk] at hr'
     simp only[rdOf,Option.some.injEq] at hr'
     subst hr'
     exact ⟨ln,hcur rfl⟩
   rw[←hlen] at c7
   have hn:off+len=xs.length:=by
    cases lw with
    |none=>simp only[winN] at hlen;simp only[endsAt,Nat.ble_eq] at hend;omega
    |some l=>simp only[winN] at hlen;simp only[endsAt,beq_iff_eq] at hend;omega
   have hdl:(xs.drop off).length=len:=by rw[List.length_drop];omega
   have main:∃v' w',(Builtin.append_ #[t,tx] ty #[vs,vx]).run P w= .ok v' w'∧RowV w' S0.own (PC w' S) v' e' k (xs.drop off++ys)∧Appended w w' (μ b) v':=by
    rcases hrow0.tail hsub hn with ⟨ht,hbv⟩|⟨h0l,hoff,A',hv'⟩
    ·obtain ⟨v',w',q1,q2,q3⟩:=append_core (P:=P) (ty:=ty) (t:=t) hdl rfl ht hel hsrc (elemT_spec he) hi hz' hsi hzs (by omega) hr.hr.stab (fun B hB=>hns B (hbv B hB)) (hr.fresh _ hr.below.size) (by rw[hb];exact c7)
     exact ⟨v',w',q1,q2,q3.os,q3.tape,q3.output,q3.size,fun B h1 h2=>q3.old B h1 fun h=>h2 (hbv B h),fun B h=>(q3.new B h).imp (hbv B) id⟩
    ·subst h0l
     subst hv'
     have hm0:0<ys.length:=by omega
     have hde:xs.drop off=[]:=List.eq_nil_of_length_eq_zero hdl
     have hnm:ys.length≤140737488355328:=Nat.le_trans (Nat.le_mul_of_pos_right _ c2) (by simpa using c7)
     have hgr:=run_append_grow_src w t tx ty e' inf z (elemT_spec he) hi hz' (some A') 0 0 [] (run_firstCells_some w.drew inf.size 0 A' 0 0 [] (by simp) (fun j u h=>by simp at h)) vx ys.length news hsrc (by omega) (by omega) (growslice_fits (by omega) (by rw[hb];exact c7))
     refine ⟨_,_,hgr,?_,appended_fresh⟩
     rw[hde,List.nil_append]
     have:=fresh_row (w:=w) (M:=S0.own) (e:=e') (cells:=(([]++news).toArray++Builtin.zeroCells z.cells (grownCap w (0+ys.length) 0 e'-(0+ys.length)))) hel (by rw[Nat.zero_add]) hr.hr.stab (hr.fresh _ hr.below.size) (grownCap_ge w (0+ys.length) 0 e') (grownCap_le_maxLen w (0+ys.length) 0 e' (by simp only[maxLen];omega)) hzs (by simp)
     simpa using this
   obtain ⟨v',w',hrun,hrow,hap⟩:=main
   have hx':Ext H μ (put H b (.row (ver+1) e' k (xs.drop off++ys))) (setI μ b v'):=Ext.row hbk (by omega) (fun h=>absurd h (by omega))
   have hSB:∀B,S B→w'.heap[B]?=w.heap[B]?:=fun B h=>hap.old B (hr.hr.stab B h) (fun e=>hns B e h)
   have hnS':∀B,Owns v' B→¬S B:=fun B h hS=>by
    rcases hap.new B h with h|h
    ·exact hns B h hS
    ·have:=hr.hr.stab B hS;omega
   have hlt':b<H.length:=lt_of_live (by rw[hbk];simp)
   have hh:=hr.hr.change (by rw[hbk];trivial) hx' hap.size hap.old hns hap.new (x:= .row (ver+1) e' k (xs.drop off++ys)) ⟨by simpa [setI] using hnS',by simpa [setI] using hrow⟩
   refine ⟨v',w',hrun,setI μ b v',S,⟨hh,?_,hr.sub,hr.sup,hr.fresh,hr.pins.ext hx'⟩,hx',fun _ h=>h,hSB,?_⟩
   ·refine hr.below.trans ⟨hap.os,hap.tape,hap.output,hap.size,fun q hq hM=>hap.old q hq fun hB=>hM (hr.hr.rowBase hbk hB)⟩
   ·exact rowV_sl (by rw[show sets H [(b,Blk.row (ver+1) e' k (xs.drop off++ys))]=put H b _ from rfl,nth_put_eq hlt'];rfl) (by simp[setI]) hrow
def RawRow (w:World) (M:Nat→Prop) (v:Value) (e:TypeId) (sz n:Nat) (olds:List Value):Prop:=
 (v= .slice none 0 0∧n=0∧olds=[])∨∃B o cap cur,v= .slice (some ⟨B,o,none⟩) n cap∧M B∧w.heap[B]?=some (.cells cur e (0,0))∧n≤cap∧cap≤maxLen∧cur.size=o+cap*sz∧(cur.toList.drop o).take (n*sz)=olds
theorem append_raw {n m sz:Nat} {M:Nat→Prop} {t tx ty e:TypeId} {v vx:Value} {olds news:List Value} {inf:TypeInfo} {z:Value} (hrow:RawRow w M v e sz n olds) (hol:olds.length=n*sz) (hnl:news.length=m*sz) (hs:Src P inf.size tx vx m news w) (ht:P.underlying t=some (.slice e)) (hi:P.info? e=some inf) (hz:inf.zero=some z) (hsz:inf.size=sz) (hzs:z.cells.size=sz) (hbp:0<inf.bytes) (hp:0<sz)
  (hbase:M w.heap.size) (hb:(n+m)*inf.bytes≤140737488355328):
  ∃v' w',(Builtin.append_ #[t,tx] ty #[v,vx]).run P w= .ok v' w'∧RawRow w' M v' e sz (n+m) (olds++news)∧Appended w w' v v':=by
 subst hsz
 have hnm:n+m≤140737488355328:=Nat.le_trans (Nat.le_mul_of_pos_right _ hbp) hb
 have hml:n+m≤maxLen:=by simp only[maxLen];omega
 have fresh:∀ {N cap:Nat} {l:List Value} {cells:Array Value},l.length=N*inf.size→N≤cap→cap≤maxLen→cells=l.toArray++Builtin.zeroCells z.cells (cap-N)→RawRow (w.drew.alloc (.cells cells e)) M (.slice (some ⟨w.heap.size,0,none⟩) N cap) e inf.size N l:=fun {N cap l cells} h1 h2 h3 h4=>by
  refine .inr ⟨w.heap.size,0,cap,cells,rfl,hbase,heap_alloc_new w.drew _,h2,h3,?_,?_⟩
  ·rw[h4,Array.size_append,size_zeroCells,hzs,List.size_toArray,h1,←Nat.add_mul,Nat.zero_add]
   congr 1;omega
  ·rw[h4,Array.toList_append,List.drop_zero,←h1]
   exact List.take_left
 have hjl:(olds++news).length=(n+m)*inf.size:=by rw[List.length_append,hol,hnl,Nat.add_mul]
 rcases Nat.eq_zero_or_pos m with h0|h0
 ·subst h0
  have hn0:news=[]:=List.eq_nil_of_length_eq_zero (by rw[hnl,Nat.zero_mul])
  subst hn0
  refine ⟨v,w,?_,by rw[List.append_nil];exact hrow,appended_refl⟩
  rcases hrow with ⟨rfl,_⟩|⟨B,o,cap,cur,rfl,_,_,h3,_⟩
  ·exact run_append_none ht hi (Nat.le_refl _) hs
  ·exact run_append_none ht hi h3 hs
 ·rcases hrow with ⟨rfl,rfl,rfl⟩|⟨B,o,cap,cur,rfl,h1,h2,h3,h4,h5,hel⟩
  ·have hr:=run_append_grow_src w t tx ty e inf z ht hi hz none 0 0 [] (run_firstCells_none w.drew inf.size 0 0 0) vx m news hs (by omega) (by omega) (growslice_fits (by omega) hb)
   exact ⟨_,_,hr,fresh (by simpa using hjl) (grownCap_ge w (0+m) 0 e) (grownCap_le_maxLen w (0+m) 0 e (by omega)) (by simp),appended_fresh⟩
  ·by_cases hroom:n+m≤cap
   ·have hfit:o+n*inf.size+news.length≤cur.size:=by
     rw[hnl,h5]
     have:=Nat.mul_le_mul_right inf.size hroom
     rw[Nat.add_mul] at this;omega
    have hr:=run_append_in (P:=P) (w:=w) (t:=t) (tx:=tx) (ty:=ty) (e:=e) (i:=inf) ht hi (g:=B) (o:=o) (sLen:=n) (sCap:=cap) h2 hs hroom hfit
    refine ⟨_,_,hr, .inr ⟨B,o,cap,_,rfl,h1,setRow_heap w B cur _ e _ h2,hroom,h4,?_,?_⟩,⟨rfl,rfl,rfl,by simp,fun B' _ h=>setRow_other w B B' _ (fun e=>h (by rw[e];rfl)),fun B' h=> .inl h⟩⟩
    ·simp only[List.size_toArray,List.length_append,List.length_take,List.length_drop,Array.length_toList]
     omega
    ·have e1:cur.toList.take (o+n*inf.size)=cur.toList.take o++(cur.toList.drop o).take (n*inf.size):=by
      rw[List.take_add]
     have e2:(cur.toList.take o).length=o:=by rw[List.length_take,Array.length_toList];omega
     simp only[e1,List.append_assoc]
     rw[List.drop_left' e2,←List.append_assoc,hel,←hjl]
     exact List.take_left
   ·have holds:∀j u,olds[j]?=some u→w.cell? ((⟨B,o,none⟩:Addr).add j)=some u:=fun j u h=>by
     rw[←hel,List.getElem?_take] at h
     split at h
     ·rw[List.getElem?_drop] at h
      rw[Addr.add_lit,cell_of_row w B _ cur _ (0,0) h2];simpa using h
     ·cases h
    have hr:=run_append_grow_src w t tx ty e inf z ht hi hz (some ⟨B,o,none⟩) n cap _ (run_firstCells_some w.drew inf.size n ⟨B,o,none⟩ n cap _ hol (fun j u h=>by simpa using holds j u h)) vx m news hs (by omega) (by omega) (growslice_fits (by omega) hb)
    exact ⟨_,_,hr,fresh hjl (grownCap_ge w _ cap e) (grownCap_le_maxLen w _ cap e hml) (by simp),appended_fresh⟩
structure EltT (w:World) (M S:Nat→Prop) (os:List TypeId) (k:CK) (xs:List (CT k)) (news:List Value) (F:Nat→Nat→Value):Prop where
 len:news.length=xs.length*width k
 pure:∀i j,i<xs.length→j<width k→ownC os k j=none→PC w S (nth .junk (gt k xs i) j) (news.getD (i*width k+j) undef)∧F i j=undef
 tab:∀i j e2 k2,i<xs.length→j<width k→ownC os k j=some (e2,k2)→TabV w M S os none e2 k2 (asL k2 (nth .junk (gt k xs i) j)) (F i j)
 hdr:∀i j e2 k2,i<xs.length→j<width k→ownC os k j=some (e2,k2)→(news.getD (i*width k+j) undef).oneCell'=true∧news.getD (i*width k+j) undef=hd (F i j)
 apart:∀i j i' j' B',i<xs.length→j<width k→i'<xs.length→j'<width k→(i≠i'∨j≠j')→Owns (F i j) B'→¬Owns (F i' j') B'
theorem idx_lt {i j n sz:Nat} (hi:i<n) (hj:j<sz):i*sz+j<n*sz:=by
 have:(i+1)*sz≤n*sz:=Nat.mul_le_mul_right _ hi
 rw[Nat.add_mul] at this;omega
theorem EltT.one {M:Nat→Prop} {k:CK} {xs:List (CT k)} {news:List Value} {F:Nat→Nat→Value} (h:EltT w M S os k xs news F):∀u∈news,u.oneCell'=true:=by
 intro u hu
 obtain ⟨q,hk,rfl⟩:=List.getElem_of_mem hu
 have hsz:=width_pos k
 have hk':=hk
 rw[h.len] at hk
 have h1:q / width k<xs.length:=Nat.div_lt_of_lt_mul (by rw[Nat.mul_comm];exact hk)
 have e:q / width k*width k+q % width k=q:=by rw[Nat.mul_comm];exact Nat.div_add_mod q _
 have key:(news.getD (q / width k*width k+q % width k) undef).oneCell'=true:=by
  cases ho:ownC os k (q % width k) with
  |none=>exact (h.pure _ _ h1 (Nat.mod_lt _ hsz) ho).1.2
  |some ek=>exact (h.hdr _ _ ek.1 ek.2 h1 (Nat.mod_lt _ hsz) ho).1
 rw[e,List.getD_eq_getElem?_getD,List.getElem?_eq_getElem hk'] at key
 exact key
theorem EltT.imp {w':World} {M M' S':Nat→Prop} {k:CK} {xs:List (CT k)} {news:List Value} {F:Nat→Nat→Value} (h:EltT w M S os k xs news F) (hb:∀B,M B→M' B) (hw:∀i j B,i<xs.length→j<width k→Owns (F i j) B→w'.heap[B]?=w.heap[B]?) (hR:∀x y,PC w S x y→PC w' S' x y):EltT w' M' S' os k xs news F:=
 ⟨h.len,fun i j hi hj ho=>⟨hR _ _ (h.pure i j hi hj ho).1,(h.pure i j hi hj ho).2⟩,fun i j e2 k2 hi hj ho=>(h.tab i j e2 k2 hi hj ho).imp hb (fun B hB=>hw i j B hi hj hB) hR,h.hdr,h.apart⟩
theorem EltT.join {M:Nat→Prop} {k:CK} {xs ys:List (CT k)} {olds news:List Value} {F G:Nat→Nat→Value} (h:EltT w M S os k xs olds F) (h':EltT w M S os k ys news G) (hd:∀i j i' j' B,i<xs.length→j<width k→i'<ys.length→j'<width k→Owns (F i j) B→¬Owns (G i' j') B):
  EltT w M S os k (xs++ys) (olds++news) (fun i j=>if i<xs.length then F i j else G (i-xs.length) j):=by
 have hol:=h.len
 have c1:∀i j,i<xs.length→j<width k→(olds++news).getD (i*width k+j) undef=olds.getD (i*width k+j) undef:=fun i j hi hj=>by
  have:=idx_lt hi hj
  rw[List.getD_eq_getElem?_getD,List.getElem?_append_left (by omega),←List.getD_eq_getElem?_getD]
 have c2:∀i j,xs.length≤i→j<width k→(olds++news).getD (i*width k+j) undef=news.getD ((i-xs.length)*width k+j) undef:=fun i j hi hj=>by
  have h1:xs.length*width k≤i*width k:=Nat.mul_le_mul_right _ hi
  have e:i*width k+j-olds.length=(i-xs.length)*width k+j:=by
   rw[hol,Nat.sub_mul];omega
  rw[List.getD_eq_getElem?_getD,List.getElem?_append_right (by omega),←List.getD_eq_getElem?_getD,e]
 refine ⟨by rw[List.length_append,hol,h'.len,List.length_append,Nat.add_mul],fun i j hi hj ho=> ?_,fun i j e2 k2 hi hj ho=> ?_,fun i j e2 k2 hi hj ho=> ?_,fun i j i' j' B hi hj hi' hj' hne h3 h4=> ?_⟩
 ·rw[List.length_append] at hi
  by_cases hn:i<xs.length
  ·rw[gt_append_left hn,c1 i j hn hj];simp only[if_pos hn];exact h.pure i j hn hj ho
  ·rw[gt_append_right (by omega),c2 i j (by omega) hj];simp only[if_neg hn];exact h'.pure _ j (by omega) hj ho
 ·rw[List.length_append] at hi
  by_cases hn:i<xs.length
  ·rw[gt_append_left hn];simp only[if_pos hn];exact h.tab i j e2 k2 hn hj ho
  ·rw[gt_append_right (by omega)];simp only[if_neg hn];exact h'.tab _ j e2 k2 (by omega) hj ho
 ·rw[List.length_append] at hi
  by_cases hn:i<xs.length
  ·rw[c1 i j hn hj];simp only[if_pos hn];exact h.hdr i j e2 k2 hn hj ho
  ·rw[c2 i j (by omega) hj];simp only[if_neg hn];exact h'.hdr _ j e2 k2 (by omega) hj ho
 ·rw[List.length_append] at hi hi'
  by_cases hn:i<xs.length<;>by_cases hn':i'<xs.length
  ·simp only[if_pos hn] at h3;simp only[if_pos hn'] at h4
   exact h.apart i j i' j' B hn hj hn' hj' hne h3 h4
  ·simp only[if_pos hn] at h3;simp only[if_neg hn'] at h4
   exact hd i j _ j' B hn hj (by omega) hj' h3 h4
  ·simp only[if_neg hn] at h3;simp only[if_pos hn'] at h4
   exact hd i' j' _ j B hn' hj' (by omega) hj h4 h3
  ·simp only[if_neg hn] at h3;simp only[if_neg hn'] at h4
   exact h'.apart _ j _ j' B (by omega) hj (by omega) hj' (by omega) h3 h4
theorem TabV.elts {M:Nat→Prop} {e:TypeId} {k:CK} {xs:List (CT k)} {m:Value} (h:TabV w M S os none e k xs m):∃olds F,RawRow w M (hd m) e (width k) xs.length olds∧EltT w M S os k xs olds F∧(∀B,Owns (hd m) B→Owns m B)∧(∀i j B,i<xs.length→j<width k→Owns (F i j) B→Owns m B∧¬Owns (hd m) B):=by
 rcases h.inv (by simp) with ⟨rfl,rfl⟩|⟨B,o,cap,cur,F,rfl,r⟩
 ·exact ⟨[],fun _ _=>undef, .inl ⟨hd_img,rfl,rfl⟩,⟨by simp,fun i j hi=>absurd hi (by simp),fun i j _ _ hi=>absurd hi (by simp),fun i j _ _ hi=>absurd hi (by simp),fun i j _ _ _ hi=>absurd hi (by simp)⟩,fun B h=>(by rw[hd_img] at h;cases h),fun i j B hi=>absurd hi (by simp)⟩
 ·have hlen:((cur.toList.drop o).take (xs.length*width k)).length=xs.length*width k:=by
   rw[List.length_take,List.length_drop,show cur.toList.length=cur.size from Array.length_toList,r.sz]
   have:=Nat.mul_le_mul_right (width k) r.le
   omega
  have hc:∀i j,i<xs.length→j<width k→((cur.toList.drop o).take (xs.length*width k)).getD (i*width k+j) undef=cur.getD (o+(i*width k+j)) undef:=fun i j hi hj=>by
   rw[List.getD_eq_getElem?_getD,List.getElem?_take,if_pos (idx_lt hi hj),List.getElem?_drop,Array.getD_eq_getD_getElem?];simp
  refine ⟨(cur.toList.drop o).take (xs.length*width k),F, .inr ⟨B,o,cap,cur,hd_img,r.own,r.at',r.le,r.max,r.sz,rfl⟩,⟨hlen,fun i j hi hj ho=> ?_,fun i j e2 k2 hi hj ho=> ?_,fun i j e2 k2 hi hj ho=> ?_,r.apart⟩,fun B' h=> ?_,fun i j B' hi hj h=>⟨(owns_img (by simp)).2 (.inr ⟨i,j,hi,hj,h⟩),fun h'=> ?_⟩⟩
  ·rw[hc i j hi hj];exact r.pure i j hi hj ho
  ·have:=r.tab i j e2 k2 hi hj ho;rw[hsub_none] at this;exact this
  ·rw[hc i j hi hj]
   have:=r.hdr i j e2 k2 hi hj ho
   exact ⟨this.1,this.2 (by rw[hsub_none];simp)⟩
  ·rw[hd_img] at h;exact (owns_img (by simp)).2 (.inl h)
  ·rw[hd_img] at h'
   simp only[Owns,blkOf,Option.some.injEq] at h'
   exact r.apart0 i j hi hj (h'▸h)
theorem EltT.tabv {M:Nat→Prop} {e:TypeId} {k:CK} {xs:List (CT k)} {v:Value} {olds:List Value} {F:Nat→Nat→Value} (hr:RawRow w M v e (width k) xs.length olds) (h:EltT w M S os k xs olds F) (h0:∀i j B,i<xs.length→j<width k→Owns (F i j) B→¬Owns v B):
  ∃m,TabV w M S os none e k xs m∧hd m=v∧∀B,Owns m B→Owns v B∨∃i j,i<xs.length∧j<width k∧Owns (F i j) B:=by
 rcases hr with ⟨rfl,hx,_⟩|⟨B,o,cap,cur,rfl,h1,h2,h3,h4,h5,rfl⟩
 ·exact ⟨_, .nil _ _ _ _ (by simp) (List.eq_nil_of_length_eq_zero hx),hd_img,fun B h=>absurd h nil_owns⟩
 ·have hc:∀i j,i<xs.length→j<width k→((cur.toList.drop o).take (xs.length*width k)).getD (i*width k+j) undef=cur.getD (o+(i*width k+j)) undef:=fun i j hi hj=>by
   rw[List.getD_eq_getElem?_getD,List.getElem?_take,if_pos (idx_lt hi hj),List.getElem?_drop,Array.getD_eq_getD_getElem?];simp
  refine ⟨_, .row none e k xs xs.length B o cap cur F (by simp) rfl h1 h2 h3 h4 h5 (fun i j hi hj ho=> ?_) (fun i j e2 k2 hi hj ho=> ?_) (fun i j e2 k2 hi hj ho=> ?_) h.apart (fun i j hi hj hB=>h0 i j B hi hj hB rfl),hd_img,fun B' hB'=> ?_⟩
  ·rw[←hc i j hi hj];exact h.pure i j hi hj ho
  ·rw[hsub_none];exact h.tab i j e2 k2 hi hj ho
  ·rw[←hc i j hi hj]
   have:=h.hdr i j e2 k2 hi hj ho
   exact ⟨this.1,fun _=>this.2⟩
  ·rcases (owns_img (by simp)).1 hB' with h|⟨i,j,hi,hj,h⟩
   ·exact .inl h
   ·exact .inr ⟨i,j,hi,hj,h⟩
theorem elemOk_spec (w:World) {e:TypeId} {k:CK} {n:Nat} (h:elemOk P e k n=true):∃inf z,P.info? e=some inf∧inf.zero=some z∧inf.size=width k∧z.cells.size=width k∧0<inf.bytes∧0<width k∧n*inf.bytes≤140737488355328:=by
 simp only[elemOk,Bool.and_eq_true,beq_iff_eq,Nat.blt_eq,decide_eq_true_eq] at h
 obtain ⟨⟨c1,c2⟩,c3,⟨c4,c5⟩,c6⟩:=h
 obtain ⟨z,inf,hi,hz,hz',hcr⟩:=zeroA_run (P:=P) (H:=[]) (μ:=fun _=>undef) (w:=w) (S:=fun _=>False) c4
 have hb:inf.bytes=P.bytesOf e:=by simp[Program.bytesOf,hi]
 exact ⟨inf,z,hi,hz',by rw[c1];exact (cellsOf_info hi).symm,by rw[←hcr.1,c5,c1],by omega,c2,by rw[hb];exact c6⟩
theorem RawRow.src {M:Nat→Prop} {v:Value} {e tx e':TypeId} {sz n:Nat} {news:List Value} (h:RawRow w M v e sz n news) (hk:P.underlying tx=some (.slice e')) (hl:news.length=n*sz) (h1:∀u∈news,u.oneCell'=true):Src P sz tx v n news w:=by
 rcases h with ⟨rfl,rfl,rfl⟩|⟨B,o,cap,cur,rfl,_,hg,_,_,_,rfl⟩
 ·exact Src.ofNil w hk 0
 ·refine Src.ofSlice w hk ⟨B,o,none⟩ _ cap _ hl (fun j u hu=> ?_) h1
  rw[List.getElem?_take] at hu
  split at hu
  ·rw[List.getElem?_drop] at hu
   rw[Addr.add_lit,cell_of_row w B _ cur _ (0,0) hg]
   simpa using hu
  ·cases hu
theorem appendTT_after {b ver:Nat} {t tx ty e':TypeId} {x:AV} {vs vx:Value} (hr:RepAt w0 S0 H μ S w) (hs:VR H μ w S (.tsl b ver []) vs) (hx:VR H μ w S x vx) (htx:P.underlying tx=some (.slice e')) (hc:(appendTT P t H b ver x).chk=true):
  ∃u w',(Builtin.append_ #[t,tx] ty #[vs,vx]).run P w= .ok u w'∧After w0 S0 H μ S w (appendTT P t H b ver x) u w':=by
 unfold appendTT appendTTb at hc⊢
 split at hc
 ·rename_i bv iv e k os xs hole c cv p hb
  split at hc
  ·rename_i cv' civ ec kc osc ys hole' hcb
   replace hcb:nth .free H c= .tab false cv' civ ec kc osc ys hole':=hcb
   simp only[Bool.and_eq_true,beq_iff_eq,decide_eq_true_eq,Bool.not_eq_true',List.isEmpty_iff,Option.isNone_iff_eq_none,beq_eq_false_iff_ne] at hc
   obtain ⟨⟨⟨rfl,rfl⟩,rfl,rfl,rfl⟩,hbc,rfl,rfl,he,hel⟩:=hc
   simp only[hb,refBlk,hcb,asL_ro]
   obtain ⟨inf,z,hi,hz,hsz,hzs,hbp,hwp,hbound⟩:=elemOk_spec w hel
   have hblkb:=hr.hr.blk b
   rw[hb] at hblkb
   have hblkc:=hr.hr.blk c
   rw[hcb] at hblkc
   have tkb:takeable (nth .free H b)=true:=by rw[hb];rfl
   have tkc:takeable (nth .free H c)=true:=by rw[hcb];rfl
   have hvs:hd (μ b)=vs:=by
    cases hs with
    |pv h=>cases h
    |tsl _ _ _ d n A cc hd hle h3=>
     rw[hb] at hd
     simp only[tabD,Option.some.injEq] at hd
     subst hd
     exact (h3 rfl).2.1
   have hvx:hd (μ c)=vx:=by
    cases hx with
    |pv h=>cases h
    |tsl _ _ _ d n A cc hd hle h3=>
     rw[hcb] at hd
     simp only[tabD,Option.some.injEq] at hd
     subst hd
     exact (h3 rfl).2.1
   obtain ⟨olds,F,b1,b2,b3,b4⟩:=hblkb.2.elts
   obtain ⟨news,G,g1,g2,g3,g4⟩:=hblkc.2.elts
   rw[hvs] at b1 b3 b4
   rw[hvx] at g1
   have hbcd:∀B,Owns (μ b) B→¬Owns (μ c) B:=fun B=>hr.hr.inj b c B (take_live tkb) (take_live tkc) hbc
   obtain ⟨v',w',hrun,hraw,hap⟩:=append_raw (P:=P) (ty:=ty) (t:=t) b1 b2.len g2.len (by rw[hsz];exact g1.src htx g2.len g2.one) (elemT_spec he) hi hz hsz hzs hbp hwp (hr.fresh _ hr.below.size) hbound
   have hnS:∀B,Owns vs B→¬S B:=fun B h=>hblkb.1 B (b3 B h)
   have hSB:∀B,S B→w'.heap[B]?=w.heap[B]?:=fun B h=>hap.old B (hr.hr.stab B h) (fun e=>hnS B e h)
   have hPC:∀a c,PC w S a c→PC w' S a c:=fun a c h=>h.mono (fun _ h=>h) hSB
   have hF:∀i j B,i<xs.length→j<width kc→Owns (F i j) B→w'.heap[B]?=w.heap[B]?:=fun i j B hi hj h=>hap.old B (hr.hr.old (take_free tkb) (b4 i j B hi hj h).1) (b4 i j B hi hj h).2
   have hG:∀i j B,i<ys.length→j<width kc→Owns (G i j) B→w'.heap[B]?=w.heap[B]?:=fun i j B hi hj h=>hap.old B (hr.hr.old (take_free tkc) (g4 i j B hi hj h).1) fun h'=>hbcd B (b3 B h') (g4 i j B hi hj h).1
   have hjoin:=(b2.imp (fun _ h=>h) hF hPC).join (g2.imp (fun _ h=>h) hG hPC) fun i j i' j' B hi hj hi' hj' h1 h2=>hbcd B (b4 i j B hi hj h1).1 (g4 i' j' B hi' hj' h2).1
   rw[←List.length_append] at hraw
   have hown:∀i j B,i<(xs++ys).length→j<width kc→Owns (if i<xs.length then F i j else G (i-xs.length) j) B→(Owns (μ b) B∨Owns (μ c) B)∧¬Owns vs B:=fun i j B hi hj h=>by
    rw[List.length_append] at hi
    by_cases hn:i<xs.length
    ·rw[if_pos hn] at h;exact ⟨.inl (b4 i j B hn hj h).1,(b4 i j B hn hj h).2⟩
    ·rw[if_neg hn] at h
     have:=(g4 _ j B (by omega) hj h).1
     exact ⟨.inr this,fun h'=>hbcd B (b3 B h') this⟩
   obtain ⟨m',m1,m2,m3⟩:=EltT.tabv (os:=osc) hraw hjoin fun i j B hi hj h h'=>by
    obtain ⟨h1,h2⟩:=hown i j B hi hj h
    rcases hap.new B h' with h3|h3
    ·exact h2 h3
    ·rcases h1 with h1|h1
     ·have:=hr.hr.old (take_free tkb) h1;omega
     ·have:=hr.hr.old (take_free tkc) h1;omega
   have hx':Ext H μ (put H b (.tab false (ver+1) (iv+1) e kc osc (xs++ys) none)) (setI μ b m'):=
    Ext.tab (d:=⟨ver,iv,e,kc,osc,xs,none⟩) (d':=⟨ver+1,iv+1,e,kc,osc,xs++ys,none⟩) (by rw[hb];rfl) (Nat.le_succ _) (Nat.le_succ _) fun p hp=>by cases p<;>simp[TD.vp] at hp
   obtain ⟨t1,t2,t3⟩:=hr.hr.take (l:=[c]) (b:=b) (x:= .tab false (ver+1) (iv+1) e kc osc (xs++ys) none) (v:=m') (w':=w') (fun c' hc'=>by simp at hc';rw[hc'];exact tkc) (by simpa using hbc) (lt_of_live (take_free tkb)) (.inr tkb) hx' hap.size
    (fun B hB hne=>hap.old B hB fun h=>hne ⟨tkb,b3 B h⟩) (fun B hB=>by
     rcases m3 B hB with h|⟨i,j,hi,hj,h⟩
     ·rcases hap.new B h with h|h
      ·exact .inl ⟨tkb,b3 B h⟩
      ·exact .inr (.inr h)
     ·rcases (hown i j B hi hj h).1 with h|h
      ·exact .inl ⟨tkb,h⟩
      ·exact .inr (.inl ⟨c,by simp,h⟩)) (fun H' μ' e hns=>⟨by rw[e];exact hns,by rw[e];exact m1⟩)
   have hwr:[c].map (deadB H)++[(b,Blk.tab false (ver+1) (iv+1) e kc osc (xs++ys) none)]=[(c, .tab false (cv+1) (civ+1) ec kc osc [] none),(b, .tab false (ver+1) (iv+1) e kc osc (xs++ys) none)]:=by
    simp only[List.map_cons,List.map_nil,deadB,hcb];rfl
   rw[hwr] at t1 t2 t3
   have hfin:nth .free (sets H [(c, .tab false (cv+1) (civ+1) ec kc osc [] none),(b, .tab false (ver+1) (iv+1) e kc osc (xs++ys) none)]) b= .tab false (ver+1) (iv+1) e kc osc (xs++ys) none:=
    nth_put_eq (by rw[put_length];exact lt_of_live (take_free tkb))
   exact ⟨v',w',hrun,_,S,⟨t1,hr.below.trans ⟨hap.os,hap.tape,hap.output,hap.size,fun q hq hM=>hap.old q hq fun hB=>hM (take_own hr.hr tkb (b3 q hB))⟩,hr.sub,hr.sup,hr.fresh,hr.pins.ext t2⟩,t2,fun _ h=>h,hSB,vr_tab hfin (by simp[setI]) m2 m1⟩
  ·cases hc
 ·cases hc
theorem appendNT_after {base:Nat} {t tx ty e':TypeId} {x:AV} {vs vx:Value} (hr:RepAt w0 S0 H μ S w) (hf:FreeAt H base 1) (hs:VR H μ w S .nils vs) (hx:VR H μ w S x vx) (htx:P.underlying tx=some (.slice e')) (hc:(appendNT P t H base x).chk=true):
  ∃u w',(Builtin.append_ #[t,tx] ty #[vs,vx]).run P w= .ok u w'∧After w0 S0 H μ S w (appendNT P t H base x) u w':=by
 obtain ⟨h0,hlt⟩:=hf.zero (by omega)
 unfold appendNT at hc⊢
 split at hc
 ·rename_i c cv p
  split at hc
  ·rename_i cv' civ e k os ys hole' hcb
   simp only[Bool.and_eq_true,beq_iff_eq,decide_eq_true_eq,List.isEmpty_iff,Option.isNone_iff_eq_none] at hc
   obtain ⟨⟨rfl,rfl,rfl⟩,he,hel⟩:=hc
   obtain ⟨inf,z,hi,hz,hsz,hzs,hbp,hwp,hbound⟩:=elemOk_spec w hel
   have hblkc:=hr.hr.blk c
   rw[hcb] at hblkc
   have tkc:takeable (nth .free H c)=true:=by rw[hcb];rfl
   have hvx:hd (μ c)=vx:=by
    cases hx with
    |pv h=>cases h
    |tsl _ _ _ d n A cc hd hle h3=>
     rw[hcb] at hd
     simp only[tabD,Option.some.injEq] at hd
     subst hd
     exact (h3 rfl).2.1
   obtain ⟨news,G,g1,g2,g3,g4⟩:=hblkc.2.elts
   rw[hvx] at g1
   rw[vr_nils hs]
   obtain ⟨v',w',hrun,hraw,hap⟩:=append_raw (P:=P) (ty:=ty) (t:=t) (w:=w) (M:=S0.own) (v:= .slice none 0 0) (n:=0) (olds:=[]) (e:=e) (.inl ⟨rfl,rfl,rfl⟩) (by simp) g2.len (by rw[hsz];exact g1.src htx g2.len g2.one) (elemT_spec he) hi hz hsz hzs hbp hwp (hr.fresh _ hr.below.size) (by rw[Nat.zero_add];exact hbound)
   rw[List.nil_append,Nat.zero_add] at hraw
   have hgr:Grow w w':=⟨hap.os,hap.tape,hap.output,hap.size,fun B h=>hap.old B h (by simp[Owns,blkOf])⟩
   have hnew:∀B,Owns v' B→w.heap.size≤B:=fun B h=>(hap.new B h).elim (fun h=>by simp[Owns,blkOf] at h) id
   have hSB:∀B,S B→w'.heap[B]?=w.heap[B]?:=fun B h=>hgr.old B (hr.hr.stab B h)
   have hG:∀i j B,i<ys.length→j<width k→Owns (G i j) B→w'.heap[B]?=w.heap[B]?:=fun i j B hi hj h=>hgr.old B (hr.hr.old (take_free tkc) (g4 i j B hi hj h).1)
   obtain ⟨m',m1,m2,m3⟩:=EltT.tabv (os:=os) hraw (g2.imp (fun _ h=>h) hG fun a c h=>h.mono (fun _ h=>h) hSB) fun i j B hi hj h h'=>by
    have:=hnew B h'
    have:=hr.hr.old (take_free tkc) (g4 i j B hi hj h).1
    omega
   have hbc:base≠c:=fun e=>by rw[←e,h0] at hcb;cases hcb
   obtain ⟨t1,t2,t3⟩:=hr.hr.take (l:=[c]) (b:=base) (x:= .tab false 0 0 e k os ys none) (v:=m') (w':=w') (fun c' hc'=>by simp at hc';rw[hc'];exact tkc) (by simpa using hbc) hlt (.inl h0) (Ext.setFree h0) hap.size
    (fun B hB _=>hgr.old B hB) (fun B hB=>by
     rcases m3 B hB with h|⟨i,j,hi,hj,h⟩
     ·exact .inr (.inr (hnew B h))
     ·exact .inr (.inl ⟨c,by simp,(g4 i j B hi hj h).1⟩)) (fun H' μ' e hns=>⟨by rw[e];exact hns,by rw[e];exact m1⟩)
   have hwr:[c].map (deadB H)++[(base,Blk.tab false 0 0 e k os ys none)]=[(c, .tab false (cv+1) (civ+1) e k os [] none),(base, .tab false 0 0 e k os ys none)]:=by
    simp only[List.map_cons,List.map_nil,deadB,hcb];rfl
   rw[hwr] at t1 t2 t3
   have hfin:nth .free (sets H [(c, .tab false (cv+1) (civ+1) e k os [] none),(base, .tab false 0 0 e k os ys none)]) base= .tab false 0 0 e k os ys none:=
    nth_put_eq (by rw[put_length];exact hlt)
   exact ⟨v',w',hrun,_,S,⟨t1,hgr.below hr.below,hr.sub,hr.sup,hr.fresh,hr.pins.ext t2⟩,t2,fun _ h=>h,hSB,vr_tab hfin (by simp[setI]) m2 m1⟩
  ·cases hc
 ·cases hc
theorem view1_same {H H':List Blk} {v:AV} (h:∀b∈refs1 v,nth .free H b=nth .free H' b):view1 H v=view1 H' v:=by
 cases v with
 |mp b=>simp only[view1,h b (by simp[refs1])]
 |sl b ver off len=>simp only[view1,h b (by simp[refs1])]
 |tsl b ver p=>simp only[view1,h b (by simp[refs1])]
 |_=>rfl
theorem HR.openT {M:Nat→Prop} {b base:Nat} {d:TD} {p:Pth} (hh:HR H μ w S M) (hb:nth .free H b= .tab false d.ver d.iv d.e d.k d.os d.xs d.hole) (hho:d.hole=none) (hpo:pathOk d.os ⟨d.e,d.k,d.xs⟩ p) (hp:p≠[]) (h0:nth .free H base= .free) (hlt:base<H.length):
  ∃μ',HR (sets H (openW b base p d)) μ' w S M∧Ext H μ (sets H (openW b base p d)) μ'∧VR (sets H (openW b base p d)) μ' w S (rowA d.os (d.nd p).k base) (hdAt (μ b) p)∧nth .free (sets H (openW b base p d)) base=rowK d.os (d.nd p).e (d.nd p).k (d.nd p).xs∧∀i,i≠b→i≠base→nth .free (sets H (openW b base p d)) i=nth .free H i:=by
 have hne:base≠b:=fun e=>by rw[←e,h0] at hb;cases hb
 have tkb:takeable (nth .free H b)=true:=by rw[hb];rfl
 have hblen:b<H.length:=lt_of_live (take_free tkb)
 have hblk:=hh.blk b
 rw[hb,hho] at hblk
 obtain ⟨hnS,htab⟩:=hblk
 obtain ⟨hnode,hown⟩:=TabV.node p ⟨d.e,d.k,d.xs⟩ htab hpo
 rw[show nodeAt d.os ⟨d.e,d.k,d.xs⟩ p=d.nd p from rfl] at hnode
 obtain ⟨A,n,c,e1,e2,e3,hbare⟩:=hnode.hd_slice
 obtain ⟨m',q1,q2,q3,q4,q5,q6⟩:=TabV.ctx (os:=d.os) (S':=S) (w':=w) (h1:=none) (h2:=some []) (f:=fun _ xs=>xs) (m2:=gone (imgAt (μ b) p)) (by simp) (fun _ _ h=>h) p ⟨d.e,d.k,d.xs⟩ htab hpo (.out _ _ _ _ hbare) (fun h=>absurd rfl h) (fun _ _ _=>rfl) (fun B h=>absurd h owns_gone)
 rw[modAt_id p ⟨d.e,d.k,d.xs⟩ hpo,show hcat p (some [])=some p by simp[hcat]] at q1
 have hdp:∀q,hdAt (gone (imgAt (μ b) p)) q=hdAt (imgAt (μ b) p) q:=fun q=>by
  cases q with
  |nil=>exact hd_gone hbare
  |cons x q=>obtain ⟨i,j⟩:=x;simp only[hdAt,imgAt,subI_gone hbare]
 have hm'own:∀B,Owns m' B→Owns (μ b) B∧¬Owns (imgAt (μ b) p) B:=fun B h=>(q4 B h).elim (fun h=>absurd h owns_gone) id
 have hx1:Ext H μ (put H b (.tab false d.ver d.iv d.e d.k d.os d.xs (some p))) (setI μ b m'):=
  Ext.tab (d:=d) (d':=⟨d.ver,d.iv,d.e,d.k,d.os,d.xs,some p⟩) (by rw[hb];rfl) (Nat.le_refl _) (Nat.le_refl _) fun q _ hq=>⟨hq,rfl,rfl,q6 hdp q hq⟩
 have h0':nth .free (put H b (.tab false d.ver d.iv d.e d.k d.os d.xs (some p))) base= .free:=by rw[nth_put_ne hne];exact h0
 obtain ⟨mb,hmb1,hmb2,hmb3⟩:∃mb,(∀B,Owns mb B→Owns (imgAt (μ b) p) B)∧(∀H' μ',μ' base=mb→BlkR H' μ' w S M base (rowK d.os (d.nd p).e (d.nd p).k (d.nd p).xs))∧(∀H' μ',nth .free H' base=rowK d.os (d.nd p).e (d.nd p).k (d.nd p).xs→μ' base=mb→VR H' μ' w S (rowA d.os (d.nd p).k base) (hdAt (μ b) p)):=by
  cases han:anyOwn d.os (d.nd p).k with
  | true=>
   refine ⟨imgAt (μ b) p,fun _ h=>h,fun H' μ' e=> ?_,fun H' μ' e1 e2=> ?_⟩
   ·simp only[rowK,han,cond_true]
    exact ⟨fun B hB=>hnS B (hown B (e▸hB)),by rw[e];exact hnode⟩
   ·simp only[rowK,rowA,han,cond_true] at e1⊢
    exact vr_tab e1 e2 rfl hnode
  | false=>
   obtain ⟨r1,r2⟩:=hnode.toRow han
   refine ⟨hd (imgAt (μ b) p),fun B h=>(r2 B).1 h,fun H' μ' e=> ?_,fun H' μ' e1 e2=> ?_⟩
   ·simp only[rowK,han,cond_false]
    exact ⟨fun B hB=>hnS B (hown B ((r2 B).1 (e▸hB))),by rw[e];exact r1⟩
   ·simp only[rowK,rowA,han,cond_false] at e1⊢
    exact rowV_sl (by rw[e1];rfl) e2 r1
 have hx2:Ext (put H b (.tab false d.ver d.iv d.e d.k d.os d.xs (some p))) (setI μ b m') (put (put H b (.tab false d.ver d.iv d.e d.k d.os d.xs (some p))) base (rowK d.os (d.nd p).e (d.nd p).k (d.nd p).xs)) (setI (setI μ b m') base mb):=Ext.setFree h0'
 have hext:=hx1.trans hx2
 have hset:sets H (openW b base p d)=put (put H b (.tab false d.ver d.iv d.e d.k d.os d.xs (some p))) base (rowK d.os (d.nd p).e (d.nd p).k (d.nd p).xs):=rfl
 have hnb:nth .free (sets H (openW b base p d)) b= .tab false d.ver d.iv d.e d.k d.os d.xs (some p):=by rw[hset,nth_put_ne (Ne.symm hne),nth_put_eq hblen]
 have hnbase:nth .free (sets H (openW b base p d)) base=rowK d.os (d.nd p).e (d.nd p).k (d.nd p).xs:=by rw[hset];exact nth_put_eq (by rw[put_length];exact hlt)
 have hnot:∀i,i≠b→i≠base→nth .free (sets H (openW b base p d)) i=nth .free H i:=fun i h1 h2=>by rw[hset,nth_put_ne h2,nth_put_ne h1]
 have hmub:setI (setI μ b m') base mb b=m':=by simp[setI,Ne.symm hne]
 have hmubase:setI (setI μ b m') base mb base=mb:=by simp[setI]
 have hmunot:∀i,i≠b→i≠base→setI (setI μ b m') base mb i=μ i:=fun i h1 h2=>by simp[setI,h1,h2]
 rw[←hset] at hext
 generalize setI (setI μ b m') base mb=μ' at*
 refine ⟨μ',hh.alter (Ch:=fun i=>i=b∨i=base) (fun i hi=>⟨hnot i (fun e=>hi (.inl e)) (fun e=>hi (.inr e)),hmunot i (fun e=>hi (.inl e)) (fun e=>hi (.inr e))⟩) hext (Nat.le_refl _) (fun _ _ _=>rfl) (fun c B hc hl hB=> ?_) (fun i hi=> ?_) (fun i B hi hl hB=> ?_) (fun i i' B hi hi' hne' hl hl' hB hB'=> ?_),hext,hmb3 _ _ hnbase hmubase,hnbase,hnot⟩
 ·rcases hc with rfl|rfl
  ·exact hnS B hB
  ·rw[h0] at hl;exact absurd hl id
 ·rcases hi with rfl|rfl
  ·rw[hnb]
   exact ⟨fun B hB=>hnS B (hm'own B (hmub▸hB)).1,by rw[hmub];exact q1⟩
  ·rw[hnbase];exact hmb2 _ _ hmubase
 ·rcases hi with rfl|rfl
  ·exact .inl ⟨i, .inl rfl,take_live tkb,(hm'own B (hmub▸hB)).1⟩
  ·exact .inl ⟨b, .inl rfl,take_live tkb,hown B (hmb1 B (hmubase▸hB))⟩
 ·rcases hi with rfl|rfl<;>rcases hi' with rfl|rfl
  ·exact hne' rfl
  ·exact (hm'own B (hmub▸hB)).2 (hmb1 B (hmubase▸hB'))
  ·exact (hm'own B (hmub▸hB')).2 (hmb1 B (hmubase▸hB))
  ·exact hne' rfl
theorem appendIn_after {b base ver:Nat} {p:Pth} {t tx ty:TypeId} {x:AV} {vs vx:Value} (hp:p≠[]) (hr:RepAt w0 S0 H μ S w) (hf:FreeAt H base 1) (hs:VR H μ w S (.tsl b ver p) vs) (hx:∀k,srcOk H x=true→isRo k (view1 H x)=true→∃news,Src P (width k) tx vx (asL k (view1 H x)).length news w∧Elems w S k (asL k (view1 H x)) news)
  (hxt:(∃c v q,x= .tsl c v q)→VR H μ w S x vx∧∃e',P.underlying tx=some (.slice e')) (hc:(appendIn P t H base b ver p x).chk=true):∃u w',(Builtin.append_ #[t,tx] ty #[vs,vx]).run P w= .ok u w'∧After w0 S0 H μ S w (appendIn P t H base b ver p x) u w':=by
 obtain ⟨h0,hlt⟩:=hf.zero (by omega)
 unfold appendIn at hc⊢
 split at hc
 ·rename_i bv iv e k os' xs hole hb
  cases hcond:(ver==iv&&hole.isNone)&&(!(refs1 x).contains b&& !(refs1 x).contains base) with
  |false=>rw[hcond] at hc;cases hc
  | true=>
   rw[hcond] at hc
   simp only[cond_true] at hc⊢
   simp only[Bool.and_eq_true,beq_iff_eq,Option.isNone_iff_eq_none,Bool.not_eq_true'] at hcond
   obtain ⟨⟨rfl,rfl⟩,hnb,hnb'⟩:=hcond
   generalize hd:(TD.mk bv ver e k os' xs none)=d at*
   have hb':nth .free H b= .tab false d.ver d.iv d.e d.k d.os d.xs d.hole:=by rw[←hd];exact hb
   have hos:os'=d.os:=by rw[←hd]
   rw[hos] at hc⊢
   obtain ⟨hpo,hhd⟩:pathOk d.os ⟨d.e,d.k,d.xs⟩ p∧hdAt (μ b) p=vs:=by
    cases hs with
    |pv h=>cases h
    |tsl _ _ _ d' n A cc hd' hle h3=>
     rw[hb'] at hd'
     obtain rfl:d=d':=by simpa [tabD] using hd'
     have hv:ver=d.vp p:=by rw[←hd];cases p<;>first|exact absurd rfl hp|rfl
     exact ⟨(h3 hv).1,(h3 hv).2.1⟩
   obtain ⟨μ1,o1,o2,o3,o4,o5⟩:=hr.hr.openT hb' (by rw[←hd]) hpo hp h0 hlt
   rw[hhd] at o3
   have hr1:RepAt w0 S0 (sets H (openW b base p d)) μ1 S w:=⟨o1,hr.below,hr.sub,hr.sup,hr.fresh,hr.pins.ext o2⟩
   have hview:view1 (sets H (openW b base p d)) x=view1 H x:=view1_same fun c hc=>o5 c (fun e=>absurd (e▸hc) (by simpa using hnb)) (fun e=>absurd (e▸hc) (by simpa using hnb'))
   cases han:anyOwn d.os (d.nd p).k with
   | true=>
    rw[han] at hc
    simp only[cond_true] at hc⊢
    simp only[rowA,han,cond_true] at o3
    have hxx:∃c v q,x= .tsl c v q:=by
     unfold appendTTb at hc
     split at hc
     ·exact ⟨_,_,_,rfl⟩
     ·cases hc
    obtain ⟨hvx,e',he'⟩:=hxt hxx
    have hrb:refBlk (sets H (openW b base p d)) x=refBlk H x:=by
     obtain ⟨c,v,q,rfl⟩:=hxx
     exact o5 c (fun e=>absurd (show b∈refs1 (.tsl c v q) by simp[refs1,e]) (by simpa using hnb)) (fun e=>absurd (show base∈refs1 (.tsl c v q) by simp[refs1,e]) (by simpa using hnb'))
    have heq:appendTT P t (sets H (openW b base p d)) base 0 x=appendTTb P t (rowK d.os (d.nd p).e (d.nd p).k (d.nd p).xs) (refBlk H x) base 0 x:=by
     unfold appendTT;rw[o4,hrb]
    rw[←heq] at hc⊢
    obtain ⟨u,w',q1,μ',S',q2,q3,q4,q5,q6⟩:=appendTT_after (P:=P) (ty:=ty) hr1 o3 (hvx.mono o2 (fun _ h=>h) (fun _ _=>rfl)) he' hc
    exact ⟨u,w',q1,μ',S',by rw[sets_append];exact q2,by rw[sets_append];exact o2.trans q3,q4,q5,by rw[sets_append];exact q6⟩
   | false=>
    rw[han] at hc
    simp only[cond_false] at hc⊢
    simp only[rowA,han,cond_false] at o3
    cases hel:elemT P t with
    |none=>rw[hel] at hc;cases hc
    |some el=>
    rw[hel] at hc
    have heq:appendE0 P t (sets H (openW b base p d)) base (.sl base 0 0 none) x=appendS P el (rowK d.os (d.nd p).e (d.nd p).k (d.nd p).xs) (view1 H x) base 0 0 none:=by
     simp only[appendE0,hel];rw[o4,hview]
    simp only at hc⊢
    rw[←heq] at hc⊢
    simp only[Bool.and_eq_true] at hc
    obtain ⟨u,w',q1,μ',S',q2,q3,q4,q5,q6⟩:=append0_after (P:=P) (ty:=ty) hr1 (fun h=>by cases h) o3 (fun k hk=>by
     rw[hview] at hk⊢
     exact hx k hc.1 hk) hc.2
    exact ⟨u,w',q1,μ',S',by rw[sets_append];exact q2,by rw[sets_append];exact o2.trans q3,q4,q5,by rw[sets_append];exact q6⟩
 ·cases hc
theorem append_after {base:Nat} {t tx ty:TypeId} {s x:AV} {vs vx:Value} (hr:RepAt w0 S0 H μ S w) (hf:FreeAt H base 1) (hs:VR H μ w S s vs) (hx:∀k,srcOk H x=true→isRo k (view1 H x)=true→∃news,Src P (width k) tx vx (asL k (view1 H x)).length news w∧Elems w S k (asL k (view1 H x)) news)
  (hxt:(∃c v q,x= .tsl c v q)→VR H μ w S x vx∧∃e',P.underlying tx=some (.slice e')) (hc:(appendE P t H base s x).chk=true):∃u w',(Builtin.append_ #[t,tx] ty #[vs,vx]).run P w= .ok u w'∧After w0 S0 H μ S w (appendE P t H base s x) u w':=by
 have gen:∀ {f:Eff},f=(bif isNilsA s&&isTab0 H x then appendNT P t H base x else {appendE0 P t H base s x with chk:=srcOk H x&&(appendE0 P t H base s x).chk})→f.chk=true→∃u w',(Builtin.append_ #[t,tx] ty #[vs,vx]).run P w= .ok u w'∧After w0 S0 H μ S w f u w':=fun {f} hf' hcf=>by
  cases hcond:isNilsA s&&isTab0 H x with
  | true=>
   rw[hcond] at hf'
   simp only[cond_true] at hf'
   subst hf'
   simp only[Bool.and_eq_true] at hcond
   have hsn:s= .nils:=by cases s<;>first|rfl|(simp[isNilsA] at hcond)
   subst hsn
   have hxx:∃c v q,x= .tsl c v q:=by
    have h2:=hcond.2
    cases x<;>first|exact ⟨_,_,_,rfl⟩|(simp[isTab0] at h2)
   obtain ⟨hvx,e',he'⟩:=hxt hxx
   exact appendNT_after hr hf hs hvx he' hcf
  |false=>
   rw[hcond] at hf'
   simp only[cond_false] at hf'
   subst hf'
   simp only[Bool.and_eq_true] at hcf
   obtain ⟨u,w',q1,μ',S',q2,q3,q4,q5,q6⟩:=append0_after (P:=P) (ty:=ty) hr (fun _=>hf) hs (fun k hk=>hx k hcf.1 hk) hcf.2
   exact ⟨u,w',q1,μ',S',q2,q3,q4,q5,q6⟩
 cases s with
 | tsl b ver p=>
  cases p with
  | nil=>
   simp only[appendE] at hc⊢
   have hxx:∃c v q,x= .tsl c v q:=by
    unfold appendTT appendTTb at hc
    split at hc
    ·exact ⟨_,_,_,rfl⟩
    ·cases hc
   obtain ⟨hvx,e',he'⟩:=hxt hxx
   exact appendTT_after hr hs hvx he' hc
  |cons q p=>
   simp only[appendE] at hc⊢
   exact appendIn_after (by simp) hr hf hs hx hxt hc
 |_=>exact gen rfl hc
theorem bytesS_cells:∀(xs:List (CT (.int .u8))) (news:List Value),news.length=xs.length→(∀i,i<xs.length→news.getD i undef= .int .u8 (nth (dflt (.int .u8)) xs i))→
  ∃ns:List Int,news=ns.map (Value.int .u8)∧∀r:ByteArray,ns.foldl (fun r n=>r.push (UInt8.ofNat n.toNat)) r=⟨r.data++(bytesS xs).toArray⟩
 |[],news,hl,_=>⟨[],by rw[List.eq_nil_of_length_eq_zero hl];rfl,fun r=>by simp[bytesS]⟩
 |x::xs,[],hl,_=>by simp at hl
 |x::xs,u::news,hl,h=>by
  obtain ⟨ns,e1,e2⟩:=bytesS_cells xs news (by simpa using hl) (fun i hi=>by have:=h (i+1) (by simpa using hi);simpa [nth] using this)
  have h0:u= .int .u8 x:=by have:=h 0 (by simp);simpa [nth] using this
  refine ⟨(x:Int)::ns,by rw[h0,e1];rfl,fun r=> ?_⟩
  refine (e2 (r.push (UInt8.ofNat (Int.toNat x)))).trans ?_
  have hp:(r.push (UInt8.ofNat (Int.toNat x))).data=r.data.push (UInt8.ofNat (Int.toNat x)):=rfl
  have hb:bytesS (x::xs)=UInt8.ofNat (Int.toNat x)::bytesS xs:=rfl
  rw[hp,hb]
  congr 1
  apply Array.ext'
  simp
theorem bytes_run {base:Nat→Prop} {s d:TypeId} {x:AV} {v:Value} (hh:HR H μ w S base) (hv:VR H μ w S x v) (hc:(bytesE P s d H x).chk=true):∃u,(convert s d v).run P w= .ok u w∧VR H μ w S (bytesE P s d H x).val u:=by
 simp only[bytesE,Eff.v,Bool.and_eq_true] at hc⊢
 obtain ⟨c1,c2,c3,c4⟩:=hc
 obtain ⟨e,hs,he⟩:∃e,P.underlying s=some (.slice e)∧P.underlying e=some (.int .u8):=by
  unfold isU8 at c1
  split at c1
  ·rename_i e hel
   refine ⟨e,elemT_spec hel,?_⟩
   split at c1<;>first|assumption|cases c1
  ·cases c1
 have hd:P.underlying d=some .string:=by
  unfold isStrT at c2
  split at c2<;>first|assumption|cases c2
 obtain ⟨A,c,news,rfl,hel,hA,hcells⟩:=src_sound hh hv c3 (by cases x<;>first|rfl|(simp[isTsl] at c4))
 generalize asL (.int .u8) (view1 H x)=xs at*
 have hl:news.length=xs.length:=by have:=hel.1;simpa [width] using this
 obtain ⟨ns,e1,e2⟩:=bytesS_cells xs news hl (fun i hi=>by
  have:=(hel.2 i hi 0 (by simp[width])).1
  simp only[width,Nat.mul_one,Nat.add_zero] at this
  have e3:nth .junk (gt (.int .u8) xs i) 0= .int .u8 (nth (dflt (.int .u8)) xs i):=rfl
  rw[e3] at this
  generalize news.getD i undef=u at this
  cases this
  rfl)
 have hres:VR H μ w S (.str (bytesS xs)) (.string ⟨(bytesS xs).toArray⟩):=by
  have:VR H μ w S (.str (⟨(bytesS xs).toArray⟩:ByteArray).data.toList) (.string ⟨(bytesS xs).toArray⟩):= .pv (.str _)
  simpa using this
 cases A with
 |none=>
  have h0:=hA rfl
  have hx0:xs=[]:=List.eq_nil_of_length_eq_zero h0
  subst hx0
  refine ⟨_,?_,hres⟩
  rw[run_convert_bytes_string w s d e none _ c hs he hd]
  simp[Conv.bytesToString,bytesS]
  rfl
 |some a=>
  refine ⟨_,?_,hres⟩
  rw[run_convert_bytes_string w s d e (some a) _ c hs he hd]
  have hld:=run_loadCells_list (P:=P) (w:=w) a news (fun j u h=>hcells a rfl j u h)
  rw[hl,e1] at hld
  rw[run_bytesToString w a _ c ns hld,e2]
  have he0:ByteArray.empty.data= #[]:=rfl
  rw[he0]
  simp
end
end Go.Abs

namespace Go.Abs
variable [Globs]
open Go.RowKit (Below)
section
variable {P:Program} {H:List Blk} {μ:Nat→Value} {w:World} {S:Nat→Prop} {w0:World} {S0:Sc}
theorem isRoX_eq {k:CK} {v:AV} (h:isRoX k v=true):v= .ro k (asL k v):=by
 cases v<;>simp[isRoX] at h
 rename_i k' xs
 subst h
 simp[asL]
theorem copyW_len {α:Type} (ys xs:List α):(copyW ys xs).length=xs.length:=by simp[copyW];omega
theorem nth_copyW {α:Type} {d:α} {ys xs:List α} {i:Nat} (hi:i<xs.length):nth d (copyW ys xs) i=if i<Nat.min ys.length xs.length then nth d ys i else nth d xs i:=by
 have hm:Nat.min ys.length xs.length=min ys.length xs.length:=rfl
 rw[nth_lt _ _ _ (by rw[copyW_len];exact hi)]
 simp only[copyW]
 by_cases h:i<Nat.min ys.length xs.length
 ·rw[if_pos h,nth_lt _ _ _ (show i<ys.length by omega),List.getElem_append_left (by rw[List.length_take];omega),List.getElem_take]
 ·rw[if_neg h,nth_lt _ _ _ hi,List.getElem_append_right (by rw[List.length_take];omega),List.getElem_drop]
  congr 1
  rw[List.length_take];omega
theorem put_nthB:∀(T:List Blk) (d:Nat),put T d (nth .free T d)=T
 |[],_=>rfl
 |_::_,0=>rfl
 |x::T,d+1=>by simp only[put,nth,put_nthB T d]
theorem copy_after {t t' ty:TypeId} {s x:AV} {vs vx:Value} (hr:RepAt w0 S0 H μ S w) (hs:VR H μ w S s vs) (hx:VR H μ w S x vx) (hc:(copyE P t t' H s x).chk=true):
  ∃u w',(Builtin.copy_ #[t,t'] ty #[vs,vx]).run P w= .ok u w'∧After w0 S0 H μ S w (copyE P t t' H s x) u w':=by
 cases s<;>(try (simp[copyE,Eff.bad] at hc;done))
 rename_i b ver off lw
 simp only[copyE] at hc⊢
 cases hbk:nth .free H b<;>(try (simp[hbk,Eff.bad] at hc;done))
 rename_i bv e k xs
 simp only[hbk] at hc⊢
 simp only[Bool.and_eq_true,beq_iff_eq,decide_eq_true_eq,Option.isNone_iff_eq_none] at hc
 obtain ⟨⟨rfl,rfl,rfl⟩,he,rfl,hi1,hk1,hro⟩:=hc
 have hxe:=isRoX_eq hro
 generalize hys:asL k x=ys at*
 subst hxe
 have hu:=elemT_spec he
 have hblk:=hr.hr.blk b
 rw[hbk] at hblk
 obtain ⟨hns,hrow⟩:=hblk
 obtain ⟨len,hlen,hsub⟩:∃len,len=xs.length∧Sub (μ b) xs.length (width k) 0 len vs:=by
  cases hs with
  |pv h=>cases h
  |sl _ _ _ _ ln r A c hr' hle hlc hA hcur=>
   rw[hbk] at hr'
   simp only[rdOf,Option.some.injEq] at hr'
   subst hr'
   obtain ⟨h1,h2,h3⟩:=hcur rfl
   exact ⟨ln,h1,h3⟩
 subst hlen
 obtain ⟨sp,sc,hvx,hsrc⟩:∃sp sc,vx= .slice sp ys.length sc∧(0<ys.length→∃ad:Addr,sp=some ad∧∃u:Nat→Value,∀i,i<ys.length→w.cell? (ad.add i)=some (u i)∧(u i).oneCell'=true∧PV w S (nth .junk (gt k ys i) 0) (u i)):=by
  have hp:=pv_of_pure hx rfl
  cases hp with
  |roNil k A c=>exact ⟨A,c,rfl,fun h=>by simp at h⟩
  |ro k xs n B o c u hn hB hnc h1 h2 h3=>
   subst hn
   refine ⟨some ⟨B,o,none⟩,c,rfl,fun h=>⟨⟨B,o,none⟩,rfl,fun i=>u i 0,fun i hi=>⟨?_,h2 i 0 hi (by omega),h3 i 0 hi (by omega)⟩⟩⟩
   have:=h1 i 0 hi (by omega)
   rw[hk1,Nat.mul_one,Nat.add_zero] at this
   simpa [Addr.add_lit] using this
 subst hvx
 by_cases h0:Nat.min ys.length xs.length=0
 ·-- nothing goes over
  have hwx:copyW ys xs=xs:=by
   simp only[copyW]
   rcases Nat.eq_zero_or_pos ys.length with h|h
   ·rw[List.eq_nil_of_length_eq_zero h];simp
   ·have:xs.length=0:=by
     have h2:min ys.length xs.length=0:=h0
     omega
    rw[List.eq_nil_of_length_eq_zero this];simp
  have hrun:(Builtin.copy_ #[t,t] ty #[vs, .slice sp ys.length sc]).run P w= .ok (goInt 0) w:=by
   rcases hsub with ⟨_,_,hz,rfl⟩|⟨B,o,cap,A,_,_,rfl,_⟩
   ·exact run_copy_none (P:=P) w t t ty e none sp 0 0 ys.length sc hu hi1 (by rw[hz] at h0;exact h0)
   ·exact run_copy_none (P:=P) w t t ty e _ sp xs.length _ ys.length sc hu hi1 h0
  refine ⟨_,_,hrun,?_⟩
  have hlt:b<H.length:=lt_of_live (by rw[hbk];simp)
  have hput:put H b (.row ver e k (copyW ys xs))=H:=by rw[hwx,←hbk];exact put_nthB H b
  refine ⟨μ,S,?_,?_,fun _ h=>h,fun _ _=>rfl,?_⟩
  ·show RepAt w0 S0 (put H b (.row ver e k (copyW ys xs))) μ S w
   rw[hput];exact hr
  ·show Ext H μ (put H b (.row ver e k (copyW ys xs))) μ
   rw[hput];exact Ext.refl H μ
  ·rw[h0];exact .pv (.int .i64 0)
 ·have hpos:0<ys.length∧0<xs.length:=by
   have h2:¬min ys.length xs.length=0:=h0
   omega
  obtain ⟨ad,rfl,u,hu2⟩:=hsrc hpos.1
  rcases hsub with ⟨_,_,hz,_⟩|⟨B,o,cap,A,hm,hfit,rfl,hA⟩
  ·omega
  ·obtain rfl:=hA (.inl rfl)
   rcases hrow with ⟨hz,_⟩|⟨B',o',cap',cur,hm',hbase,hg,hnc,hcm,hsz,hcs⟩
   ·rw[hz] at hm;simp at hm
   ·rw [hm] at hm'
    simp only[Value.slice.injEq,Option.some.injEq,Addr.mk.injEq,and_true,true_and] at hm'
    obtain ⟨⟨rfl,rfl⟩,rfl⟩:=hm'
    have hmb:Owns (μ b) B:=by rw[hm];rfl
    have hnSB:¬S B:=hns B hmb
    have hn:∃n,n=Nat.min ys.length xs.length:=⟨_,rfl⟩
    obtain ⟨n,hn⟩:=hn
    have hny:n≤ys.length:=by rw[hn];exact Nat.min_le_left _ _
    have hnx:n≤xs.length:=by rw[hn];exact Nat.min_le_right _ _
    have hsz':cur.size=o+cap:=by rw[hsz,hk1,Nat.mul_one]
    have hcl:((List.range n).map u).length=n:=by simp
    have hrun:=run_copy_row (P:=P) w t t ty e B o xs.length cap ad ys.length sc cur e ((List.range n).map u) hu hi1 hg (by rw[hcl];exact hn) (fun j v hj=>by
      rw[List.getElem?_map] at hj
      by_cases hjn:j<n
      ·rw[List.getElem?_range hjn] at hj
       simp only[Option.map_some,Option.some.injEq] at hj
       rw[←hj];exact (hu2 j (by omega)).1
      ·rw[List.getElem?_eq_none (by simp;omega)] at hj
       cases hj) (by rw[hcl,hsz'];omega) (fun v hv=>by
      obtain ⟨i,hi,rfl⟩:=List.mem_map.1 hv
      have:=List.mem_range.1 hi
      exact (hu2 i (by omega)).2.1)
    have hrs:o+((List.range n).map u).length≤cur.size:=by rw[hcl,hsz'];omega
    have hx':Ext H μ (put H b (.row ver e k (copyW ys xs))) (setI μ b (μ b)):=Ext.row hbk (Nat.le_refl _) (fun _=>⟨copyW_len ..,rfl⟩)
    have hS:∀B',S B'→(w.setRow B (cur.toList.take o++(List.range n).map u++cur.toList.drop (o+((List.range n).map u).length)).toArray).heap[B']?=w.heap[B']?:=fun B' h=>setRow_ne (fun e=>hnSB (e▸h))
    simp only[Nat.zero_mul,Nat.add_zero,Nat.sub_zero]
    refine ⟨_,_,hrun,setI μ b (μ b),S,⟨hr.hr.change (w':=w.setRow B (cur.toList.take o++(List.range n).map u++cur.toList.drop (o+((List.range n).map u).length)).toArray) (by rw[hbk];trivial) hx' (by simp) (fun B' _ hne=>setRow_ne (fun e=>hne (e▸hmb))) hns (fun B' h=> .inl h) ?_,setRow_below hr.below hbase,hr.sub,hr.sup,hr.fresh,hr.pins.ext hx'⟩,hx',fun _ h=>h,hS,?_⟩
    ·refine ⟨by simpa [setI] using hns,?_⟩
     simp only[setI,if_true]
     refine .inr ⟨B,o,cap,_,by rw[copyW_len];exact hm,hbase,setRow_get hg,by rw[copyW_len];exact hnc,hcm,by rw[hk1];simp;omega,fun i hi j hj=> ?_⟩
     rw[copyW_len] at hi
     obtain rfl:j=0:=by omega
     have hgo:=splice_getD (cur:=cur) (o:=o) (l:=(List.range n).map u) hrs (o+(i*width k+0))
     rw[hcl] at hS
     rw[hgo,hcl,hk1,Nat.mul_one,Nat.add_zero,if_neg (by omega)]
     by_cases hin:i<n
     ·rw[if_pos (by omega),show o+i-o=i by omega]
      have e1:((List.range n).map u).getD i undef=u i:=by
       rw[List.getD_eq_getElem?_getD,List.getElem?_map,List.getElem?_range hin];rfl
      have e2:gt k (copyW ys xs) i=gt k ys i:=by
       simp only[gt];rw[nth_copyW hi,if_pos (by rw[←hn];exact hin)]
      rw[e1,e2]
      exact ⟨(hu2 i (by omega)).2.2.mono (fun _ h=>h) hS,(hu2 i (by omega)).2.1⟩
     ·rw[if_neg (by omega)]
      have e2:gt k (copyW ys xs) i=gt k xs i:=by
       simp only[gt];rw[nth_copyW hi,if_neg (by rw[←hn];exact hin)]
      have old:=hcs i hi 0 (by omega)
      rw[hk1,Nat.mul_one,Nat.add_zero] at old
      rw[e2]
      exact old.mono (fun _ h=>h) hS
    ·rw[hcl,hn];exact .pv (.int .i64 _)
end
end Go.Abs
