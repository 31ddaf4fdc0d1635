/- Regions. -/
import Derived.Test.YtiglikocfjhkcaaDoorA12
set_option linter.all false
set_option linter.unusedVariables false
set_option linter.unusedSimpArgs false
namespace Go.Abs
variable [Globs]
open Go.RowKit (Below)
section
variable {H:List Blk} {μ:Nat→Value} {w:World} {S:Nat→Prop} {w0:World} {S0:Sc} {cx:Cx}
theorem nth_frees:∀(n b:Nat),nth Blk.free (frees n) b= .free
 |0,b=>nth_nil _ _
 |n+1,0=>rfl
 |n+1,b+1=>nth_frees n b
theorem frees_length:∀n,(frees n).length=n
 |0=>rfl
 |n+1=>by simp[frees,frees_length n]
theorem nth_app_frees (H:List Blk) (n b:Nat):nth .free (H++frees n) b=nth .free H b:=by
 rw[nth_append]
 split
 ·rfl
 ·rename_i h;rw[nth_frees,nth_ge _ _ _ (by omega)]
theorem Ext.same {H':List Blk} (h:∀b,nth .free H' b=nth .free H b):Ext H μ H' μ:=fun b=>by
 rw[h b]
 exact ⟨fun cs hc=>⟨cs,hc,rfl⟩,fun r hr=>⟨r,hr,rfl,Nat.le_refl _,fun _=>⟨rfl,rfl⟩⟩,fun h=>⟨h,rfl⟩,fun h=>⟨h,rfl⟩,fun d h=>⟨d,h,Nat.le_refl _,Nat.le_refl _,fun p _=>SameP.refl d _ p⟩⟩
theorem RepTH.same {T:List AV} {a:Act} {H':List Blk} (h:RepTH w0 S0 T H a w) (he:∀b,nth .free H' b=nth .free H b):RepTH w0 S0 T H' a w:=by
 obtain ⟨μ,S,hr,hst,ha,hT⟩:=h
 refine ⟨μ,S,⟨⟨fun b=> ?_,fun b b' B h1 h2=> ?_,hr.hr.stab,hr.hr.glob⟩,hr.below,hr.sub,hr.sup,hr.fresh,hr.pins.ext (Ext.same he)⟩,hst,ha,hT.1,fun i hi=>(hT.2 i hi).mono (Ext.same he) (fun _ h=>h) (fun _ _=>rfl)⟩
 ·rw[he b];exact (hr.hr.blk b).keep (Ext.same he) rfl (fun _ _=>rfl) (fun _ _=>rfl)
 ·rw[he] at h1 h2;exact hr.hr.inj b b' B h1 h2
theorem RepTH.grow {T:List AV} {a:Act} {w':World} (h:RepTH w0 S0 T H a w) (hg:Grow w w'):RepTH w0 S0 T H a w':=by
 obtain ⟨μ,S,hr,hst,ha,hT⟩:=h
 exact ⟨μ,S,⟨hr.hr.more hg (fun _ h=>h) (fun _ h=> .inl h) fun B h=>Nat.lt_of_lt_of_le (hr.hr.stab B h) hg.size,hg.below hr.below,hr.sub,hr.sup,hr.fresh,hr.pins⟩,fun B h=>(hg.old B (hr.hr.stab B (hr.sub B h))).trans (hst B h),ha,hT.1,fun i hi=>(hT.2 i hi).mono (Ext.refl _ _) (fun _ h=>h) fun B h=>hg.old B (hr.hr.stab B h)⟩
def bse (B:Nat) (l:List Oper) (i:Nat):Nat:=B+slotsAll (l.take i)
def stt (cx:Cx) (B:Nat) (l:List Oper) (st:St):Nat→St
 |0=>st
 |i+1=>match l[i]? with
  |some o=>stepOp cx l (bse B l i) o (stt cx B l st i)
  |none=>stt cx B l st i
theorem slotsAll_append:∀(l l':List Oper),slotsAll (l++l')=slotsAll l+slotsAll l'
 |[],l'=>by simp[slotsAll]
 |o::l,l'=>by simp[slotsAll,slotsAll_append l l',Nat.add_assoc]
theorem bse_succ {B:Nat} {l:List Oper} {i:Nat} {o:Oper} (h:l[i]?=some o):bse B l (i+1)=bse B l i+slots o:=by
 unfold bse
 rw[List.take_add_one,h,slotsAll_append]
 simp[slotsAll,Nat.add_assoc]
theorem bse_le {B:Nat} {l:List Oper} {i j:Nat} (h:i≤j):bse B l i≤bse B l j:=by
 unfold bse
 have:l.take j=l.take i++(l.take j).drop i:=by
  have:=(List.take_append_drop i (l.take j)).symm
  rwa [List.take_take,Nat.min_eq_left h] at this
 rw[this,slotsAll_append];omega
theorem bse_all {B:Nat} {l:List Oper} {i:Nat}:bse B l i≤B+slotsAll l:=by
 rcases Nat.le_total i l.length with h|h
 ·have:=bse_le (B:=B) (l:=l) h
  unfold bse at this⊢
  rwa [List.take_length] at this
 ·unfold bse;rw[List.take_of_length_le h];omega
theorem runOps_stt {B:Nat} {l:List Oper} {st:St}:∀(k i:Nat),i+k=l.length→runOps cx l (l.drop i) (bse B l i) (stt cx B l st i)=stt cx B l st l.length
 |0,i,h=>by rw[List.drop_of_length_le (by omega)];simp only[runOps];rw[show i=l.length by omega]
 |k+1,i,h=>by
  have hi:i<l.length:=by omega
  rw[List.drop_eq_getElem_cons hi]
  simp only[runOps]
  have hg:l[i]?=some l[i]:=List.getElem?_eq_getElem hi
  rw[←bse_succ hg]
  have:stepOp cx l (bse B l i) l[i] (stt cx B l st i)=stt cx B l st (i+1):=by simp only[stt,hg]
  rw[this]
  exact runOps_stt k (i+1) (by omega)
theorem runOps_eq {B:Nat} {l:List Oper} {st:St}:runOps cx l l B st=stt cx B l st l.length:=by
 have:=runOps_stt (cx:=cx) (B:=B) (l:=l) (st:=st) l.length 0 (by omega)
 simpa [bse,slotsAll,stt] using this
def ftt (cx:Cx) (B:Nat) (l:List Oper) (st:St) (i:Nat):Foot:=footOf cx l (bse B l i) (nth default l i) (stt cx B l st i)
theorem feet_stt {B:Nat} {l:List Oper} {st:St}:∀(k i:Nat),i+k=l.length→feet cx l (l.drop i) (bse B l i) (stt cx B l st i)=(List.range' i k).map (ftt cx B l st)
 |0,i,h=>by rw[List.drop_of_length_le (by omega)];rfl
 |k+1,i,h=>by
  have hi:i<l.length:=by omega
  rw[List.drop_eq_getElem_cons hi]
  simp only[feet,List.range'_succ,List.map_cons]
  have hg:l[i]?=some l[i]:=List.getElem?_eq_getElem hi
  rw[←bse_succ hg]
  have:stepOp cx l (bse B l i) l[i] (stt cx B l st i)=stt cx B l st (i+1):=by simp only[stt,hg]
  rw[this,feet_stt k (i+1) (by omega)]
  simp only[ftt,nth_lt _ _ _ hi]
theorem feet_eq {B:Nat} {l:List Oper} {st:St}:feet cx l l B st=(List.range' 0 l.length).map (ftt cx B l st):=by
 have:=feet_stt (cx:=cx) (B:=B) (l:=l) (st:=st) l.length 0 (by omega)
 simpa [bse,slotsAll,stt] using this
theorem stt_ok {B:Nat} {l:List Oper} {st:St}:∀(n:Nat),(stt cx B l st n).ok=true→st.ok=true∧∀i o,i<n→l[i]?=some o→stepChk cx l (bse B l i) o (stt cx B l st i).T (stt cx B l st i).H=true
 |0,h=>⟨h,fun i o hi=>by omega⟩
 | n+1,h=>by
  simp only[stt] at h
  cases hg:l[n]? with
  |none=>
   rw[hg] at h
   obtain ⟨h1,h2⟩:=stt_ok n h
   refine ⟨h1,fun i o hi ho=> ?_⟩
   rcases Nat.lt_succ_iff_lt_or_eq.1 hi with h3|h3
   ·exact h2 i o h3 ho
   ·subst h3;rw[hg] at ho;cases ho
  |some o=>
   rw[hg] at h
   simp only[stepOp_ok,Bool.and_eq_true] at h
   obtain ⟨h1,h2⟩:=stt_ok n h.2
   refine ⟨h1,fun i o' hi ho=> ?_⟩
   rcases Nat.lt_succ_iff_lt_or_eq.1 hi with h3|h3
   ·exact h2 i o' h3 ho
   ·subst h3;rw[hg] at ho;cases ho;exact h.1
theorem stt_len {B:Nat} {l:List Oper} {st:St} (n:Nat) (h:∀i o,i<n→l[i]?=some o→stepChk cx l (bse B l i) o (stt cx B l st i).T (stt cx B l st i).H=true):(stt cx B l st n).H.length=st.H.length:=by
 induction n with
 |zero=>rfl
 |succ n ih=>
  simp only[stt]
  have ih':=ih fun i o hi=>h i o (by omega)
  cases hg:l[n]? with
  |none=>exact ih'
  |some o=>simp only[(stepOp_TH (h n o (by omega) hg)).2,sets_length,ih']
theorem stt_free {B:Nat} {l:List Oper} {st:St} (hB:∀b,B≤b→nth .free st.H b= .free) (n:Nat) (h:∀i o,i<n→l[i]?=some o→stepChk cx l (bse B l i) o (stt cx B l st i).T (stt cx B l st i).H=true):∀b,bse B l n≤b→nth .free (stt cx B l st n).H b= .free:=by
 induction n with
 |zero=>intro b hb;exact hB b (by simpa [bse,slotsAll] using hb)
 | succ n ih=>
  intro b hb
  have ih':=ih fun i o hi=>h i o (by omega)
  simp only[stt]
  cases hg:l[n]? with
  |none=>
   refine ih' b (Nat.le_trans (bse_le (by omega)) hb)
  | some o=>
   have hc:=h n o (by omega) hg
   rw[bse_succ hg] at hb
   simp only[(stepOp_TH hc).2]
   rw[sets_nth_ne]
   ·exact ih' b (by omega)
   ·intro hm
    obtain ⟨p,hp,rfl⟩:=List.mem_map.1 hm
    have hch:(opE cx l (stt cx B l st n).T (stt cx B l st n).H (bse B l n) o).chk=true:=by
     unfold stepChk at hc
     cases hgb:guardB l (stt cx B l st n).T o.guard with
     |none=>rw[hgb] at hc;simp at hc
     |some r=>
      rw[hgb] at hc
      cases r with
      |true=>simp only[imp,cond_true,Bool.and_eq_true] at hc;exact hc.2
      |false=>rw[opE_false hgb]
    rcases wr_spec hch p hp with h1|h1
    ·exact h1 (ih' p.1 (by omega))
    ·omega
def NextOk (cx:Cx) (w0:World) (S0:Sc) (T:List AV) (H:List Blk) (o:Oper) (a:Act) (w:World):Prop:=
 ∀μ S,RepAt w0 S0 H μ S w→TR H μ w S T a.tmps→∀x s,o.op= .next x s→∃u w',(Instr.next (a.eval x) s o.type).run cx.P w= .ok u w'∧After w0 S0 H μ S w (nextE cx H (unw (ev T x)) s) u w'
theorem NextOk.none {T:List AV} {H:List Blk} {o:Oper} {a:Act} (h:isNextO o=false):NextOk cx w0 S0 T H o a w:=fun μ S _ _ x s e=>by simp[isNextO,e] at h
theorem seq_sim {ops:Array Oper} {B:Nat} {st:St} (hC:CSound cx.P cx.C) (hB:∀b,B≤b→nth .free st.H b= .free) (hl:B+slotsAll ops.toList≤st.H.length) {Q:Exit→Act→World→Prop}
  (h:∀i o,i<ops.toList.length→ops.toList[i]?=some o→stepChk cx ops.toList (bse B ops.toList i) o (stt cx B ops.toList st i).T (stt cx B ops.toList st i).H=true)
  (hnx:∀i o,ops.toList[i]?=some o→0<i→isNextO o=false)
  (hQ:∀a w,RepTH w0 S0 (stt cx B ops.toList st ops.toList.length).T (stt cx B ops.toList st ops.toList.length).H a w→Q .normal a w):
  ∀(k i:Nat),i+k=ops.toList.length→∀a w,RepTH w0 S0 (stt cx B ops.toList st i).T (stt cx B ops.toList st i).H a w→(i=0→∀o,ops.toList[i]?=some o→NextOk cx w0 S0 (stt cx B ops.toList st i).T (stt cx B ops.toList st i).H o a w)→wpOps cx.P ops Q (List.range' i k) a w
 |0,i,hi,a,w,hr,_=>by
  simp only[List.range'_zero,wpOps]
  exact hQ a w (by rw[show ops.toList.length=i by omega];exact hr)
 | k+1,i,hi,a,w,hr,h0=>by
  rw[List.range'_succ,wpOps_cons]
  have hi':i<ops.toList.length:=by omega
  have hg:ops.toList[i]?=some ops.toList[i]:=List.getElem?_eq_getElem hi'
  have ho:ops[i]?=some ops.toList[i]:=by rw[←hg];simp
  have hc:=h i _ hi' hg
  obtain ⟨μ,S,h1,hst,h2,h3⟩:=hr
  have hf:FreeAt (stt cx B ops.toList st i).H (bse B ops.toList i) (slots ops.toList[i]):=fun j hj=>by
   refine ⟨stt_free hB i (fun i' o hi2=>h i' o (by omega)) _ (by omega),?_⟩
   rw[stt_len i (fun i' o hi2=>h i' o (by omega))]
   have:=bse_all (B:=B) (l:=ops.toList) (i:=i+1)
   rw[bse_succ hg] at this
   omega
  have hno:NextOk cx w0 S0 (stt cx B ops.toList st i).T (stt cx B ops.toList st i).H ops.toList[i] a w:=by
   rcases Nat.eq_zero_or_pos i with h0i|hpos
   ·exact h0 h0i _ hg
   ·exact .none (hnx i _ hg hpos)
  refine step_sim ho hC h1 hst h2 h3 hf hc (hno μ S h1 h3) fun a' w' hr'=> ?_
  refine seq_sim hC hB hl h hnx hQ k (i+1) (by omega) a' w' ?_ (fun h=>absurd h (by omega))
  have e:=stepOp_TH hc
  simp only[stt,hg,e.1,e.2]
  exact hr'
end
end Go.Abs
