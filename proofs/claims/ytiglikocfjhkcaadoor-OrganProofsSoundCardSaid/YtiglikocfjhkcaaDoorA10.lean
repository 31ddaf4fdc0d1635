/- One operation. -/
import Derived.Test.YtiglikocfjhkcaaDoorA9
import Derived.Test.YtiglikocfjhkcaaDoorAN
import Derived.Test.YtiglikocfjhkcaaDoorA7
set_option linter.all false
set_option linter.unusedVariables false
set_option linter.unusedSimpArgs false
namespace Go.Abs
variable [Globs]
open Go.RowKit (Below)
section
variable {H:List Blk} {μ:Nat→Value} {w:World} {S:Nat→Prop} {w0:World} {S0:Sc} {cx:Cx}
theorem wp_value {P:Program} {o:Oper} {a:Act} {w w':World} {u:Value} {next:Act→World→Prop} {Q:Exit→Act→World→Prop} (h:(execOp a.eval o).run P w= .ok (.value u) w') (hn:next (a.put o.dst u) w'):o.wp P a w next Q:=by
 unfold Oper.wp;rw[h];exact hn
theorem wp_unit {P:Program} {o:Oper} {a:Act} {w w':World} {next:Act→World→Prop} {Q:Exit→Act→World→Prop} (h:(execOp a.eval o).run P w= .ok .skip w') (hn:next (a.put o.dst undef) w'):o.wp P a w next Q:=by
 unfold Oper.wp;rw[h];exact hn
theorem minE_run {P:Program} {ty:TypeId} {tys:Array TypeId} {xs:List AV} {us:Array Value} (hl:xs.length=us.size) (h:∀i,i<xs.length→VR H μ w S (nth .junk xs i) (us.getD i undef)) (hc:(minE xs).chk=true):∃u,(Builtin.min_ tys ty us).run P w= .ok u w∧VR H μ w S (minE xs).val u:=by
 unfold minE at hc⊢
 split at hc
 ·rename_i k x k' y
  simp only[Eff.v,decide_eq_true_eq] at hc⊢
  subst hc
  have h0:=vr_int (h 0 (by simp))
  have h1:=vr_int (h 1 (by simp))
  have hu:us= #[.int k x, .int k y]:=by
   apply Array.ext
   ·rw[←hl];rfl
   ·intro i h2 h3
    match i with
    |0=>rw[Array.getD_eq_getD_getElem?,Array.getElem?_eq_getElem h2] at h0;exact h0
    |1=>rw[Array.getD_eq_getD_getElem?,Array.getElem?_eq_getElem h2] at h1;exact h1
    |n+2=>simp at h3;omega
  subst hu
  refine ⟨.int k (if y<x then y else x),by simp[Builtin.min_,Builtin.min2],?_⟩
  by_cases hyx:y<x
  ·simp only[hyx,decide_true,cond_true,if_true];exact .pv (.int _ _)
  ·simp only[hyx,decide_false,cond_false,if_false];exact .pv (.int _ _)
 ·simp[Eff.bad] at hc
theorem maxE_run {P:Program} {ty:TypeId} {tys:Array TypeId} {xs:List AV} {us:Array Value} (hl:xs.length=us.size) (h:∀i,i<xs.length→VR H μ w S (nth .junk xs i) (us.getD i undef)) (hc:(maxE xs).chk=true):∃u,(Builtin.max_ tys ty us).run P w= .ok u w∧VR H μ w S (maxE xs).val u:=by
 unfold maxE at hc⊢
 split at hc
 ·rename_i k x k' y
  simp only[Eff.v,decide_eq_true_eq] at hc⊢
  subst hc
  have h0:=vr_int (h 0 (by simp))
  have h1:=vr_int (h 1 (by simp))
  have hu:us= #[.int k x, .int k y]:=by
   apply Array.ext
   ·rw[←hl];rfl
   ·intro i h2 h3
    match i with
    |0=>rw[Array.getD_eq_getD_getElem?,Array.getElem?_eq_getElem h2] at h0;exact h0
    |1=>rw[Array.getD_eq_getD_getElem?,Array.getElem?_eq_getElem h2] at h1;exact h1
    |n+2=>simp at h3;omega
  subst hu
  refine ⟨.int k (if y>x then y else x),by simp[Builtin.max_,Builtin.max2],?_⟩
  by_cases hyx:y>x
  ·simp only[hyx,decide_true,cond_true,if_true];exact .pv (.int _ _)
  ·simp only[hyx,decide_false,cond_false,if_false];exact .pv (.int _ _)
 ·simp[Eff.bad] at hc
theorem asClo_vr {x:AV} {v:Value} (h:VR H μ w S x v):VR H μ w S (asClo x) v:=by
 cases x with
 | fn f=>
  cases f with
  | func g=>
   cases h with
   |pv h=>
    cases h with
    |fn _=>exact .pv (.clo (g,false) [] #[] rfl fun i hi=>by simp at hi)
  |_=>exact h
 |_=>exact h
theorem evs_args {T:List AV} {a:Act} (hG:GlobOk w S) (hT:TR H μ w S T a.tmps) {xs:Array Operand} (hg:grds T xs.toList=true):(evs T xs.toList).length=(xs.map a.eval).size∧∀i,i<(evs T xs.toList).length→VR H μ w S (nth .junk (evs T xs.toList) i) ((xs.map a.eval).getD i undef):=by
 obtain ⟨h1,h2⟩:=evs_sound hG hT xs.toList hg
 refine ⟨by rw[h1];simp,fun i hi=> ?_⟩
 have:=h2 i (by omega)
 rw[Array.getD_eq_getD_getElem?,Array.getElem?_map]
 rw[List.getD_eq_getElem?_getD,List.getElem?_map] at this
 simpa using this
theorem grds_sub {T:List AV} {l:List Operand} (h:∀x∈l,grd (ev T x)=true):grds T l=true:=by
 induction l with
 |nil=>rfl
 |cons x l ih=>simp only[grds,h x (by simp),ih fun y hy=>h y (by simp[hy]),Bool.and_self]
theorem optV {T:List AV} {a:Act} (hG:GlobOk w S) (hT:TR H μ w S T a.tmps) (x:Option Operand) (h:∀y,x=some y→grd (ev T y)=true):OptV H μ w S (x.map fun y=>unw (ev T y)) (x.map a.eval):=by
 cases x with
 |none=>exact ⟨(fun xa h=>by cases h),fun _=>rfl⟩
 |some y=>exact ⟨(fun xa h'=>⟨_,rfl,by simp only[Option.map_some,Option.some.injEq] at h';subst h';exact evu_sound hG hT y (h y rfl)⟩),fun h=>by cases h⟩
theorem extract_run {P:Program} {ix:Nat} {x:AV} {v:Value} {vs:List AV} (hx:x= .tup vs) (hv:VR H μ w S x v) (hi:ix<vs.length):∃u,(Instr.extract v ix).run P w= .ok u w∧VR H μ w S (nth .junk vs ix) u:=by
 subst hx
 cases hv with
 |pv h=>cases h
 |tup _ us hl h=>
  have:=h ix hi
  have hlt:ix<us.size:=by omega
  refine ⟨us.getD ix undef,?_,this⟩
  simp[Instr.extract,Array.getD_eq_getD_getElem?,hlt]
theorem op_sim {base:Nat} {T:List AV} {o:Oper} {a:Act} (hC:CSound cx.P cx.C) (hr:RepAt w0 S0 H μ S w) (hT:TR H μ w S T a.tmps) (hf:FreeAt H base (slots o)) (hg:opG T o=true) (hc:(opE0 cx T H base o).chk=true)
  (hnx:∀x s,o.op= .next x s→∃u w',(Instr.next (a.eval x) s o.type).run cx.P w= .ok u w'∧After w0 S0 H μ S w (nextE cx H (unw (ev T x)) s) u w')
  {next:Act→World→Prop} {Q:Exit→Act→World→Prop} (hn:∀u w',After w0 S0 H μ S w (opE0 cx T H base o) u w'→next (a.put o.dst u) w'):o.wp cx.P a w next Q:=by
 have one:∀x,x∈o.op.operands.toList→(∀c a b,o.op≠ .pick c a b)→VR H μ w S (unw (ev T x)) (a.eval x):=fun x hx hp=>by
  have h:grds T o.op.operands.toList=true:=by
   unfold opG at hg
   split at hg
   ·rename_i c a b h;exact absurd h (hp c a b)
   ·exact hg
  exact evu_sound hr.hr.glob hT x (grds_mem h x hx)
 have grd1:∀x,x∈o.op.operands.toList→(∀c a b,o.op≠ .pick c a b)→grd (ev T x)=true:=fun x hx hp=>by
  have h:grds T o.op.operands.toList=true:=by
   unfold opG at hg
   split at hg
   ·rename_i c a b h;exact absurd h (hp c a b)
   ·exact hg
  exact grds_mem h x hx
 have quiet:∀ {s:Sem Value} {u:Value},execOp a.eval o=(do pure (Next.value (←s)):Sem Next)→s.run cx.P w= .ok u w→(opE0 cx T H base o).wr=[]→VR H μ w S (opE0 cx T H base o).val u→o.wp cx.P a w next Q:=fun {s u} he hs hw hv=>
  wp_value (by rw[he];exact eval_v hs) (hn _ _ (After.quiet hr hw hv))
 have noisy:∀ {s:Sem Value} {u:Value} {w':World},execOp a.eval o=(do pure (Next.value (←s)):Sem Next)→s.run cx.P w= .ok u w'→After w0 S0 H μ S w (opE0 cx T H base o) u w'→o.wp cx.P a w next Q:=fun {s u w'} he hs hv=>
  wp_value (by rw[he];exact eval_v hs) (hn _ _ hv)
 obtain ⟨dst,op,ty,pos,after_,guard⟩:=o
 simp only at*
 cases op with
 |move x=>exact wp_value (u:=a.eval x) (by simp[execOp]) (hn _ _ (After.quiet hr rfl (one x (by simp[Op.operands]) (by simp))))
 | assign x=>
  have hx:=one x (by simp[Op.operands]) (by simp)
  refine wp_value (u:=a.eval x) (w':=w) (by simp[execOp]) (hn _ _ ?_)
  by_cases hq:unw (ev T x)= .nils∧∃e sz,cks cx.P ty=[.slice e sz]
  ·obtain ⟨h1,e,sz,h2⟩:=hq
   have he:opE0 cx T H base ⟨dst, .assign x,ty,pos,after_,guard⟩={val:=rowA cx.os sz base,chk:=true,wr:=[(base,rowK cx.os e sz [])]}:=by simp only[opE0,h1,h2]
   exact nil_after (e:=e) (k:=sz) hr (fun i hi=>hf i (by simp[slots];omega)) (h1▸hx) (by rw[he]) (by rw[he])
  ·have he:opE0 cx T H base ⟨dst, .assign x,ty,pos,after_,guard⟩= .v (unw (ev T x)) true:=by
    simp only[opE0]
    split
    ·rename_i h1 h2;exact absurd ⟨h1,_,_,h2⟩ hq
    ·rfl
   exact After.quiet hr (by rw[he];rfl) (by rw[he];exact hx)
 |pick c x y=>
  obtain ⟨u,h1,h2⟩:=pick_run (P:=cx.P) hr.hr.glob hT hc
  exact wp_value (u:=u) (by simpa [execOp] using h1) (hn _ _ (After.quiet hr rfl h2))
 |alloc t=>
  simp only[opE0,Bool.and_eq_true,Nat.ble_eq] at hc
  obtain ⟨u,w',h1,h2⟩:=alloc_after (P:=cx.P) (f:=opE0 cx T H base ⟨dst, .alloc t,ty,pos,after_,guard⟩) hr hf hc.1 hc.2 rfl rfl
  exact noisy (by simp[execOp]) h1 h2
 |box t x=>
  simp only[opE0,Bool.and_eq_true] at hc
  obtain ⟨u,w',h1,h2⟩:=box_after (P:=cx.P) (t:=t) (f:=opE0 cx T H base ⟨dst, .box t x,ty,pos,after_,guard⟩) hr hf (one x (by simp[Op.operands]) (by simp)) hc.1 rfl rfl
  exact noisy (by simp[execOp]) h1 h2
 |build t parts=>
  obtain ⟨u,h1,h2⟩:=buildE_run (P:=cx.P) (t:=t) (parts:=parts) (ρ:=a.eval) (f:=fun x=>unw (ev T x)) (fun x hx=>one x.2 (by simp[Op.operands];exact ⟨_,Array.mem_toList_iff.1 hx⟩) (by simp)) hc
  exact quiet (by simp[execOp]) h1 (by simp only[opE0,buildE];split<;>rfl) h2
 | buildSlice t len parts=>
  obtain ⟨u,w',h1,h2⟩:=buildSlice_after (P:=cx.P) (t:=t) (len:=len) (vparts:=parts.map fun (i,x)=>(i,a.eval x)) hr hf (by simp) (fun i hi=>by
   have hi':i<parts.toList.length:=by simpa using hi
   rw[Array.toList_map,nth_lt _ _ _ hi,nth_lt _ _ _ (by simpa using hi')]
   simp only[List.getElem_map,true_and]
   exact one _ (by simp[Op.operands];exact ⟨_,Array.mem_toList_iff.1 (List.getElem_mem hi')⟩) (by simp)) hc
  exact noisy (by simp[execOp]) h1 h2
 |load t x=>
  obtain ⟨u,h1,h2⟩:=loadE_run (P:=cx.P) hr.hr (one x (by simp[Op.operands]) (by simp)) hc
  refine quiet (by simp[execOp]) h1 ?_ h2
  simp only[opE0,loadE]
  repeat' split
  all_goals rfl
 | store t x y=>
  have hx:=one x (by simp[Op.operands]) (by simp)
  have hy:=one y (by simp[Op.operands]) (by simp)
  have fin:(∃w',(Instr.storeAt t (a.eval x) (a.eval y)).run cx.P w= .ok () w'∧After w0 S0 H μ S w (storeE cx.P cx.os t H base (unw (ev T x)) (unw (ev T y))) undef w')→(⟨dst, .store t x y,ty,pos,after_,guard⟩:Oper).wp cx.P a w next Q:=fun ⟨w',h1,h2⟩=>
   wp_unit (by simp[execOp,h1]) (hn _ _ h2)
  refine fin ?_
  simp only[opE0] at hc
  unfold storeE at hc⊢
  cases hxe:unw (ev T x)<;>simp only[hxe,Eff.bad] at hc hx⊢ <;>try (simp at hc;done)
  ·rename_i b off
   cases hbk:nth .free H b<;>simp only[hbk,Eff.bad] at hc⊢ <;>try (simp at hc;done)
   simp only[Bool.and_eq_true,beq_iff_eq,Nat.ble_eq,Nat.blt_eq] at hc
   obtain ⟨c1,⟨c2,c3⟩,⟨c4,c5⟩,c6⟩:=hc
   exact storeP_after hr hf hbk hx hy rfl rfl c1 c2 c3 c4 c5 c6 undef
  ·rename_i b ver p i j
   cases hbk:nth .free H b<;>simp only[hbk,Eff.bad] at hc⊢ <;>try (simp at hc;done)
   rename_i fz v iv e k os' xs hole
   cases fz<;>simp only at hc⊢ <;>try (simp at hc;done)
   exact storeT_after (d:=⟨v,iv,e,k,os',xs,hole⟩) hr hbk hx hy hc undef
  ·rename_i b ver i j
   cases hbk:nth .free H b<;>simp only[hbk,Eff.bad] at hc⊢ <;>try (simp at hc;done)
   simp only[Bool.and_eq_true,beq_iff_eq,Nat.ble_eq,Nat.blt_eq,decide_eq_true_eq,Bool.not_eq_true'] at hc
   obtain ⟨c1,c2,c3,c4,c5,c6,c7,cd,c8⟩:=hc
   subst c3
   exact storeE_after hr hbk hx hy rfl rfl c1 (by simpa using c2) c4 c5 cd c6 c7 c8 undef
 | nilCheck x=>
  have hx:=one x (by simp[Op.operands]) (by simp)
  simp only[opE0] at hc hn
  have fin:∀ad,a.eval x= .pointer (some ad)→VR H μ w S (opE0 cx T H base ⟨dst, .nilCheck x,ty,pos,after_,guard⟩).val (a.eval x)→(opE0 cx T H base ⟨dst, .nilCheck x,ty,pos,after_,guard⟩).wr=[]→(⟨dst, .nilCheck x,ty,pos,after_,guard⟩:Oper).wp cx.P a w next Q:=fun ad h1 h2 h3=>
   wp_value (u:=a.eval x) (by simp[execOp,h1]) (hn _ _ (After.quiet hr h3 h2))
  cases hxe:unw (ev T x)<;>simp only[hxe,Eff.bad] at hc hx<;>try (simp at hc;done)
  ·generalize hax:a.eval x=vx at hx
   cases hx with
   |pv h=>cases h
   |ptr b off cs B h1 h2=>exact fin _ hax (by rw[hax];simp only[opE0,hxe];exact .ptr _ _ cs B h1 h2) (by simp only[opE0,hxe];rfl)
  ·generalize hax:a.eval x=vx at hx
   cases hx with
   |pv h=>cases h
   |tptr b ver p i j d B o h1 h2 h3=>exact fin _ hax (by rw[hax];simp only[opE0,hxe];exact .tptr _ _ _ _ _ d B o h1 h2 h3) (by simp only[opE0,hxe];rfl)
  ·generalize hax:a.eval x=vx at hx
   cases hx with
   |pv h=>cases h
   |eptr b ver i j r B o h1 h2 h3=>exact fin _ hax (by rw[hax];simp only[opE0,hxe];exact .eptr _ _ _ _ r B o h1 h2 h3) (by simp only[opE0,hxe];rfl)
  ·generalize hax:a.eval x=vx at hx
   cases hx with
   |pv h=>
    have h':=h
    cases h
    exact fin _ hax (by rw[hax];simp only[opE0,hxe];exact .pv h') (by simp only[opE0,hxe];rfl)
 |binOp op t x y yt=>
  obtain ⟨u,h1,h2⟩:=binE_run (P:=cx.P) (px:=x) (py:=y) (one x (by simp[Op.operands]) (by simp)) (one y (by simp[Op.operands]) (by simp)) hc
  refine quiet (by simp[execOp]) h1 ?_ h2
  simp only[opE0,binE,Eff.bad,Eff.v,intOp]
  repeat' split
  all_goals rfl
 |unOp op t x=>
  obtain ⟨u,h1,h2⟩:=unE_run (P:=cx.P) (one x (by simp[Op.operands]) (by simp)) hc
  refine quiet (by simp[execOp]) h1 ?_ h2
  simp only[opE0,unE]
  repeat' split
  all_goals rfl
 | convert s d x=>
  cases hsl:isSlT cx.P s with
  |true=>
   have e:convHE cx.P s d H (unw (ev T x))=bytesE cx.P s d H (unw (ev T x)):=by simp only[convHE,hsl,cond_true]
   have hc':(bytesE cx.P s d H (unw (ev T x))).chk=true:=by rw[←e];exact hc
   obtain ⟨u,h1,h2⟩:=bytes_run (P:=cx.P) hr.hr (one x (by simp[Op.operands]) (by simp)) hc'
   rw[←e] at h2
   exact quiet (by simp[execOp]) h1 (by simp only[opE0,e];rfl) h2
  |false=>
   have e:convHE cx.P s d H (unw (ev T x))=convE cx.P s d (unw (ev T x)):=by simp only[convHE,hsl,cond_false]
   have hc':(convE cx.P s d (unw (ev T x))).chk=true:=by rw[←e];exact hc
   obtain ⟨u,h1,h2⟩:=convE_run (P:=cx.P) (one x (by simp[Op.operands]) (by simp)) hc'
   rw[←e] at h2
   refine quiet (by simp[execOp]) h1 ?_ h2
   simp only[opE0,e,convE]
   repeat' split
   all_goals rfl
 |makeSlice t l c=>
  obtain ⟨u,w',h1,h2⟩:=makeSlice_after (P:=cx.P) hr hf (one l (by simp[Op.operands]) (by simp)) (one c (by simp[Op.operands]) (by simp)) hc
  exact noisy (by simp[execOp]) h1 h2
 | makeMap t n=>
  cases n with
  |some y=>simp[opE0,Eff.bad] at hc
  | none=>
   simp only[opE0] at hc
   unfold makeMapE at hc
   cases hm:mapT cx.P t with
   |none=>simp[hm,Eff.bad] at hc
   |some ke=>
    obtain ⟨u,w',h1,h2⟩:=makeMap_after (P:=cx.P) (t:=t) (f:=opE0 cx T H base ⟨dst, .makeMap t none,ty,pos,after_,guard⟩) hr hf (by simp only[opE0,makeMapE,hm]) (by simp only[opE0,makeMapE,hm];rfl)
    exact noisy (by simp[execOp]) h1 h2
 |lookup t x ix ok=>
  obtain ⟨u,h1,h2,h3⟩:=lookup_run (P:=cx.P) hr.hr (one x (by simp[Op.operands]) (by simp)) (one ix (by simp[Op.operands]) (by simp)) hc
  exact quiet (by simp[execOp]) h1 h3 h2
 |range t x=>
  obtain ⟨u,w',h1,h2⟩:=range_after (P:=cx.P) hr (fun i hi=>hf i (by simp[slots];omega)) (one x (by simp[Op.operands]) (by simp)) hc
  exact noisy (by simp[execOp]) h1 h2
 |next x s=>
  obtain ⟨u,w',h1,h2⟩:=hnx x s rfl
  exact noisy (by simp[execOp]) h1 h2
 |entry x=>
  obtain ⟨u,h1,h2,h3⟩:=entry_run (P:=cx.P) hr.hr (one x (by simp[Op.operands]) (by simp)) hc
  exact quiet (by simp[execOp]) h1 h3 h2
 |mapUpdate t m k x=>
  obtain ⟨w',h1,h2⟩:=update_after (P:=cx.P) hr (one m (by simp[Op.operands]) (by simp)) (one k (by simp[Op.operands]) (by simp)) (one x (by simp[Op.operands]) (by simp)) hc undef
  exact wp_unit (by simp[execOp,h1]) (hn _ _ h2)
 |insert t m k x=>
  obtain ⟨w',h1,h2⟩:=update_after (P:=cx.P) hr (one m (by simp[Op.operands]) (by simp)) (one k (by simp[Op.operands]) (by simp)) (one x (by simp[Op.operands]) (by simp)) hc undef
  exact wp_unit (by simp[execOp,h1]) (hn _ _ h2)
 |sliceToArrayPointer t x=>
  obtain ⟨u,h1,h2⟩:=arrayAt_run (P:=cx.P) (one x (by simp[Op.operands]) (by simp)) hc
  refine quiet (by simp[execOp]) h1 ?_ h2
  simp only[opE0,arrayAtE]
  repeat' split
  all_goals rfl
 |slice t x lo hi mx=>
  obtain ⟨u,h1,h2⟩:=sliceE_run (P:=cx.P) (one x (by simp[Op.operands]) (by simp)) (optV hr.hr.glob hT lo fun y hy=>grd1 y (by simp[Op.operands,hy]) (by simp)) (optV hr.hr.glob hT hi fun y hy=>grd1 y (by simp[Op.operands,hy]) (by simp)) (optV hr.hr.glob hT mx fun y hy=>grd1 y (by simp[Op.operands,hy]) (by simp)) hc
  refine quiet (by simp[execOp]) h1 ?_ h2
  simp only[opE0,sliceE]
  repeat' split
  all_goals rfl
 |fieldAddr s x f=>
  obtain ⟨u,h1,h2⟩:=fieldAddr_run (P:=cx.P) (one x (by simp[Op.operands]) (by simp)) hc
  refine quiet (by simp[execOp]) h1 ?_ h2
  simp only[opE0,fieldAddrE]
  repeat' split
  all_goals rfl
 |field s x f=>
  obtain ⟨u,h1,h2⟩:=fieldE_run (P:=cx.P) (one x (by simp[Op.operands]) (by simp)) hc
  refine quiet (by simp[execOp]) h1 ?_ h2
  simp only[opE0,fieldE]
  repeat' split
  all_goals rfl
 |indexAddr t x ix=>
  obtain ⟨u,h1,h2⟩:=indexAddr_run (P:=cx.P) (one x (by simp[Op.operands]) (by simp)) (one ix (by simp[Op.operands]) (by simp)) hc
  refine quiet (by simp[execOp]) h1 ?_ h2
  simp only[opE0,indexAddrE]
  repeat' split
  all_goals rfl
 |index t x ix=>
  obtain ⟨u,h1,h2⟩:=indexE_run (P:=cx.P) (one x (by simp[Op.operands]) (by simp)) (one ix (by simp[Op.operands]) (by simp)) hc
  refine quiet (by simp[execOp]) h1 ?_ h2
  simp only[opE0,indexE]
  repeat' split
  all_goals rfl
 |extract x ix=>
  have hx:=one x (by simp[Op.operands]) (by simp)
  cases hxe:unw (ev T x)<;>simp only[opE0,hxe,Eff.bad] at hc hx<;>try (simp at hc;done)
  rename_i vs
  simp only[Eff.v,Nat.blt_eq] at hc
  obtain ⟨u,h1,h2⟩:=extract_run (P:=cx.P) rfl hx hc
  exact quiet (by simp[execOp]) h1 (by simp only[opE0,hxe];rfl) (by simp only[opE0,hxe];exact h2)
 | call c =>
  have hargs:∀x∈c.args.toList,x∈(Op.call c).operands.toList:=fun x hx=>by
   obtain ⟨callee,args,tys⟩:=c
   cases callee<;>simp[Op.operands,Call.operands] at hx⊢ <;>simp[hx]
  have hga:grds T c.args.toList=true:=grds_sub fun x hx=>grd1 x (hargs x hx) (by simp)
  obtain ⟨hal,hav⟩:=evs_args hr.hr.glob hT hga
  obtain ⟨callee,args,tys⟩:=c
  simp only at hargs hga hal hav
  cases callee with
  |invoke r n=>simp[opE0,callOpE,Eff.bad] at hc
  | value f=>
   have inv:∀(g:FuncId) (vs:List AV) (us:Array Value),(∃fn,cx.P.funcs[g]?=some fn∧(fn.name== "runtime.NumGoroutine")=false∧fn.body.isNone=false)→(callFunc g us).run cx.P w= .ok (.enter g us) w:=fun g vs us h=>by
    obtain ⟨fn,f1,f2,f3⟩:=h
    have f2':¬fn.name= "runtime.NumGoroutine" :=by simpa using f2
    have f3':¬fn.body=none:=fun h=>by rw[h] at f3;simp at f3
    simp[callFunc,f1,f2',f3']
   cases f with
   | func f=>
    obtain ⟨hin,h⟩:=call_after (f:=f) hC hr hf hal hav hc
    have hex:(execOp a.eval ⟨dst, .call ⟨.value (.func f),args,tys⟩,ty,pos,after_,guard⟩).run cx.P w= .ok (.enter f (args.map a.eval)) w:=by
     simp only[execOp,resolve,Act.eval,Deferred.ofValue,Sem.run_bind,Sem.run_pure,Result.andThen_ok,invoke]
     simpa using inv f [] (args.map a.eval) hin
    unfold Oper.wp
    rw[hex]
    refine Calls.mono h fun e w' h=> ?_
    obtain ⟨v,rfl,h⟩:=h
    exact hn v w' h
   | tmp t=>
    have ht:=one (.tmp t) (by simp[Op.operands,Call.operands]) (by simp)
    simp only[opE0,callOpE] at hc hn
    replace ht:=asClo_vr ht
    cases hcl:asClo (unw (ev T (.tmp t)))<;>simp only[hcl,Eff.bad] at hc ht<;>try (simp at hc;done)
    rename_i f caps
    have hval:∃us,a.eval (.tmp t)=cloV f us∧caps.length=us.size∧∀i,i<caps.length→VR H μ w S (nth .junk caps i) (us.getD i undef):=by
     generalize a.eval (.tmp t)=v at ht
     cases ht with
     |pv h=>cases h with|clo _ _ us h1 h2=>exact ⟨us,rfl,h1,fun i hi=> .pv (h2 i hi)⟩
     |clo _ _ us h1 h2=>exact ⟨us,rfl,h1,h2⟩
    obtain ⟨us,hfv,hul,huv⟩:=hval
    have huc:(caps.map unclo).length=us.size∧∀i,i<(caps.map unclo).length→VR H μ w S (nth .junk (caps.map unclo) i) (us.getD i undef):=⟨by simpa using hul,fun i hi=>by
     have hi':i<caps.length:=by simpa using hi
     rw[nth_map AV.junk AV.junk unclo caps _ hi']
     have:=huv _ hi'
     cases hx:nth .junk caps i<;>rw[hx] at this<;>first|exact this|exact .junk _⟩
    have app2:∀(xs ys:List AV) (us vs:Array Value),xs.length=us.size→(∀i,i<xs.length→VR H μ w S (nth .junk xs i) (us.getD i undef))→ys.length=vs.size→(∀i,i<ys.length→VR H μ w S (nth .junk ys i) (vs.getD i undef))→
      (xs++ys).length=(us++vs).size∧∀i,i<(xs++ys).length→VR H μ w S (nth .junk (xs++ys) i) ((us++vs).getD i undef):=fun xs ys us vs h1 h2 h3 h4=>by
     refine ⟨by simp only[List.length_append,Array.size_append];omega,fun i hi=> ?_⟩
     rw[nth_append,Array.getD_eq_getD_getElem?,Array.getElem?_append]
     by_cases hlt:i<xs.length
     ·rw[if_pos hlt,if_pos (by omega),←Array.getD_eq_getD_getElem?];exact h2 i hlt
     ·rw[if_neg hlt,if_neg (by omega),←Array.getD_eq_getD_getElem?,←h1]
      exact h4 _ (by simp only[List.length_append] at hi;omega)
    obtain ⟨g,b⟩:=f
    cases b with
    | false=>
     have ha2:=app2 _ _ _ _ hal hav huc.1 huc.2
     obtain ⟨hin,h⟩:=call_after (f:=g) (us:=args.map a.eval++us) hC hr hf ha2.1 ha2.2 hc
     have hex:(execOp a.eval ⟨dst, .call ⟨.value (.tmp t),args,tys⟩,ty,pos,after_,guard⟩).run cx.P w= .ok (.enter g (args.map a.eval++us)) w:=by
      simp only[execOp,resolve,hfv,cloV,cond_false,Deferred.ofValue,Sem.run_bind,Sem.run_pure,Result.andThen_ok,invoke]
      simpa using inv g [] (args.map a.eval++us) hin
     unfold Oper.wp
     rw[hex]
     refine Calls.mono h fun e w' h=> ?_
     obtain ⟨v,rfl,h⟩:=h
     refine hn v w' ?_
     simp only[opE0,callOpE,hcl]
     exact h
    | true=>
     have ha2:=app2 _ _ _ _ huc.1 huc.2 hal hav
     obtain ⟨hin,h⟩:=call_after (f:=g) (us:=us++args.map a.eval) hC hr hf ha2.1 ha2.2 hc
     have hex:(execOp a.eval ⟨dst, .call ⟨.value (.tmp t),args,tys⟩,ty,pos,after_,guard⟩).run cx.P w= .ok (.enter g (us++args.map a.eval)) w:=by
      simp only[execOp,resolve,hfv,cloV,cond_true,Deferred.ofValue,Sem.run_bind,Sem.run_pure,Result.andThen_ok,invoke]
      simpa using inv g [] (us++args.map a.eval) hin
     unfold Oper.wp
     rw[hex]
     refine Calls.mono h fun e w' h=> ?_
     obtain ⟨v,rfl,h⟩:=h
     refine hn v w' ?_
     simp only[opE0,callOpE,hcl]
     exact h
   |_=>simp[opE0,callOpE,Eff.bad] at hc
  | builtin b=>
   cases b with
   | len =>
    simp only[opE0,callOpE] at hc hn
    cases hev:evs T args.toList with
    |nil=>simp[hev,Eff.bad] at hc
    | cons x l=>
     cases l with
     |cons y l=>simp[hev,Eff.bad] at hc
     | nil=>
      cases htys:tys.toList with
      |nil=>simp[hev,htys,Eff.bad] at hc
      | cons t l=>
       cases l with
       |cons y l=>simp[hev,htys,Eff.bad] at hc
       | nil=>
        simp only[hev,htys] at hc
        rw[hev] at hal hav
        have ht:tys= #[t]:=by apply Array.ext';simpa using htys
        have h0:=hav 0 (by simp)
        have hu:args.map a.eval= #[(args.map a.eval).getD 0 undef]:=by
         apply Array.ext
         ·rw[←hal];rfl
         ·intro i h2 h3
          match i with
          |0=>simp[Array.getD_eq_getD_getElem?];rw[Array.getElem?_eq_getElem (by simpa using h2)];simp
          |n+1=>simp at h3
        obtain ⟨u,h1,h2⟩:=lenE_run (P:=cx.P) (ty:=ty) hr.hr h0 hc
        refine quiet (s:=Builtin.len_ tys ty (args.map a.eval)) (u:=u) (by simp[execOp,resolve,invoke,builtin]) (by rw[hu,ht];exact h1) ?_ ?_
        ·simp only[opE0,callOpE,hev,htys,lenE];repeat' split
         all_goals rfl
        ·simp only[opE0,callOpE,hev,htys];exact h2
   | append =>
    simp only[opE0,callOpE] at hc hn
    cases hev:evs T args.toList with
    |nil=>simp[hev,Eff.bad] at hc
    | cons s l=>
     cases l with
     |nil=>simp[hev,Eff.bad] at hc
     | cons x l=>
      cases l with
      |cons y l=>simp[hev,Eff.bad] at hc
      | nil =>
       cases htys:tys.toList with
       |nil=>simp[hev,htys,Eff.bad] at hc
       | cons t l=>
        cases l with
        |nil=>simp[hev,htys,Eff.bad] at hc
        | cons t' l=>
         cases l with
         |cons y l=>simp[hev,htys,Eff.bad] at hc
         | nil=>
          simp only[hev,htys,Bool.and_eq_true,beq_iff_eq] at hc
          obtain ⟨hel,hty,hc⟩:=hc
          rw[hev] at hal hav
          have ht:tys= #[t,t']:=by apply Array.ext';simpa using htys
          have h0:=hav 0 (by simp)
          have h1:=hav 1 (by simp)
          have hu:args.map a.eval= #[(args.map a.eval).getD 0 undef,(args.map a.eval).getD 1 undef]:=by
           apply Array.ext
           ·rw[←hal];rfl
           ·intro i h2 h3
            match i with
            |0=>simp[Array.getD_eq_getD_getElem?];rw[Array.getElem?_eq_getElem (by simpa using h2)];simp
            |1=>simp[Array.getD_eq_getD_getElem?];rw[Array.getElem?_eq_getElem (by simpa using h2)];simp
            |n+2=>simp at h3;omega
          have hsrc:∀k,srcOk H (srcA x)=true→isRo k (view1 H (srcA x))=true→∃news,Src cx.P (width k) t' ((args.map a.eval).getD 1 undef) (asL k (view1 H (srcA x))).length news w∧Elems w S k (asL k (view1 H (srcA x))) news:=fun k hnt hk=>by
           have h1':VR H μ w S x ((args.map a.eval).getD 1 undef):=h1
           cases hs:isStr x with
           | true=>
            cases x<;>first|(cases hs;done)|skip
            obtain ⟨sb,rfl,e2⟩:=vr_str h1'
            rw[e2]
            have hk':k= .int .u8:=by simp only[srcA,view1,isRo,decide_eq_true_eq] at hk;exact hk.symm
            subst hk'
            have hty':isStrT cx.P t'=true:=hty
            have hu:cx.P.underlying t'=some .string:=by
             unfold isStrT at hty'
             split at hty'<;>first|assumption|cases hty'
            exact src_str hu sb
           |false=>
            rw[hs] at hty
            have e1:srcA x=x:=by cases x<;>first|rfl|(cases hs;done)
            rw[e1] at hk hnt⊢
            have hty':t=t':=by simpa using hty
            subst hty'
            obtain ⟨e,he⟩:=Option.isSome_iff_exists.1 hel
            exact src_slice (elemT_spec he) hr.hr h1' hk hnt
          have hxt:(∃c v q,srcA x= .tsl c v q)→VR H μ w S (srcA x) ((args.map a.eval).getD 1 undef)∧∃e',cx.P.underlying t'=some (.slice e'):=by
           rintro ⟨c,v,q,hxe⟩
           have hxx:x= .tsl c v q:=by cases x<;>first|exact hxe|(cases hxe;done)
           subst hxx
           refine ⟨h1,?_⟩
           have hty':t=t':=by simpa [isStr] using hty
           subst hty'
           obtain ⟨e,he⟩:=Option.isSome_iff_exists.1 hel
           exact ⟨e,elemT_spec he⟩
          obtain ⟨u,w',h2,h3⟩:=append_after (P:=cx.P) (tx:=t') (ty:=ty) hr hf h0 hsrc hxt hc
          refine noisy (s:=Builtin.append_ tys ty (args.map a.eval)) (u:=u) (w':=w') (by simp[execOp,resolve,invoke,builtin]) (by rw[hu,ht];exact h2) ?_
          simp only[opE0,callOpE,hev,htys]
          exact h3
   | copy =>
    simp only[opE0,callOpE] at hc hn
    cases hev:evs T args.toList with
    |nil=>simp[hev,Eff.bad] at hc
    | cons s l=>
     cases l with
     |nil=>simp[hev,Eff.bad] at hc
     | cons x l=>
      cases l with
      |cons y l=>simp[hev,Eff.bad] at hc
      | nil =>
       cases htys:tys.toList with
       |nil=>simp[hev,htys,Eff.bad] at hc
       | cons t l=>
        cases l with
        |nil=>simp[hev,htys,Eff.bad] at hc
        | cons t' l=>
         cases l with
         |cons y l=>simp[hev,htys,Eff.bad] at hc
         | nil=>
          simp only[hev,htys] at hc
          rw[hev] at hal hav
          have ht:tys= #[t,t']:=by apply Array.ext';simpa using htys
          have h0:=hav 0 (by simp)
          have h1:=hav 1 (by simp)
          have hu:args.map a.eval= #[(args.map a.eval).getD 0 undef,(args.map a.eval).getD 1 undef]:=by
           apply Array.ext
           ·rw[←hal];rfl
           ·intro i h2 h3
            match i with
            |0=>simp[Array.getD_eq_getD_getElem?];rw[Array.getElem?_eq_getElem (by simpa using h2)];simp
            |1=>simp[Array.getD_eq_getD_getElem?];rw[Array.getElem?_eq_getElem (by simpa using h2)];simp
            |n+2=>simp at h3;omega
          obtain ⟨u,w',h2,h3⟩:=copy_after (P:=cx.P) (t':=t') (ty:=ty) hr h0 h1 hc
          refine noisy (s:=Builtin.copy_ tys ty (args.map a.eval)) (u:=u) (w':=w') (by simp[execOp,resolve,invoke,builtin]) (by rw[hu,ht];exact h2) ?_
          simp only[opE0,callOpE,hev,htys]
          exact h3
   |min=>
    obtain ⟨u,h1,h2⟩:=minE_run (P:=cx.P) (ty:=ty) (tys:=tys) hal hav hc
    refine quiet (s:=Builtin.min_ tys ty (args.map a.eval)) (u:=u) (by simp[execOp,resolve,invoke,builtin]) h1 ?_ h2
    simp only[opE0,callOpE,minE];repeat' split
    all_goals rfl
   |max=>
    obtain ⟨u,h1,h2⟩:=maxE_run (P:=cx.P) (ty:=ty) (tys:=tys) hal hav hc
    refine quiet (s:=Builtin.max_ tys ty (args.map a.eval)) (u:=u) (by simp[execOp,resolve,invoke,builtin]) h1 ?_ h2
    simp only[opE0,callOpE,maxE];repeat' split
    all_goals rfl
   |_=>simp[opE0,callOpE,Eff.bad] at hc
 | makeFunc fn first caps=>
  cases fn with
  | func f=>
   cases hfe:first.isEmpty with
   |true=>
    have hfi:first= #[]:=by simpa using hfe
    subst hfi
    have hga:grds T caps.toList=true:=grds_sub fun x hx=>grd1 x (by simp[Op.operands];exact Array.mem_toList_iff.1 hx) (by simp)
    obtain ⟨hal,hav⟩:=evs_args hr.hr.glob hT hga
    exact quiet (s:=Instr.makeFunc (.func f) ((#[]:Array Operand).map a.eval) (caps.map a.eval)) (u:=cloV (f,false) (caps.map a.eval)) (by simp[execOp]) (by simp[Instr.makeFunc,cloV]) rfl (.clo _ _ _ hal hav)
   |false=>
    simp only[opE0,hfe,cond_false,Eff.v,Bool.and_eq_true] at hc
    have hci:caps= #[]:=by simpa using hc.1
    subst hci
    have hga:grds T first.toList=true:=grds_sub fun x hx=>grd1 x (by simp[Op.operands];exact Array.mem_toList_iff.1 hx) (by simp)
    obtain ⟨hal,hav⟩:=evs_args hr.hr.glob hT hga
    exact quiet (s:=Instr.makeFunc (.func f) (first.map a.eval) ((#[]:Array Operand).map a.eval)) (u:=cloV (f,true) (first.map a.eval)) (by simp[execOp]) (by simp[Instr.makeFunc,cloV]) (by simp only[opE0,hfe];rfl) (by simp only[opE0,hfe];exact .clo _ _ _ hal hav)
  |_=>simp[opE0,Eff.bad] at hc
 |_=>simp[opE0,Eff.bad] at hc
end
end Go.Abs
