/- The laws of what is small in an organ: its places, its mouths, its states. -/
import Derived.Test.YtiglikocfjhkcaaDoorSG
import Derived.Test.YtiglikocfjhkcaaDoorProg
import Derived.KernelRfl
set_option linter.all false
set_option linter.unusedVariables false
set_option linter.unusedSimpArgs false
open Go Go.Abs Go.Proofs
namespace Go.Proofs.YtiglikocfjhkcaaDoor
noncomputable def tbSH_1:=addC 47 (inl Tryd.prog tbSGB cxMd tbKSGB Tryd.f47) tbSGB
noncomputable def tbKSH_1:KT:=addK 47 (inlK Tryd.prog tbSGB cxMd tbKSGB Tryd.f47) tbKSGB
theorem tabSH_1:Tab Tryd.prog tbSH_1 cxMd tbKSH_1:=Tab.addInl tabSGB tabSGB (fn:=Tryd.f47) (by kernel_rfl) (by kernel_rfl) (by kernel_rfl)
noncomputable def tbSH:=tbSH_1
noncomputable def tbKSH:KT:=tbKSH_1
theorem tabSH:Tab Tryd.prog tbSH cxMd tbKSH:=tabSH_1
noncomputable def cx_oWithin (F:Nat):Cx:={P:=Tryd.prog,C:=tbSH,K:=tbKSH,mode:=cxMd,fuel:=F,live:=liveTab [],pin:=0,nx:=true}
noncomputable def cx_rWithin (F:Nat):Cx:={P:=Tryd.prog,C:=tbSH,K:=tbKSH,mode:=cxMd,fuel:=F,live:=liveTab [],pin:=0,nx:=true}
noncomputable def cx_beside (F:Nat):Cx:={P:=Tryd.prog,C:=tbSH,K:=tbKSH,mode:=cxMd,fuel:=F,live:=liveTab [],pin:=0,nx:=true}
noncomputable def cx_outer (F:Nat):Cx:={P:=Tryd.prog,C:=tbSH,K:=tbKSH,mode:=cxMd,fuel:=F,live:=liveTab [],pin:=0,nx:=true}
noncomputable def cx_rStates (F:Nat):Cx:={P:=Tryd.prog,C:=tbSH,K:=tbKSH,mode:=cxMd,fuel:=F,live:=liveTab [],pin:=0,nx:=true}
noncomputable def cx_leads (F:Nat):Cx:={P:=Tryd.prog,C:=tbSH,K:=tbKSH,mode:=cxMd,fuel:=F,live:=liveTab [],pin:=0,nx:=true}
noncomputable def cx_mouths (F:Nat):Cx:={P:=Tryd.prog,C:=tbSH,K:=tbKSH,mode:=cxMd,fuel:=F,live:=liveTab [(4,[5,6,1,4])],pin:=0,nx:=true}
def oWithin_K:CK:=CK.pair KI (CK.pair KI (CK.pair KI (CK.pair KL (CK.pair (CK.slice 50 MoK) (CK.pair KI KI)))))
def oWithin_sh:List (Option Nat):=[some 5,none,none]
def oWithin_R:CK:=CK.bool
def oWithin_re:List (Option Nat):=[none]
theorem oWithin_eq (F:Nat) (a0_0 a0_1 a0_2:Int) (a0_3:List Int) (a0_4:List Mo) (a1 a2:Int):runF (cx_oWithin F) Tryd.f41 [AV.agg [AV.int .i64 a0_0,AV.int .i64 a0_1,AV.int .i64 a0_2,AV.ro KI a0_3,AV.ro MoK a0_4],AV.int .i64 a1,AV.int .i64 a2] []=bif decide (a1≥0) then bif decide (a1<a0_1) then bif decide (a2≥0) then {ok:=true,val:=AV.bool (decide (a2<a0_2))} else {ok:=true,val:=AV.bool false} else {ok:=true,val:=AV.bool false} else {ok:=true,val:=AV.bool false}:=by kernel_rfl
noncomputable def oWithin_run (F:Nat) (x:CT oWithin_K):Res:=runF (cx_oWithin F) Tryd.f41 (groupA oWithin_sh (enc oWithin_K x)) []
theorem oWithin_arg (F:Nat) (a0_0 a0_1 a0_2:Int) (a0_3:List Int) (a0_4:List Mo) (a1 a2:Int):oWithin_run F (a0_0,a0_1,a0_2,a0_3,a0_4,a1,a2)=runF (cx_oWithin F) Tryd.f41 [AV.agg [AV.int .i64 a0_0,AV.int .i64 a0_1,AV.int .i64 a0_2,AV.ro KI a0_3,AV.ro MoK a0_4],AV.int .i64 a1,AV.int .i64 a2] []:=by kernel_rfl
def rWithin_K:CK:=CK.pair KI (CK.pair KI (CK.pair KI (CK.pair KL (CK.pair (CK.slice 50 MoK) (CK.pair KI KI)))))
def rWithin_sh:List (Option Nat):=[some 5,none,none]
def rWithin_R:CK:=CK.bool
def rWithin_re:List (Option Nat):=[none]
theorem rWithin_eq (F:Nat) (a0_0 a0_1 a0_2:Int) (a0_3:List Int) (a0_4:List Mo) (a1 a2:Int):runF (cx_rWithin F) Tryd.f37 [AV.agg [AV.int .i64 a0_0,AV.int .i64 a0_1,AV.int .i64 a0_2,AV.ro KI a0_3,AV.ro MoK a0_4],AV.int .i64 a1,AV.int .i64 a2] []=bif decide (a1≥0) then bif decide (a2≥0) then bif decide (a1<a0_1) then {ok:=true,val:=AV.bool (decide (a2<a0_2))} else {ok:=true,val:=AV.bool false} else {ok:=true,val:=AV.bool false} else {ok:=true,val:=AV.bool false}:=by kernel_rfl
noncomputable def rWithin_run (F:Nat) (x:CT rWithin_K):Res:=runF (cx_rWithin F) Tryd.f37 (groupA rWithin_sh (enc rWithin_K x)) []
theorem rWithin_arg (F:Nat) (a0_0 a0_1 a0_2:Int) (a0_3:List Int) (a0_4:List Mo) (a1 a2:Int):rWithin_run F (a0_0,a0_1,a0_2,a0_3,a0_4,a1,a2)=runF (cx_rWithin F) Tryd.f37 [AV.agg [AV.int .i64 a0_0,AV.int .i64 a0_1,AV.int .i64 a0_2,AV.ro KI a0_3,AV.ro MoK a0_4],AV.int .i64 a1,AV.int .i64 a2] []:=by kernel_rfl
def beside_K:CK:=CK.pair KI (CK.pair KI KI)
def beside_sh:List (Option Nat):=[none,none,none]
def beside_R:CK:=CK.pair KI KI
def beside_re:List (Option Nat):=[none,none]
theorem beside_eq (F:Nat) (a0 a1 a2:Int):runF (cx_beside F) Tryd.f42 [AV.int .i64 a0,AV.int .i64 a1,AV.int .i64 a2] []=bif decide (0≤a2)&&decide (a2<4) then bif decide (0≤a2)&&decide (a2<4) then {ok:=true,val:=AV.tup [AV.int .i64 (IntKind.wrap .i64 (a0+nth 0 [1,0, -1,0] (Int.toNat a2))),AV.int .i64 (IntKind.wrap .i64 (a1+nth 0 [0, -1,0,1] (Int.toNat a2)))]} else BR else BR:=by kernel_rfl
noncomputable def beside_run (F:Nat) (x:CT beside_K):Res:=runF (cx_beside F) Tryd.f42 (groupA beside_sh (enc beside_K x)) []
theorem beside_arg (F:Nat) (a0 a1 a2:Int):beside_run F (a0,a1,a2)=runF (cx_beside F) Tryd.f42 [AV.int .i64 a0,AV.int .i64 a1,AV.int .i64 a2] []:=by kernel_rfl
def outer_K:CK:=CK.pair KI (CK.pair KI (CK.pair KI CK.bool))
def outer_sh:List (Option Nat):=[some 4]
def outer_R:CK:=CK.pair KI KI
def outer_re:List (Option Nat):=[none,none]
theorem outer_eq (F:Nat) (a0_0 a0_1 a0_2:Int) (a0_3:Bool):runF (cx_outer F) Tryd.f38 [AV.agg [AV.int .i64 a0_0,AV.int .i64 a0_1,AV.int .i64 a0_2,AV.bool a0_3]] []=bif decide (a0_2=0) then {ok:=true,val:=AV.tup [AV.int .i64 (IntKind.wrap .i64 (a0_0+1)),AV.int .i64 (IntKind.wrap .i64 (a0_1+0))]} else bif decide (a0_2=1) then {ok:=true,val:=AV.tup [AV.int .i64 (IntKind.wrap .i64 (a0_0+0)),AV.int .i64 (IntKind.wrap .i64 (a0_1+ -1))]} else bif decide (a0_2=2) then {ok:=true,val:=AV.tup [AV.int .i64 (IntKind.wrap .i64 (a0_0+ -1)),AV.int .i64 (IntKind.wrap .i64 (a0_1+0))]} else {ok:=true,val:=AV.tup [AV.int .i64 (IntKind.wrap .i64 (a0_0+0)),AV.int .i64 (IntKind.wrap .i64 (a0_1+1))]}:=by kernel_rfl
noncomputable def outer_run (F:Nat) (x:CT outer_K):Res:=runF (cx_outer F) Tryd.f38 (groupA outer_sh (enc outer_K x)) []
theorem outer_arg (F:Nat) (a0_0 a0_1 a0_2:Int) (a0_3:Bool):outer_run F (a0_0,a0_1,a0_2,a0_3)=runF (cx_outer F) Tryd.f38 [AV.agg [AV.int .i64 a0_0,AV.int .i64 a0_1,AV.int .i64 a0_2,AV.bool a0_3]] []:=by kernel_rfl
def rStates_K:CK:=CK.int .i64
def rStates_sh:List (Option Nat):=[none]
def rStates_R:CK:=CK.int .i64
def rStates_re:List (Option Nat):=[none]
theorem rStates_eq (F:Nat) (a0:Int):runF (cx_rStates F) Tryd.f21 [AV.int .i64 a0] []=bif decide (a0=0) then {ok:=true,val:=AV.int .i64 29} else bif decide (a0=1) then {ok:=true,val:=AV.int .i64 32} else {ok:=true,val:=AV.int .i64 0}:=by kernel_rfl
noncomputable def rStates_run (F:Nat) (x:CT rStates_K):Res:=runF (cx_rStates F) Tryd.f21 (groupA rStates_sh (enc rStates_K x)) []
theorem rStates_arg (F:Nat) (a0:Int):rStates_run F (a0)=runF (cx_rStates F) Tryd.f21 [AV.int .i64 a0] []:=by kernel_rfl
def leads_K:CK:=CK.pair KI KI
def leads_sh:List (Option Nat):=[none,none]
def leads_R:CK:=CK.bool
def leads_re:List (Option Nat):=[none]
theorem leads_eq (F:Nat) (a0 a1:Int):runF (cx_leads F) Tryd.f39 [AV.int .i64 a0,AV.int .i64 a1] []=bif (rIsOrdM a0).2.2 then {ok:=true,val:=AV.bool (decide ((rIsOrdM a0).1=a1))} else {ok:=true,val:=AV.bool false}:=by kernel_rfl
noncomputable def leads_run (F:Nat) (x:CT leads_K):Res:=runF (cx_leads F) Tryd.f39 (groupA leads_sh (enc leads_K x)) []
theorem leads_arg (F:Nat) (a0 a1:Int):leads_run F (a0,a1)=runF (cx_leads F) Tryd.f39 [AV.int .i64 a0,AV.int .i64 a1] []:=by kernel_rfl
def mouths_K:CK:=CK.pair KI (CK.pair KI (CK.pair KI (CK.pair KL (CK.slice 50 MoK))))
def mouths_sh:List (Option Nat):=[some 5]
def mouths_R:CK:=CK.pair KI KI
def mouths_re:List (Option Nat):=[none,none]
noncomputable def mouths_L0r (F n:Nat) (s4 s5 s6 h0_0 h0_1 h0_2:Int) (h0_3:List Int) (h0_4:List Mo):Res:=Lp (cx_mouths F) (loopBy (loopsOf (cx_mouths F) (bodyOf Tryd.f6) (endK (cx_mouths F) Tryd.f6)) 4) n {T:=fr 26 [(1,AV.ptr 0 0),(4,AV.int .i64 s4),(5,AV.int .i64 s5),(6,AV.int .i64 s6)],H:=[Blk.cells [AV.int .i64 h0_0,AV.int .i64 h0_1,AV.int .i64 h0_2,AV.ro KI h0_3,AV.ro MoK h0_4]],ok:=true}
noncomputable def mouths_L0:=Classical.choose (hideE mouths_L0r)
theorem mouths_L0_def:mouths_L0=mouths_L0r:=Classical.choose_spec (hideE mouths_L0r)
theorem mouths_L0_succ (F n:Nat) (s4 s5 s6 h0_0 h0_1 h0_2:Int) (h0_3:List Int) (h0_4:List Mo):mouths_L0 F (n+1) s4 s5 s6 h0_0 h0_1 h0_2 h0_3 h0_4=bif decide (s6<(h0_4.length:Int)) then bif decide (0≤s6)&&decide (s6<(h0_4.length:Int)) then bif (nth (0,0,0,false) h0_4 (Int.toNat s6)).2.2.2 then mouths_L0 F n s4 (IntKind.wrap .i64 (s5+1)) (IntKind.wrap .i64 (s6+1)) h0_0 h0_1 h0_2 h0_3 h0_4 else mouths_L0 F n (IntKind.wrap .i64 (s4+1)) s5 (IntKind.wrap .i64 (s6+1)) h0_0 h0_1 h0_2 h0_3 h0_4 else BR else {ok:=true,val:=AV.tup [AV.int .i64 s4,AV.int .i64 s5]}:=by rewrite [mouths_L0_def];kernel_rfl
theorem mouths_eq (F:Nat) (a0_0 a0_1 a0_2:Int) (a0_3:List Int) (a0_4:List Mo):runF (cx_mouths F) Tryd.f6 [AV.agg [AV.int .i64 a0_0,AV.int .i64 a0_1,AV.int .i64 a0_2,AV.ro KI a0_3,AV.ro MoK a0_4]] []=mouths_L0 F F 0 0 0 a0_0 a0_1 a0_2 a0_3 a0_4:=by rewrite [mouths_L0_def];kernel_rfl
noncomputable def mouths_run (F:Nat) (x:CT mouths_K):Res:=runF (cx_mouths F) Tryd.f6 (groupA mouths_sh (enc mouths_K x)) []
theorem mouths_arg (F:Nat) (a0_0 a0_1 a0_2:Int) (a0_3:List Int) (a0_4:List Mo):mouths_run F (a0_0,a0_1,a0_2,a0_3,a0_4)=runF (cx_mouths F) Tryd.f6 [AV.agg [AV.int .i64 a0_0,AV.int .i64 a0_1,AV.int .i64 a0_2,AV.ro KI a0_3,AV.ro MoK a0_4]] []:=by kernel_rfl
abbrev Organ:=Int×Int×Int×List Int×List Mo
theorem Ret.int2 (k l:IntKind) (a b:Int):Ret [none,none] (.pair (.int k) (.int l)) ⟨true, .tup [.int k a, .int l b],[]⟩ (a,b):=
 ⟨rfl,rfl,rfl,rfl,by simp[roVs,valsOf,view,view1,flatA,cellsA,decOk,nth,isInt,dropL,width],rfl,fun ws h=>by cases h;simp⟩
def withinM:Int×Int×Int×List Int×List Mo×Int×Int→Bool:=fun (_,w,h,_,_,x,y)=>decide (0≤x∧x<w∧0≤y∧y<h)
abbrev oWithinM:Int×Int×Int×List Int×List Mo×Int×Int→Bool:=withinM
abbrev rWithinM:Int×Int×Int×List Int×List Mo×Int×Int→Bool:=withinM
def oWithinFu:CT oWithin_K→Nat:=fun _=>1
def rWithinFu:CT rWithin_K→Nat:=fun _=>1
theorem oWithin_ret (z:Int×Int×Int×List Int×List Mo×Int×Int) (_:true=true):Ret oWithin_re oWithin_R (oWithin_run (oWithinFu z) z) (oWithinM z):=by
 obtain ⟨kind,w,h,cells,mouths,x,y⟩:=z
 refine Ret.of ((oWithin_arg ..).trans ((oWithin_eq ..).trans ?_)) (Ret.bool _)
 simp only[oWithinM,withinM]
 by_cases c1:0≤x<;>by_cases c2:x<w<;>by_cases c3:0≤y<;>simp[c1,c2,c3]
theorem rWithin_ret (z:Int×Int×Int×List Int×List Mo×Int×Int) (_:true=true):Ret rWithin_re rWithin_R (rWithin_run (rWithinFu z) z) (rWithinM z):=by
 obtain ⟨kind,w,h,cells,mouths,x,y⟩:=z
 refine Ret.of ((rWithin_arg ..).trans ((rWithin_eq ..).trans ?_)) (Ret.bool _)
 simp only[rWithinM,withinM]
 by_cases c1:0≤x<;>by_cases c2:x<w<;>by_cases c3:0≤y<;>simp[c1,c2,c3]
def besideOk:Int×Int×Int→Bool:=fun (_,_,d)=>decide (0≤d∧d<4)
def besideM:Int×Int×Int→Int×Int:=fun (x,y,d)=>(IntKind.wrap .i64 (x+nth 0 [1,0, -1,0] d.toNat),IntKind.wrap .i64 (y+nth 0 [0, -1,0,1] d.toNat))
def besideFu:Int×Int×Int→Nat:=fun _=>1
theorem beside_ret (z:Int×Int×Int) (h:besideOk z=true):Ret beside_re beside_R (beside_run (besideFu z) z) (besideM z):=by
 obtain ⟨x,y,d⟩:=z
 simp only[besideOk,decide_eq_true_eq] at h
 refine Ret.of ((beside_arg ..).trans ((beside_eq ..).trans ?_)) (Ret.int2 _ _ _ _)
 simp only[h.1,h.2,decide_true,Bool.and_self,cond_true,besideM]
def outerOk:Mo→Bool:=fun (_,_,d,_)=>decide (0≤d∧d<4)
def outerM:Mo→Int×Int:=fun (x,y,d,_)=>besideM (x,y,d)
def outerFu:Mo→Nat:=fun _=>1
theorem outer_ret (z:Mo) (h:outerOk z=true):Ret outer_re outer_R (outer_run (outerFu z) z) (outerM z):=by
 obtain ⟨x,y,d,o⟩:=z
 simp only[outerOk,decide_eq_true_eq] at h
 refine Ret.of ((outer_arg ..).trans ((outer_eq ..).trans ?_)) (Ret.int2 _ _ _ _)
 obtain rfl|rfl|rfl|rfl:d=0∨d=1∨d=2∨d=3:=by omega
 all_goals rfl
def isOrdM:Int→Int×Bool×Bool:=fun s=>bif decide (9≤s∧s<17) then (Int.tmod (s-9) 4,decide (s≥13),true) else (0,false,false)
def rStatesM:Int→Int:=fun k=>bif decide (k=0) then 29 else bif decide (k=1) then 32 else 0
def rStatesFu:Int→Nat:=fun _=>1
theorem rStates_ret (k:Int) (_:true=true):Ret rStates_re rStates_R (rStates_run (rStatesFu k) k) (rStatesM k):=by
 refine Ret.of ((rStates_arg ..).trans ((rStates_eq ..).trans ?_)) (Ret.int _ _)
 simp only[rStatesM,Bool.cond_decide]
 repeat' split
 all_goals rfl
def leadsM:Int×Int→Bool:=fun (s,d)=>decide (9≤s∧s<17∧Int.tmod (s-9) 4=d)
def leadsFu:Int×Int→Nat:=fun _=>1
theorem rIsOrd_isOrd (s:Int):rIsOrdM s=isOrdM s:=by
 simp only[rIsOrdM,isOrdM,rOrdM]
 by_cases h:9≤s∧s<17
 ·have e1:rSpecM s=false:=decide_eq_false (by omega)
  have e2:rOrdM s=true:=decide_eq_true h
  rw[decide_eq_true h]
  simp only[headingM,rExcM,e1,e2,cond_false,cond_true,Bool.not_true,Bool.true_and,Bool.false_and,Bool.or_false,wrap_id (n:=s-9) (by omega) (by omega)]
 ·rw[decide_eq_false h];rfl
theorem cIsOrd_isOrd (s:Int):cIsOrdM s=isOrdM s:=by
 simp only[cIsOrdM,isOrdM,sortOfM]
 by_cases h:9≤s∧s<17
 ·rw[decide_eq_true h,if_neg (by omega),if_pos h];rfl
 ·rw [decide_eq_false h]
  by_cases h1:1≤s∧s<9
  ·rw[if_pos h1];rfl
  ·rw[if_neg h1,if_neg h]
   by_cases h2:17≤s∧s<25
   ·rw[if_pos h2];rfl
   ·rw[if_neg h2]
    by_cases h3:25≤s∧s<29
    ·rw[if_pos h3];rfl
    ·rw[if_neg h3]
     by_cases h4:29≤s∧s≤31
     ·rw[if_pos h4];rfl
     ·rw[if_neg h4];rfl
theorem leads_ret (z:Int×Int) (_:true=true):Ret leads_re leads_R (leads_run (leadsFu z) z) (leadsM z):=by
 obtain ⟨s,d⟩:=z
 refine Ret.of ((leads_arg ..).trans ((leads_eq ..).trans ?_)) (Ret.bool _)
 rw[rIsOrd_isOrd,leadsM]
 by_cases h:9≤s∧s<17
 ·rw[show isOrdM s=(Int.tmod (s-9) 4,decide (s≥13),true) by simp only[isOrdM];rw[decide_eq_true h];rfl]
  simp[h]
 ·rw[show isOrdM s=(0,false,false) by simp only[isOrdM];rw[decide_eq_false h];rfl]
  have:¬(9≤s∧s<17∧Int.tmod (s-9) 4=d):=fun q=>h ⟨q.1,q.2.1⟩
  rw[decide_eq_false this];rfl
def cntO:List Mo→Nat
 |[]=>0
 |m::l=>(bif m.2.2.2 then 1 else 0)+cntO l
def cntI:List Mo→Nat
 |[]=>0
 |m::l=>(bif m.2.2.2 then 0 else 1)+cntI l
theorem cnt_le:∀(l:List Mo),cntO l+cntI l=l.length
 |[]=>rfl
 |m::l=>by
  have:=cnt_le l
  simp only[cntO,cntI,List.length_cons]
  cases m.2.2.2<;>simp<;>omega
theorem mouths_L0_spec (F:Nat) (kind w h:Int) (cells:List Int) (ms:List Mo) (hx:ms.length<big):∀(k n i a b:Nat),i+k=ms.length→k<n→a+b=i→
  mouths_L0 F n a b i kind w h cells ms=⟨true, .tup [.int .i64 ((a+cntI (ms.drop i):Nat):Int), .int .i64 ((b+cntO (ms.drop i):Nat):Int)],[]⟩
 |k,0,i,a,b,_,h,_=>by omega
 |0,n+1,i,a,b,hi,_,_=>by
  rw[mouths_L0_succ,drop_len ms (by omega)]
  simp[show ¬((i:Int)<ms.length) by omega,cntI,cntO]
 |k+1,n+1,i,a,b,hi,hn,hab=>by
  have ih1:=mouths_L0_spec F kind w h cells ms hx k n (i+1) (a+1) b (by omega) (by omega) (by omega)
  have ih2:=mouths_L0_spec F kind w h cells ms hx k n (i+1) a (b+1) (by omega) (by omega) (by omega)
  simp only[big] at hx
  rw[mouths_L0_succ,wrap_succ (by omega),wrap_succ (by omega),wrap_succ (by omega),ih1,ih2,drop_nth (0,0,0,false) ms (show i<ms.length by omega)]
  have h1:(i:Int)<ms.length:=by omega
  have h0:(0:Int)≤i:=by omega
  simp only[h1,h0,decide_true,Bool.true_and,cond_true,Int.toNat_natCast,cntI,cntO]
  cases (nth (0,0,0,false) ms i).2.2.2
  ·simp only[cond_false,Res.mk.injEq,AV.tup.injEq,List.cons.injEq,AV.int.injEq,true_and,and_true];omega
  ·simp only[cond_true,Res.mk.injEq,AV.tup.injEq,List.cons.injEq,AV.int.injEq,true_and,and_true];omega
def mouthsOk:Organ→Bool:=fun (_,_,_,_,ms)=>decide (ms.length<big)
def mouthsM:Organ→Int×Int:=fun (_,_,_,_,ms)=>((cntI ms:Int),(cntO ms:Int))
def mouthsFu:Organ→Nat:=fun (_,_,_,_,ms)=>ms.length+1
theorem mouths_ret (z:Organ) (hk:mouthsOk z=true):Ret mouths_re mouths_R (mouths_run (mouthsFu z) z) (mouthsM z):=by
 obtain ⟨kind,w,h,cells,ms⟩:=z
 simp only[mouthsOk,decide_eq_true_eq] at hk
 refine Ret.of ((mouths_arg ..).trans ((mouths_eq ..).trans ?_)) (Ret.int2 _ _ _ _)
 have:=mouths_L0_spec (ms.length+1) kind w h cells ms hk ms.length (ms.length+1) 0 0 0 (by omega) (by omega) (by omega)
 rw[show (0:Int)=((0:Nat):Int) from rfl,show mouthsFu (kind,w,h,cells,ms)=ms.length+1 from rfl,this]
 simp only[Nat.zero_add,List.drop_zero,mouthsM]
noncomputable def tbSHL_1:=addC 41 (tspec oWithin_sh oWithin_K oWithin_re oWithin_R (fun _=>true) oWithinM) tbSH
theorem tabSHL_1:Tab Tryd.prog tbSHL_1 cxMd tbKSH:=Tab.addTy (os:=[]) tabSH tabSH (KK:=oWithin_K) (R:=oWithin_R) (fn:=Tryd.f41) (by kernel_rfl) (by kernel_rfl) (by kernel_rfl) (by kernel_rfl) _ oWithinFu oWithin_ret
noncomputable def tbSHL_2:=addC 37 (tspec rWithin_sh rWithin_K rWithin_re rWithin_R (fun _=>true) rWithinM) tbSHL_1
theorem tabSHL_2:Tab Tryd.prog tbSHL_2 cxMd tbKSH:=Tab.addTy (os:=[]) tabSHL_1 tabSH (KK:=rWithin_K) (R:=rWithin_R) (fn:=Tryd.f37) (by kernel_rfl) (by kernel_rfl) (by kernel_rfl) (by kernel_rfl) _ rWithinFu rWithin_ret
noncomputable def tbSHL_3:=addC 42 (tspec beside_sh beside_K beside_re beside_R besideOk besideM) tbSHL_2
theorem tabSHL_3:Tab Tryd.prog tbSHL_3 cxMd tbKSH:=Tab.addTy (os:=[]) tabSHL_2 tabSH (KK:=beside_K) (R:=beside_R) (fn:=Tryd.f42) (by kernel_rfl) (by kernel_rfl) (by kernel_rfl) (by kernel_rfl) _ besideFu beside_ret
noncomputable def tbSHL_4:=addC 38 (tspec outer_sh outer_K outer_re outer_R outerOk outerM) tbSHL_3
theorem tabSHL_4:Tab Tryd.prog tbSHL_4 cxMd tbKSH:=Tab.addTy (os:=[]) tabSHL_3 tabSH (KK:=outer_K) (R:=outer_R) (fn:=Tryd.f38) (by kernel_rfl) (by kernel_rfl) (by kernel_rfl) (by kernel_rfl) _ outerFu outer_ret
noncomputable def tbSHL_5:=addC 21 (tspec rStates_sh rStates_K rStates_re rStates_R (fun _=>true) rStatesM) tbSHL_4
theorem tabSHL_5:Tab Tryd.prog tbSHL_5 cxMd tbKSH:=Tab.addTy (os:=[]) tabSHL_4 tabSH (KK:=rStates_K) (R:=rStates_R) (fn:=Tryd.f21) (by kernel_rfl) (by kernel_rfl) (by kernel_rfl) (by kernel_rfl) _ rStatesFu rStates_ret
noncomputable def tbSHL_6:=addC 39 (tspec leads_sh leads_K leads_re leads_R (fun _=>true) leadsM) tbSHL_5
theorem tabSHL_6:Tab Tryd.prog tbSHL_6 cxMd tbKSH:=Tab.addTy (os:=[]) tabSHL_5 tabSH (KK:=leads_K) (R:=leads_R) (fn:=Tryd.f39) (by kernel_rfl) (by kernel_rfl) (by kernel_rfl) (by kernel_rfl) _ leadsFu leads_ret
noncomputable def tbSHL_7:=addC 6 (tspec mouths_sh mouths_K mouths_re mouths_R mouthsOk mouthsM) tbSHL_6
theorem tabSHL_7:Tab Tryd.prog tbSHL_7 cxMd tbKSH:=Tab.addTy (os:=[]) tabSHL_6 tabSH (KK:=mouths_K) (R:=mouths_R) (fn:=Tryd.f6) (by kernel_rfl) (by kernel_rfl) (by kernel_rfl) (by kernel_rfl) _ mouthsFu mouths_ret
noncomputable def tbSHB:=tbSHL_7
noncomputable def tbKSHB:KT:=tbKSH
theorem tabSHB:Tab Tryd.prog tbSHB cxMd tbKSHB:=tabSHL_7
end Go.Proofs.YtiglikocfjhkcaaDoor
