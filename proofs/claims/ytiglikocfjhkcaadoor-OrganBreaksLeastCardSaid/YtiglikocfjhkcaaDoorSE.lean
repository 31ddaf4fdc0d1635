/- Cells of the wires' spaces; rules. -/
import Derived.Test.YtiglikocfjhkcaaDoorSD
import Derived.Test.YtiglikocfjhkcaaDoorProg
import Derived.KernelRfl
set_option linter.all false
set_option linter.unusedVariables false
set_option linter.unusedSimpArgs false
open Go Go.Abs Go.Proofs
namespace Go.Proofs.YtiglikocfjhkcaaDoor
noncomputable def tbSE:=tbSDB
noncomputable def tbKSE:KT:=tbKSDB
theorem tabSE:Tab Tryd.prog tbSE cxMd tbKSE:=tabSDB
noncomputable def cx_next29 (F:Nat):Cx:={P:=Tryd.prog,C:=tbSE,K:=tbKSE,mode:=cxMd,fuel:=F,live:=liveTab [],pin:=0,nx:=true}
noncomputable def cx_check (F:Nat):Cx:={P:=Tryd.prog,C:=tbSE,K:=tbKSE,mode:=cxMd,fuel:=F,live:=liveTab [(11,[22,21,1,20]),(14,[22,21,1,20,4,36,37])],pin:=0,nx:=true}
def next29_K:CK:=CK.pair KI (CK.pair KI MoK)
def next29_sh:List (Option Nat):=[none,some 4,none]
def next29_R:CK:=CK.int .i64
def next29_re:List (Option Nat):=[none]
theorem next29_eq (F:Nat) (a0 a1_0 a1_1 a1_2 a1_3:Int) (a2:Bool):runF (cx_next29 F) Tryd.f61 [AV.int .i64 a0,AV.agg [AV.int .i64 a1_0,AV.int .i64 a1_1,AV.int .i64 a1_2,AV.int .i64 a1_3],AV.bool a2] []=bif decide ((sortOfM a0).1=0) then bif (hitsM (a1_0,a1_1,a1_2,a1_3)).1 then {ok:=true,val:=AV.int .i64 1} else bif (hitsM (a1_0,a1_1,a1_2,a1_3)).2 then {ok:=true,val:=AV.int .i64 1} else {ok:=true,val:=AV.int .i64 0} else bif decide ((sortOfM a0).1=1) then bif (hitsM (a1_0,a1_1,a1_2,a1_3)).1 then bif growOk (a0,true) then {ok:=true,val:=AV.int .i64 (growM (a0,true))} else BR else bif growOk (a0,(hitsM (a1_0,a1_1,a1_2,a1_3)).2) then {ok:=true,val:=AV.int .i64 (growM (a0,(hitsM (a1_0,a1_1,a1_2,a1_3)).2))} else BR else bif decide ((sortOfM a0).1=2) then bif decide ((sortOfM a0).1=2) then {ok:=true,val:=AV.int .i64 (wireNextM (a0,a1_0,a1_1,a1_2,a1_3))} else {ok:=true,val:=AV.int .i64 (jointNextM (a0,a1_0,a1_1,a1_2,a1_3,a2))} else bif decide ((sortOfM a0).1=3) then {ok:=true,val:=AV.int .i64 (wireNextM (a0,a1_0,a1_1,a1_2,a1_3))} else {ok:=true,val:=AV.int .i64 (jointNextM (a0,a1_0,a1_1,a1_2,a1_3,a2))}:=by kernel_rfl
noncomputable def next29_run (F:Nat) (x:CT next29_K):Res:=runF (cx_next29 F) Tryd.f61 (groupA next29_sh (enc next29_K x)) []
theorem next29_arg (F:Nat) (a0 a1_0 a1_1 a1_2 a1_3:Int) (a2:Bool):next29_run F (a0,a1_0,a1_1,a1_2,a1_3,a2)=runF (cx_next29 F) Tryd.f61 [AV.int .i64 a0,AV.agg [AV.int .i64 a1_0,AV.int .i64 a1_1,AV.int .i64 a1_2,AV.int .i64 a1_3],AV.bool a2] []:=by kernel_rfl
def check_K:CK:=CK.pair KI (CK.slice 121 (CK.pair KI (CK.pair KI (CK.pair KI (CK.pair KI (CK.pair KI KI))))))
def check_sh:List (Option Nat):=[some 2]
def check_R:CK:=CK.int .i64
def check_re:List (Option Nat):=[none]
noncomputable def check_L0r (F n:Nat) (s20:List (Int×Int×Int×Int×Int×Int)) (s21 s22 h0_0:Int) (h0_1:List (Int×Int×Int×Int×Int×Int)):Res:=Lp (cx_check F) (loopBy (loopsOf (cx_check F) (bodyOf Tryd.f49) (endK (cx_check F) Tryd.f49)) 11) n {T:=fr 61 [(1,AV.ptr 0 0),(20,AV.ro (CK.pair KI (CK.pair KI (CK.pair KI (CK.pair KI (CK.pair KI KI))))) s20),(21,AV.int .i64 s21),(22,AV.int .i64 s22)],H:=[Blk.cells [AV.int .i64 h0_0,AV.ro (CK.pair KI (CK.pair KI (CK.pair KI (CK.pair KI (CK.pair KI KI))))) h0_1]],ok:=true}
noncomputable def check_L0:=Classical.choose (hideE check_L0r)
theorem check_L0_def:check_L0=check_L0r:=Classical.choose_spec (hideE check_L0r)
theorem check_eq (F:Nat) (a0_0:Int) (a0_1:List (Int×Int×Int×Int×Int×Int)):runF (cx_check F) Tryd.f49 [AV.agg [AV.int .i64 a0_0,AV.ro (CK.pair KI (CK.pair KI (CK.pair KI (CK.pair KI (CK.pair KI KI))))) a0_1]] []=bif decide (a0_0=0) then bif decide (a0_0=0) then {ok:=true,val:=AV.int .i64 0} else bif decide (a0_0=3) then bif decide ((a0_1.length:Int)>4096) then {ok:=true,val:=AV.int .i64 10} else check_L0 F F a0_1 (a0_1.length:Int) 0 a0_0 a0_1 else {ok:=true,val:=AV.int .i64 10} else bif decide (a0_0=1) then bif decide (a0_0=1) then {ok:=true,val:=AV.int .i64 0} else bif decide (a0_0=3) then bif decide ((a0_1.length:Int)>4096) then {ok:=true,val:=AV.int .i64 10} else check_L0 F F a0_1 (a0_1.length:Int) 0 a0_0 a0_1 else {ok:=true,val:=AV.int .i64 10} else bif decide (a0_0=2) then {ok:=true,val:=AV.int .i64 0} else bif decide (a0_0=3) then bif decide ((a0_1.length:Int)>4096) then {ok:=true,val:=AV.int .i64 10} else check_L0 F F a0_1 (a0_1.length:Int) 0 a0_0 a0_1 else {ok:=true,val:=AV.int .i64 10}:=by rewrite [check_L0_def];kernel_rfl
noncomputable def check_run (F:Nat) (x:CT check_K):Res:=runF (cx_check F) Tryd.f49 (groupA check_sh (enc check_K x)) []
theorem check_arg (F:Nat) (a0_0:Int) (a0_1:List (Int×Int×Int×Int×Int×Int)):check_run F (a0_0,a0_1)=runF (cx_check F) Tryd.f49 [AV.agg [AV.int .i64 a0_0,AV.ro (CK.pair KI (CK.pair KI (CK.pair KI (CK.pair KI (CK.pair KI KI))))) a0_1]] []:=by kernel_rfl
abbrev Six:=Int×Int×Int×Int×Int×Int
theorem sort_one {c:Int} (h:(sortOfM c).1=1):1≤c∧c≤8:=by
 unfold sortOfM at h
 repeat' split at h
 all_goals first|omega|(simp at h;done)
def next29M:Int×Int×Int×Int×Int×Bool→Int:=fun (c,a,b,e,d,x)=>
 bif decide ((sortOfM c).1=0) then (bif (hitsM (a,b,e,d)).1||(hitsM (a,b,e,d)).2 then 1 else 0) else bif decide ((sortOfM c).1=1) then growM (c,(hitsM (a,b,e,d)).1||(hitsM (a,b,e,d)).2)
 else bif decide ((sortOfM c).1=2)||decide ((sortOfM c).1=3) then wireNextM (c,a,b,e,d) else jointNextM (c,a,b,e,d,x)
def next29Fu:Int×Int×Int×Int×Int×Bool→Nat:=fun _=>1
theorem next29_ret (z:Int×Int×Int×Int×Int×Bool) (_:true=true):Ret next29_re next29_R (next29_run (next29Fu z) z) (next29M z):=by
 obtain ⟨c,a,b,e,d,x⟩:=z
 refine Ret.of (r':=I (next29M (c,a,b,e,d,x))) ((next29_arg ..).trans ((next29_eq ..).trans ?_)) (Ret.int _ _)
 simp only[next29M]
 cases decide ((sortOfM c).1=0) with
 |true=>cases (hitsM (a,b,e,d)).1<;>cases (hitsM (a,b,e,d)).2<;>rfl
 | false=>
  cases h1:decide ((sortOfM c).1=1) with
  |true=>
   have hc:=sort_one (of_decide_eq_true h1)
   have g:∀o,growOk (c,o)=true:=fun o=>decide_eq_true hc
   simp only[g,cond_true,cond_false]
   cases (hitsM (a,b,e,d)).1<;>rfl
  |false=>cases decide ((sortOfM c).1=2)<;>cases decide ((sortOfM c).1=3)<;>rfl
def rGrownM:Int×Bool→Int:=fun (c,o)=>bif o then nth 0 [0,3,5,7,11,17,19,25,10] c.toNat else nth 0 [0,2,4,6,8,12,18,20,9] c.toNat
def rpt (l:List Int) (i:Nat):Bool:=rOrdM (nth 0 l i)&&pointsM (nth 0 l i,i)
def rsome (l:List Int):Bool:=rpt l 0||(rpt l 1||(rpt l 2||rpt l 3))
def rall (l:List Int):Bool:=(!rpt l 0||rExcM (nth 0 l 0))&&((!rpt l 1||rExcM (nth 0 l 1))&&((!rpt l 2||rExcM (nth 0 l 2))&&(!rpt l 3||rExcM (nth 0 l 3))))
def rjend (c:Int) (u:Bool):Int:=bif u then (bif rCrossM c then 26 else IntKind.wrap .i64 (IntKind.wrap .i64 (25+IntKind.wrap .i64 (Int.tmod (IntKind.wrap .i64 (c-25)) 2*2))+1))
 else (bif rCrossM c then 25 else IntKind.wrap .i64 (IntKind.wrap .i64 (25+IntKind.wrap .i64 (Int.tmod (IntKind.wrap .i64 (c-25)) 2*2))+0))
def joinedM:Int×List Int×Bool→Int:=fun (c,l,x)=>
 bif struckM (l,false, -1) then 0 else bif x&&(decide (rAcrossM (l,0)≥0)&&decide (rAcrossM (l,1)≥0)) then
  (bif rExcM (nth 0 l (rAcrossM (l,0)).toNat) then (bif rExcM (nth 0 l (rAcrossM (l,1)).toNat) then 31 else 29) else (bif rExcM (nth 0 l (rAcrossM (l,1)).toNat) then 30 else 25)) else rjend c (rsome l&&rall l)
def checkOk:Int×List Six→Bool:=fun (k,_)=>decide (k=0∨k=1)
def checkM:Int×List Six→Int:=fun _=>0
def checkFu:Int×List Six→Nat:=fun _=>1
theorem check_ret (z:Int×List Six) (h:checkOk z=true):Ret check_re check_R (check_run (checkFu z) z) (checkM z):=by
 obtain ⟨k,cs⟩:=z
 simp only[checkOk,decide_eq_true_eq] at h
 refine Ret.of ((check_arg ..).trans ((check_eq ..).trans ?_)) (Ret.int _ _)
 rcases h with rfl|rfl<;>simp[checkM]
noncomputable def tbSEL_1:=addC 61 (tspec next29_sh next29_K next29_re next29_R (fun _=>true) next29M) tbSE
theorem tabSEL_1:Tab Tryd.prog tbSEL_1 cxMd tbKSE:=Tab.addTy (os:=[]) tabSE tabSE (KK:=next29_K) (R:=next29_R) (fn:=Tryd.f61) (by kernel_rfl) (by kernel_rfl) (by kernel_rfl) (by kernel_rfl) _ next29Fu next29_ret
noncomputable def tbSEL_2:=addC 49 (tspec check_sh check_K check_re check_R checkOk checkM) tbSEL_1
theorem tabSEL_2:Tab Tryd.prog tbSEL_2 cxMd tbKSE:=Tab.addTy (os:=[]) tabSEL_1 tabSE (KK:=check_K) (R:=check_R) (fn:=Tryd.f49) (by kernel_rfl) (by kernel_rfl) (by kernel_rfl) (by kernel_rfl) _ checkFu check_ret
noncomputable def tbSEB:=tbSEL_2
noncomputable def tbKSEB:KT:=tbKSE
theorem tabSEB:Tab Tryd.prog tbSEB cxMd tbKSEB:=tabSEL_2
end Go.Proofs.YtiglikocfjhkcaaDoor
