/- The document's cells of the wires' spaces. -/
import Derived.Test.YtiglikocfjhkcaaDoorSE
import Derived.Test.YtiglikocfjhkcaaDoorProg
import Derived.KernelRfl
set_option linter.all false
set_option linter.unusedVariables false
set_option linter.unusedSimpArgs false
open Go Go.Abs Go.Proofs
namespace Go.Proofs.YtiglikocfjhkcaaDoor
noncomputable def tbSF_1:=addC 60 (inl Tryd.prog tbSEB cxMd tbKSEB Tryd.f60) tbSEB
noncomputable def tbKSF_1:KT:=addK 60 (inlK Tryd.prog tbSEB cxMd tbKSEB Tryd.f60) tbKSEB
theorem tabSF_1:Tab Tryd.prog tbSF_1 cxMd tbKSF_1:=Tab.addInl tabSEB tabSEB (fn:=Tryd.f60) (by kernel_rfl) (by kernel_rfl) (by kernel_rfl)
noncomputable def tbSF_2:=addC 62 (inl Tryd.prog tbSF_1 cxMd tbKSF_1 Tryd.f62) tbSF_1
noncomputable def tbKSF_2:KT:=addK 62 (inlK Tryd.prog tbSF_1 cxMd tbKSF_1 Tryd.f62) tbKSF_1
theorem tabSF_2:Tab Tryd.prog tbSF_2 cxMd tbKSF_2:=Tab.addInl tabSF_1 tabSF_1 (fn:=Tryd.f62) (by kernel_rfl) (by kernel_rfl) (by kernel_rfl)
noncomputable def tbSF_3:=addC 54 (inl Tryd.prog tbSF_2 cxMd tbKSF_2 Tryd.f54) tbSF_2
noncomputable def tbKSF_3:KT:=addK 54 (inlK Tryd.prog tbSF_2 cxMd tbKSF_2 Tryd.f54) tbKSF_2
theorem tabSF_3:Tab Tryd.prog tbSF_3 cxMd tbKSF_3:=Tab.addInl tabSF_2 tabSF_2 (fn:=Tryd.f54) (by kernel_rfl) (by kernel_rfl) (by kernel_rfl)
noncomputable def tbSF:=tbSF_3
noncomputable def tbKSF:KT:=tbKSF_3
theorem tabSF:Tab Tryd.prog tbSF cxMd tbKSF:=tabSF_3
noncomputable def cx_isState (F:Nat):Cx:={P:=Tryd.prog,C:=tbSF,K:=tbKSF,mode:=cxMd,fuel:=F,live:=liveTab [],pin:=0,nx:=true}
def isState_K:CK:=CK.pair KI KI
def isState_sh:List (Option Nat):=[none,none]
def isState_R:CK:=CK.bool
def isState_re:List (Option Nat):=[none]
theorem isState_eq (F:Nat) (a0 a1:Int):runF (cx_isState F) Tryd.f53 [AV.int .i64 a0,AV.int .i64 a1] []=bif decide (a0=0) then bif decide (a1≥0) then {ok:=true,val:=AV.bool (decide (a1<29))} else {ok:=true,val:=AV.bool false} else bif decide (a0=1) then bif decide (a1≥0) then {ok:=true,val:=AV.bool (decide (a1<32))} else {ok:=true,val:=AV.bool false} else bif decide (a0=3) then bif decide (a1≥0) then {ok:=true,val:=AV.bool (decide (a1<256))} else {ok:=true,val:=AV.bool false} else BR:=by kernel_rfl
noncomputable def isState_run (F:Nat) (x:CT isState_K):Res:=runF (cx_isState F) Tryd.f53 (groupA isState_sh (enc isState_K x)) []
theorem isState_arg (F:Nat) (a0 a1:Int):isState_run F (a0,a1)=runF (cx_isState F) Tryd.f53 [AV.int .i64 a0,AV.int .i64 a1] []:=by kernel_rfl
def wiresM:Int×List Int×Bool→Int:=fun (c,l,x)=>
 bif decide (c=0) then (bif struckM (l,true, -1)||struckM (l,false, -1) then 1 else 0)
 else bif decide (c<9) then rGrownM (c,struckM (l,true, -1)||struckM (l,false, -1))
 else bif rOrdM c then (bif struckM (l,false, -1) then 0 else bif struckM (l,true,headingM c)||fedM (l,headingM c,true) then IntKind.wrap .i64 (13+headingM c) else IntKind.wrap .i64 (9+headingM c))
 else bif rSpecM c then (bif struckM (l,true, -1) then 0 else bif struckM (l,false,headingM c)||fedM (l,headingM c,false) then IntKind.wrap .i64 (21+headingM c) else IntKind.wrap .i64 (17+headingM c))
 else joinedM (c,l,x)
def isStateOk:Int×Int→Bool:=fun (k,_)=>decide (k=0∨k=1)
def isStateM:Int×Int→Bool:=fun (k,s)=>decide (0≤s)&&decide (s<bif decide (k=0) then 29 else 32)
def isStateFu:Int×Int→Nat:=fun _=>1
theorem isState_ret (z:Int×Int) (h:isStateOk z=true):Ret isState_re isState_R (isState_run (isStateFu z) z) (isStateM z):=by
 obtain ⟨k,s⟩:=z
 have hk:k=0∨k=1:=of_decide_eq_true h
 refine Ret.of ((isState_arg ..).trans ((isState_eq ..).trans ?_)) (Ret.bool _)
 rcases hk with rfl|rfl
 ·by_cases h:0≤s<;>simp[isStateM,h]
 ·by_cases h:0≤s<;>simp[isStateM,h]
def rStateM:Int×Int→Int:=fun (n,s)=>bif decide (s<0) then 0 else bif decide (s≥n) then 0 else s
noncomputable def tbSFL_1:=addC 53 (tspec isState_sh isState_K isState_re isState_R isStateOk isStateM) tbSF
theorem tabSFL_1:Tab Tryd.prog tbSFL_1 cxMd tbKSF:=Tab.addTy (os:=[]) tabSF tabSF (KK:=isState_K) (R:=isState_R) (fn:=Tryd.f53) (by kernel_rfl) (by kernel_rfl) (by kernel_rfl) (by kernel_rfl) _ isStateFu isState_ret
noncomputable def tbSFB:=tbSFL_1
noncomputable def tbKSFB:KT:=tbKSF
theorem tabSFB:Tab Tryd.prog tbSFB cxMd tbKSFB:=tabSFL_1
end Go.Proofs.YtiglikocfjhkcaaDoor
