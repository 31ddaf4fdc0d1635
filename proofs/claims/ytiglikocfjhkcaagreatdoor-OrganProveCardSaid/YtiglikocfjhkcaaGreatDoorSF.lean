/- The document's cells of the wires' spaces. -/
import Derived.Test.YtiglikocfjhkcaaGreatDoorSE
import Derived.Test.YtiglikocfjhkcaaGreatDoorProg
import Derived.KernelRfl
set_option linter.all false
set_option linter.unusedVariables false
set_option linter.unusedSimpArgs false
open Go Go.Abs Go.Proofs
namespace Go.Proofs.YtiglikocfjhkcaaGreatDoor
noncomputable def tbSF_1:=addC 88 (inl Tryz.prog tbSEB cxMd tbKSEB Tryz.f88) tbSEB
noncomputable def tbKSF_1:KT:=addK 88 (inlK Tryz.prog tbSEB cxMd tbKSEB Tryz.f88) tbKSEB
theorem tabSF_1:Tab Tryz.prog tbSF_1 cxMd tbKSF_1:=Tab.addInl tabSEB tabSEB (fn:=Tryz.f88) (by kernel_rfl) (by kernel_rfl) (by kernel_rfl)
noncomputable def tbSF_2:=addC 90 (inl Tryz.prog tbSF_1 cxMd tbKSF_1 Tryz.f90) tbSF_1
noncomputable def tbKSF_2:KT:=addK 90 (inlK Tryz.prog tbSF_1 cxMd tbKSF_1 Tryz.f90) tbKSF_1
theorem tabSF_2:Tab Tryz.prog tbSF_2 cxMd tbKSF_2:=Tab.addInl tabSF_1 tabSF_1 (fn:=Tryz.f90) (by kernel_rfl) (by kernel_rfl) (by kernel_rfl)
noncomputable def tbSF_3:=addC 77 (inl Tryz.prog tbSF_2 cxMd tbKSF_2 Tryz.f77) tbSF_2
noncomputable def tbKSF_3:KT:=addK 77 (inlK Tryz.prog tbSF_2 cxMd tbKSF_2 Tryz.f77) tbKSF_2
theorem tabSF_3:Tab Tryz.prog tbSF_3 cxMd tbKSF_3:=Tab.addInl tabSF_2 tabSF_2 (fn:=Tryz.f77) (by kernel_rfl) (by kernel_rfl) (by kernel_rfl)
noncomputable def tbSF:=tbSF_3
noncomputable def tbKSF:KT:=tbKSF_3
theorem tabSF:Tab Tryz.prog tbSF cxMd tbKSF:=tabSF_3
noncomputable def cx_isState (F:Nat):Cx:={P:=Tryz.prog,C:=tbSF,K:=tbKSF,mode:=cxMd,fuel:=F,live:=liveTab [],pin:=0,nx:=true}
noncomputable def cx_rState (F:Nat):Cx:={P:=Tryz.prog,C:=tbSF,K:=tbKSF,mode:=cxMd,fuel:=F,live:=liveTab [],pin:=0,nx:=true}
noncomputable def cx_rStatesN (F:Nat):Cx:={P:=Tryz.prog,C:=tbSF,K:=tbKSF,mode:=cxMd,fuel:=F,live:=liveTab [],pin:=0,nx:=true}
noncomputable def cx_wires (F:Nat):Cx:={P:=Tryz.prog,C:=tbSF,K:=tbKSF,mode:=cxMd,fuel:=F,live:=liveTab [],pin:=0,nx:=true}
def isState_K:CK:=CK.pair KI KI
def isState_sh:List (Option Nat):=[none,none]
def isState_R:CK:=CK.bool
def isState_re:List (Option Nat):=[none]
theorem isState_eq (F:Nat) (a0 a1:Int):runF (cx_isState F) Tryz.f76 [AV.int .i64 a0,AV.int .i64 a1] []=bif decide (a0=0) then bif decide (a1≥0) then {ok:=true,val:=AV.bool (decide (a1<29))} else {ok:=true,val:=AV.bool false} else bif decide (a0=1) then bif decide (a1≥0) then {ok:=true,val:=AV.bool (decide (a1<32))} else {ok:=true,val:=AV.bool false} else bif decide (a0=3) then bif decide (a1≥0) then {ok:=true,val:=AV.bool (decide (a1<256))} else {ok:=true,val:=AV.bool false} else BR:=by kernel_rfl
noncomputable def isState_run (F:Nat) (x:CT isState_K):Res:=runF (cx_isState F) Tryz.f76 (groupA isState_sh (enc isState_K x)) []
theorem isState_arg (F:Nat) (a0 a1:Int):isState_run F (a0,a1)=runF (cx_isState F) Tryz.f76 [AV.int .i64 a0,AV.int .i64 a1] []:=by kernel_rfl
def rState_K:CK:=CK.pair KI KI
def rState_sh:List (Option Nat):=[none,none]
def rState_R:CK:=CK.int .i64
def rState_re:List (Option Nat):=[none]
theorem rState_eq (F:Nat) (a0 a1:Int):runF (cx_rState F) Tryz.f81 [AV.int .i64 a0,AV.int .i64 a1] []=bif decide (a1<0) then {ok:=true,val:=AV.int .i64 0} else bif decide (a1≥a0) then {ok:=true,val:=AV.int .i64 0} else {ok:=true,val:=AV.int .i64 a1}:=by kernel_rfl
noncomputable def rState_run (F:Nat) (x:CT rState_K):Res:=runF (cx_rState F) Tryz.f81 (groupA rState_sh (enc rState_K x)) []
theorem rState_arg (F:Nat) (a0 a1:Int):rState_run F (a0,a1)=runF (cx_rState F) Tryz.f81 [AV.int .i64 a0,AV.int .i64 a1] []:=by kernel_rfl
def rStatesN_K:CK:=CK.pair KI (CK.slice 134 (CK.pair KI (CK.pair KI (CK.pair KI (CK.pair KI (CK.pair KI KI))))))
def rStatesN_sh:List (Option Nat):=[some 2]
def rStatesN_R:CK:=CK.int .i64
def rStatesN_re:List (Option Nat):=[none]
theorem rStatesN_eq (F:Nat) (a0_0:Int) (a0_1:List (Int×Int×Int×Int×Int×Int)):runF (cx_rStatesN F) Tryz.f80 [AV.agg [AV.int .i64 a0_0,AV.ro (CK.pair KI (CK.pair KI (CK.pair KI (CK.pair KI (CK.pair KI KI))))) a0_1]] []=bif rCheckOk (a0_0,a0_1) then bif rCheckM (a0_0,a0_1) !=0 then {ok:=true,val:=AV.int .i64 0} else bif decide (a0_0=0) then {ok:=true,val:=AV.int .i64 29} else bif decide (a0_0=1) then {ok:=true,val:=AV.int .i64 32} else bif decide (a0_0=2) then {ok:=true,val:=AV.int .i64 8388608} else {ok:=true,val:=AV.int .i64 256} else BR:=by kernel_rfl
noncomputable def rStatesN_run (F:Nat) (x:CT rStatesN_K):Res:=runF (cx_rStatesN F) Tryz.f80 (groupA rStatesN_sh (enc rStatesN_K x)) []
theorem rStatesN_arg (F:Nat) (a0_0:Int) (a0_1:List (Int×Int×Int×Int×Int×Int)):rStatesN_run F (a0_0,a0_1)=runF (cx_rStatesN F) Tryz.f80 [AV.agg [AV.int .i64 a0_0,AV.ro (CK.pair KI (CK.pair KI (CK.pair KI (CK.pair KI (CK.pair KI KI))))) a0_1]] []:=by kernel_rfl
def wires_K:CK:=CK.pair KI (CK.pair KL CK.bool)
def wires_sh:List (Option Nat):=[none,none,none]
def wires_R:CK:=CK.int .i64
def wires_re:List (Option Nat):=[none]
theorem wires_eq (F:Nat) (a0:Int) (a1:List Int) (a2:Bool):runF (cx_wires F) Tryz.f84 [AV.int .i64 a0,AV.ro KI a1,AV.bool a2] []=bif decide (a0=0) then bif struckOk (a1,true, -1) then bif struckM (a1,true, -1) then {ok:=true,val:=AV.int .i64 1} else bif struckOk (a1,false, -1) then bif struckM (a1,false, -1) then {ok:=true,val:=AV.int .i64 1} else {ok:=true,val:=AV.int .i64 0} else BR else BR else bif decide (a0<9) then bif struckOk (a1,true, -1) then bif struckM (a1,true, -1) then bif rGrownOk (a0,true) then {ok:=true,val:=AV.int .i64 (rGrownM (a0,true))} else BR else bif struckOk (a1,false, -1) then bif rGrownOk (a0,struckM (a1,false, -1)) then {ok:=true,val:=AV.int .i64 (rGrownM (a0,struckM (a1,false, -1)))} else BR else BR else BR else bif rOrdM a0 then bif struckOk (a1,false, -1) then bif struckM (a1,false, -1) then {ok:=true,val:=AV.int .i64 0} else bif struckOk (a1,true,headingM a0) then bif struckM (a1,true,headingM a0) then {ok:=true,val:=AV.int .i64 (IntKind.wrap .i64 (13+headingM a0))} else bif fedOk (a1,headingM a0,true) then bif fedM (a1,headingM a0,true) then {ok:=true,val:=AV.int .i64 (IntKind.wrap .i64 (13+headingM a0))} else {ok:=true,val:=AV.int .i64 (IntKind.wrap .i64 (9+headingM a0))} else BR else BR else BR else bif rSpecM a0 then bif struckOk (a1,true, -1) then bif struckM (a1,true, -1) then {ok:=true,val:=AV.int .i64 0} else bif struckOk (a1,false,headingM a0) then bif struckM (a1,false,headingM a0) then {ok:=true,val:=AV.int .i64 (IntKind.wrap .i64 (21+headingM a0))} else bif fedOk (a1,headingM a0,false) then bif fedM (a1,headingM a0,false) then {ok:=true,val:=AV.int .i64 (IntKind.wrap .i64 (21+headingM a0))} else {ok:=true,val:=AV.int .i64 (IntKind.wrap .i64 (17+headingM a0))} else BR else BR else BR else bif joinedOk (a0,a1,a2) then {ok:=true,val:=AV.int .i64 (joinedM (a0,a1,a2))} else BR:=by kernel_rfl
noncomputable def wires_run (F:Nat) (x:CT wires_K):Res:=runF (cx_wires F) Tryz.f84 (groupA wires_sh (enc wires_K x)) []
theorem wires_arg (F:Nat) (a0:Int) (a1:List Int) (a2:Bool):wires_run F (a0,a1,a2)=runF (cx_wires F) Tryz.f84 [AV.int .i64 a0,AV.ro KI a1,AV.bool a2] []:=by kernel_rfl
def wiresOk:Int×List Int×Bool→Bool:=fun (c,l,_)=>decide (l.length=4∧0≤c)
def wiresM:Int×List Int×Bool→Int:=fun (c,l,x)=>
 bif decide (c=0) then (bif struckM (l,true, -1)||struckM (l,false, -1) then 1 else 0)
 else bif decide (c<9) then rGrownM (c,struckM (l,true, -1)||struckM (l,false, -1))
 else bif rOrdM c then (bif struckM (l,false, -1) then 0 else bif struckM (l,true,headingM c)||fedM (l,headingM c,true) then IntKind.wrap .i64 (13+headingM c) else IntKind.wrap .i64 (9+headingM c))
 else bif rSpecM c then (bif struckM (l,true, -1) then 0 else bif struckM (l,false,headingM c)||fedM (l,headingM c,false) then IntKind.wrap .i64 (21+headingM c) else IntKind.wrap .i64 (17+headingM c))
 else joinedM (c,l,x)
def wiresFu:Int×List Int×Bool→Nat:=fun _=>1
theorem wires_ret (z:Int×List Int×Bool) (h:wiresOk z=true):Ret wires_re wires_R (wires_run (wiresFu z) z) (wiresM z):=by
 obtain ⟨c,l,x⟩:=z
 obtain ⟨hl,hc⟩:l.length=4∧0≤c:=of_decide_eq_true h
 refine Ret.of (r':=I (wiresM (c,l,x))) ((wires_arg ..).trans ((wires_eq ..).trans ?_)) (Ret.int _ _)
 have o1:∀o but,struckOk (l,o,but)=true:=fun _ _=>decide_eq_true hl
 have o2:∀o but,fedOk (l,but,o)=true:=fun _ _=>decide_eq_true hl
 have o3:joinedOk (c,l,x)=true:=decide_eq_true hl
 simp only[o1,o2,o3,cond_true,wiresM]
 cases decide (c=0) with
 |true=>cases struckM (l,true, -1)<;>cases struckM (l,false, -1)<;>rfl
 | false=>
  cases h9:decide (c<9) with
  |true=>
   have g:∀o,rGrownOk (c,o)=true:=fun _=>decide_eq_true ⟨hc,of_decide_eq_true h9⟩
   simp only[g,cond_true,cond_false]
   cases struckM (l,true, -1)<;>rfl
  | false=>
   cases rOrdM c with
   |true=>cases struckM (l,false, -1)<;>cases struckM (l,true,headingM c)<;>cases fedM (l,headingM c,true)<;>rfl
   |false=>
    cases rSpecM c with
    |true=>cases struckM (l,true, -1)<;>cases struckM (l,false,headingM c)<;>cases fedM (l,headingM c,false)<;>rfl
    |false=>rfl
def isStateOk:Int×Int→Bool:=fun (k,_)=>decide (k=0∨k=1)
def isStateM:Int×Int→Bool:=fun (k,s)=>decide (0≤s)&&decide (s<bif decide (k=0) then 29 else 32)
def isStateFu:Int×Int→Nat:=fun _=>1
theorem isState_ret (z:Int×Int) (h:isStateOk z=true):Ret isState_re isState_R (isState_run (isStateFu z) z) (isStateM z):=by
 obtain ⟨k,s⟩:=z
 have hk:k=0∨k=1:=of_decide_eq_true h
 refine Ret.of ((isState_arg ..).trans ((isState_eq ..).trans ?_)) (Ret.bool _)
 rcases hk with rfl|rfl
 ·by_cases h:0≤s<;>simp[isStateM,h]
 ·by_cases h:0≤s<;>simp[isStateM,h]
def rStateM:Int×Int→Int:=fun (n,s)=>bif decide (s<0) then 0 else bif decide (s≥n) then 0 else s
def rStateFu:Int×Int→Nat:=fun _=>1
theorem rState_ret (z:Int×Int) (_:true=true):Ret rState_re rState_R (rState_run (rStateFu z) z) (rStateM z):=by
 obtain ⟨n,s⟩:=z
 refine Ret.of (r':=I (rStateM (n,s))) ((rState_arg ..).trans ((rState_eq ..).trans ?_)) (Ret.int _ _)
 simp only[rStateM]
 cases decide (s<0)<;>cases decide (s≥n)<;>rfl
def rStatesNOk:Int×List Six→Bool:=fun (k,_)=>decide (k=0∨k=1)
def rStatesNM:Int×List Six→Int:=fun (k,_)=>bif decide (k=0) then 29 else 32
def rStatesNFu:Int×List Six→Nat:=fun _=>1
theorem rStatesN_ret (z:Int×List Six) (h:rStatesNOk z=true):Ret rStatesN_re rStatesN_R (rStatesN_run (rStatesNFu z) z) (rStatesNM z):=by
 obtain ⟨k,cs⟩:=z
 have h':rCheckOk (k,cs)=true:=h
 have hk:k=0∨k=1:=of_decide_eq_true h
 refine Ret.of (r':=I (rStatesNM (k,cs))) ((rStatesN_arg ..).trans ((rStatesN_eq ..).trans ?_)) (Ret.int _ _)
 rw[h']
 rcases hk with rfl|rfl<;>rfl
noncomputable def tbSFL_1:=addC 76 (tspec isState_sh isState_K isState_re isState_R isStateOk isStateM) tbSF
theorem tabSFL_1:Tab Tryz.prog tbSFL_1 cxMd tbKSF:=Tab.addTy (os:=[]) tabSF tabSF (KK:=isState_K) (R:=isState_R) (fn:=Tryz.f76) (by kernel_rfl) (by kernel_rfl) (by kernel_rfl) (by kernel_rfl) _ isStateFu isState_ret
noncomputable def tbSFL_2:=addC 81 (tspec rState_sh rState_K rState_re rState_R (fun _=>true) rStateM) tbSFL_1
theorem tabSFL_2:Tab Tryz.prog tbSFL_2 cxMd tbKSF:=Tab.addTy (os:=[]) tabSFL_1 tabSF (KK:=rState_K) (R:=rState_R) (fn:=Tryz.f81) (by kernel_rfl) (by kernel_rfl) (by kernel_rfl) (by kernel_rfl) _ rStateFu rState_ret
noncomputable def tbSFL_3:=addC 80 (tspec rStatesN_sh rStatesN_K rStatesN_re rStatesN_R rStatesNOk rStatesNM) tbSFL_2
theorem tabSFL_3:Tab Tryz.prog tbSFL_3 cxMd tbKSF:=Tab.addTy (os:=[]) tabSFL_2 tabSF (KK:=rStatesN_K) (R:=rStatesN_R) (fn:=Tryz.f80) (by kernel_rfl) (by kernel_rfl) (by kernel_rfl) (by kernel_rfl) _ rStatesNFu rStatesN_ret
noncomputable def tbSFL_4:=addC 84 (tspec wires_sh wires_K wires_re wires_R wiresOk wiresM) tbSFL_3
theorem tabSFL_4:Tab Tryz.prog tbSFL_4 cxMd tbKSF:=Tab.addTy (os:=[]) tabSFL_3 tabSF (KK:=wires_K) (R:=wires_R) (fn:=Tryz.f84) (by kernel_rfl) (by kernel_rfl) (by kernel_rfl) (by kernel_rfl) _ wiresFu wires_ret
noncomputable def tbSFB:=tbSFL_4
noncomputable def tbKSFB:KT:=tbKSF
theorem tabSFB:Tab Tryz.prog tbSFB cxMd tbKSFB:=tabSFL_4
end Go.Proofs.YtiglikocfjhkcaaGreatDoor
