/- Who hits whom. -/
import Derived.Test.YtiglikocfjhkcaaDoorSA
import Derived.Test.YtiglikocfjhkcaaDoorProg
import Derived.KernelRfl
set_option linter.all false
set_option linter.unusedVariables false
set_option linter.unusedSimpArgs false
open Go Go.Abs Go.Proofs
namespace Go.Proofs.YtiglikocfjhkcaaDoor
noncomputable def tbSB_1:=addC 83 (inl Tryd.prog tbSAB cxMd tbKSAB Tryd.f83) tbSAB
noncomputable def tbKSB_1:KT:=addK 83 (inlK Tryd.prog tbSAB cxMd tbKSAB Tryd.f83) tbKSAB
theorem tabSB_1:Tab Tryd.prog tbSB_1 cxMd tbKSB_1:=Tab.addInl tabSAB tabSAB (fn:=Tryd.f83) (by kernel_rfl) (by kernel_rfl) (by kernel_rfl)
noncomputable def tbSB_2:=addC 95 (inl Tryd.prog tbSB_1 cxMd tbKSB_1 Tryd.f95) tbSB_1
noncomputable def tbKSB_2:KT:=addK 95 (inlK Tryd.prog tbSB_1 cxMd tbKSB_1 Tryd.f95) tbKSB_1
theorem tabSB_2:Tab Tryd.prog tbSB_2 cxMd tbKSB_2:=Tab.addInl tabSB_1 tabSB_1 (fn:=Tryd.f95) (by kernel_rfl) (by kernel_rfl) (by kernel_rfl)
noncomputable def tbSB:=tbSB_2
noncomputable def tbKSB:KT:=tbKSB_2
theorem tabSB:Tab Tryd.prog tbSB cxMd tbKSB:=tabSB_2
noncomputable def cx_cIsOrd (F:Nat):Cx:={P:=Tryd.prog,C:=tbSB,K:=tbKSB,mode:=cxMd,fuel:=F,live:=liveTab [],pin:=0,nx:=true}
noncomputable def cx_hitBy (F:Nat):Cx:={P:=Tryd.prog,C:=tbSB,K:=tbKSB,mode:=cxMd,fuel:=F,live:=liveTab [],pin:=0,nx:=true}
noncomputable def cx_lit (F:Nat):Cx:={P:=Tryd.prog,C:=tbSB,K:=tbKSB,mode:=cxMd,fuel:=F,live:=liveTab [],pin:=0,nx:=true}
noncomputable def cx_heading (F:Nat):Cx:={P:=Tryd.prog,C:=tbSB,K:=tbKSB,mode:=cxMd,fuel:=F,live:=liveTab [],pin:=0,nx:=true}
noncomputable def cx_rExc (F:Nat):Cx:={P:=Tryd.prog,C:=tbSB,K:=tbKSB,mode:=cxMd,fuel:=F,live:=liveTab [],pin:=0,nx:=true}
def cIsOrd_K:CK:=CK.int .i64
def cIsOrd_sh:List (Option Nat):=[none]
def cIsOrd_R:CK:=CK.pair KI (CK.pair CK.bool CK.bool)
def cIsOrd_re:List (Option Nat):=[none,none,none]
theorem cIsOrd_eq (F:Nat) (a0:Int):runF (cx_cIsOrd F) Tryd.f43 [AV.int .i64 a0] []=bif (sortOfM a0).1 !=2 then {ok:=true,val:=AV.tup [AV.int .i64 0,AV.bool false,AV.bool false]} else {ok:=true,val:=AV.tup [AV.int .i64 (sortOfM a0).2.1,AV.bool (sortOfM a0).2.2,AV.bool true]}:=by kernel_rfl
noncomputable def cIsOrd_run (F:Nat) (x:CT cIsOrd_K):Res:=runF (cx_cIsOrd F) Tryd.f43 (groupA cIsOrd_sh (enc cIsOrd_K x)) []
theorem cIsOrd_arg (F:Nat) (a0:Int):cIsOrd_run F (a0)=runF (cx_cIsOrd F) Tryd.f43 [AV.int .i64 a0] []:=by kernel_rfl
def hitBy_K:CK:=CK.pair KI KI
def hitBy_sh:List (Option Nat):=[none,none]
def hitBy_R:CK:=CK.pair CK.bool CK.bool
def hitBy_re:List (Option Nat):=[none,none]
theorem hitBy_eq (F:Nat) (a0 a1:Int):runF (cx_hitBy F) Tryd.f80 [AV.int .i64 a0,AV.int .i64 a1] []=bif (sortOfM a0).2.2 then bif decide ((sortOfM a0).2.1=Int.tmod (IntKind.wrap .i64 (a1+2)) 4) then bif decide ((sortOfM a0).2.1=Int.tmod (IntKind.wrap .i64 (a1+2)) 4) then {ok:=true,val:=AV.tup [AV.bool (decide ((sortOfM a0).1=2)),AV.bool (decide ((sortOfM a0).1=3))]} else {ok:=true,val:=AV.tup [AV.bool (decide ((sortOfM a0).1=2)),AV.bool false]} else bif decide ((sortOfM a0).2.1=Int.tmod (IntKind.wrap .i64 (a1+2)) 4) then {ok:=true,val:=AV.tup [AV.bool false,AV.bool (decide ((sortOfM a0).1=3))]} else {ok:=true,val:=AV.tup [AV.bool false,AV.bool false]} else {ok:=true,val:=AV.tup [AV.bool false,AV.bool false]}:=by kernel_rfl
noncomputable def hitBy_run (F:Nat) (x:CT hitBy_K):Res:=runF (cx_hitBy F) Tryd.f80 (groupA hitBy_sh (enc hitBy_K x)) []
theorem hitBy_arg (F:Nat) (a0 a1:Int):hitBy_run F (a0,a1)=runF (cx_hitBy F) Tryd.f80 [AV.int .i64 a0,AV.int .i64 a1] []:=by kernel_rfl
def lit_K:CK:=CK.pair KI (CK.pair KI CK.bool)
def lit_sh:List (Option Nat):=[none,none,none]
def lit_R:CK:=CK.bool
def lit_re:List (Option Nat):=[none]
theorem lit_eq (F:Nat) (a0 a1:Int) (a2:Bool):runF (cx_lit F) Tryd.f81 [AV.int .i64 a0,AV.int .i64 a1,AV.bool a2] []=bif decide ((sortOfM a0).1=5) then bif !a2 then {ok:=true,val:=AV.bool false} else bif decide (a0=31) then {ok:=true,val:=AV.bool true} else {ok:=true,val:=AV.bool (decide (a0=IntKind.wrap .i64 (29+Int.tmod a1 2)))} else bif decide ((sortOfM a0).1=4) then {ok:=true,val:=AV.bool (sortOfM a0).2.2} else {ok:=true,val:=AV.bool false}:=by kernel_rfl
noncomputable def lit_run (F:Nat) (x:CT lit_K):Res:=runF (cx_lit F) Tryd.f81 (groupA lit_sh (enc lit_K x)) []
theorem lit_arg (F:Nat) (a0 a1:Int) (a2:Bool):lit_run F (a0,a1,a2)=runF (cx_lit F) Tryd.f81 [AV.int .i64 a0,AV.int .i64 a1,AV.bool a2] []:=by kernel_rfl
def heading_K:CK:=CK.int .i64
def heading_sh:List (Option Nat):=[none]
def heading_R:CK:=CK.int .i64
def heading_re:List (Option Nat):=[none]
theorem heading_eq (F:Nat) (a0:Int):runF (cx_heading F) Tryd.f56 [AV.int .i64 a0] []=bif rSpecM a0 then {ok:=true,val:=AV.int .i64 (Int.tmod (IntKind.wrap .i64 (a0-17)) 4)} else {ok:=true,val:=AV.int .i64 (Int.tmod (IntKind.wrap .i64 (a0-9)) 4)}:=by kernel_rfl
noncomputable def heading_run (F:Nat) (x:CT heading_K):Res:=runF (cx_heading F) Tryd.f56 (groupA heading_sh (enc heading_K x)) []
theorem heading_arg (F:Nat) (a0:Int):heading_run F (a0)=runF (cx_heading F) Tryd.f56 [AV.int .i64 a0] []:=by kernel_rfl
def rExc_K:CK:=CK.int .i64
def rExc_sh:List (Option Nat):=[none]
def rExc_R:CK:=CK.bool
def rExc_re:List (Option Nat):=[none]
theorem rExc_eq (F:Nat) (a0:Int):runF (cx_rExc F) Tryd.f57 [AV.int .i64 a0] []=bif rOrdM a0 then bif decide (a0≥13) then {ok:=true,val:=AV.bool true} else bif rSpecM a0 then {ok:=true,val:=AV.bool (decide (a0≥21))} else {ok:=true,val:=AV.bool false} else bif rSpecM a0 then {ok:=true,val:=AV.bool (decide (a0≥21))} else {ok:=true,val:=AV.bool false}:=by kernel_rfl
noncomputable def rExc_run (F:Nat) (x:CT rExc_K):Res:=runF (cx_rExc F) Tryd.f57 (groupA rExc_sh (enc rExc_K x)) []
theorem rExc_arg (F:Nat) (a0:Int):rExc_run F (a0)=runF (cx_rExc F) Tryd.f57 [AV.int .i64 a0] []:=by kernel_rfl
def cIsOrdM (s:Int):Int×Bool×Bool:=bif (sortOfM s).1 !=2 then (0,false,false) else ((sortOfM s).2.1,(sortOfM s).2.2,true)
def aimed (s d:Int):Bool:=(sortOfM s).2.2&&decide ((sortOfM s).2.1=Int.tmod (IntKind.wrap .i64 (d+2)) 4)
def hitByM:Int×Int→Bool×Bool:=fun (s,d)=>(aimed s d&&decide ((sortOfM s).1=2),aimed s d&&decide ((sortOfM s).1=3))
def litM:Int×Int×Bool→Bool:=fun (s,d,o)=>bif decide ((sortOfM s).1=5) then o&&(decide (s=31)||decide (s=IntKind.wrap .i64 (29+Int.tmod d 2))) else decide ((sortOfM s).1=4)&&(sortOfM s).2.2
def headingM (s:Int):Int:=bif rSpecM s then Int.tmod (IntKind.wrap .i64 (s-17)) 4 else Int.tmod (IntKind.wrap .i64 (s-9)) 4
def rExcM (s:Int):Bool:=rOrdM s&&decide (s≥13)||rSpecM s&&decide (s≥21)
def crossesM:Int×Int→Bool:=fun (s,d)=>bif decide (Int.tmod d 2=0) then decide (s=29)||decide (s=31) else decide (s=30)||decide (s=31)
def cIsOrdFu:Int→Nat:=fun _=>1
def hitByFu:Int×Int→Nat:=fun _=>1
def litFu:Int×Int×Bool→Nat:=fun _=>1
def headingFu:Int→Nat:=fun _=>1
def rExcFu:Int→Nat:=fun _=>1
theorem cIsOrd_ret (s:Int) (_:true=true):Ret cIsOrd_re cIsOrd_R (cIsOrd_run (cIsOrdFu s) s) (cIsOrdM s):=by
 refine Ret.of (r':=⟨true, .tup [.int .i64 (cIsOrdM s).1, .bool (cIsOrdM s).2.1, .bool (cIsOrdM s).2.2],[]⟩) ((cIsOrd_arg ..).trans ((cIsOrd_eq ..).trans ?_)) (Ret.ibb _ _ _ _)
 simp only[cIsOrdM]
 cases (sortOfM s).1 !=2<;>rfl
theorem hitBy_ret (z:Int×Int) (_:true=true):Ret hitBy_re hitBy_R (hitBy_run (hitByFu z) z) (hitByM z):=by
 obtain ⟨s,d⟩:=z
 refine Ret.of (r':=⟨true, .tup [.bool (hitByM (s,d)).1, .bool (hitByM (s,d)).2],[]⟩) ((hitBy_arg ..).trans ((hitBy_eq ..).trans ?_)) (Ret.bb _ _)
 simp only[hitByM,aimed]
 cases (sortOfM s).2.2<;>cases decide ((sortOfM s).2.1=Int.tmod (IntKind.wrap .i64 (d+2)) 4)<;>rfl
theorem lit_ret (z:Int×Int×Bool) (_:true=true):Ret lit_re lit_R (lit_run (litFu z) z) (litM z):=by
 obtain ⟨s,d,o⟩:=z
 refine Ret.of ((lit_arg ..).trans ((lit_eq ..).trans ?_)) (Ret.bool _)
 simp only[litM]
 cases decide ((sortOfM s).1=5)<;>cases o<;>cases decide (s=31)<;>cases decide ((sortOfM s).1=4)<;>rfl
theorem heading_ret (s:Int) (_:true=true):Ret heading_re heading_R (heading_run (headingFu s) s) (headingM s):=by
 refine Ret.of ((heading_arg ..).trans ((heading_eq ..).trans ?_)) (Ret.int _ _)
 simp only[headingM]
 cases rSpecM s<;>rfl
theorem rExc_ret (s:Int) (_:true=true):Ret rExc_re rExc_R (rExc_run (rExcFu s) s) (rExcM s):=by
 refine Ret.of ((rExc_arg ..).trans ((rExc_eq ..).trans ?_)) (Ret.bool _)
 simp only[rExcM]
 cases rOrdM s<;>cases rSpecM s<;>cases decide (s≥13)<;>rfl
noncomputable def tbSBL_1:=addC 43 (tspec cIsOrd_sh cIsOrd_K cIsOrd_re cIsOrd_R (fun _=>true) cIsOrdM) tbSB
theorem tabSBL_1:Tab Tryd.prog tbSBL_1 cxMd tbKSB:=Tab.addTy (os:=[]) tabSB tabSB (KK:=cIsOrd_K) (R:=cIsOrd_R) (fn:=Tryd.f43) (by kernel_rfl) (by kernel_rfl) (by kernel_rfl) (by kernel_rfl) _ cIsOrdFu cIsOrd_ret
noncomputable def tbSBL_2:=addC 80 (tspec hitBy_sh hitBy_K hitBy_re hitBy_R (fun _=>true) hitByM) tbSBL_1
theorem tabSBL_2:Tab Tryd.prog tbSBL_2 cxMd tbKSB:=Tab.addTy (os:=[]) tabSBL_1 tabSB (KK:=hitBy_K) (R:=hitBy_R) (fn:=Tryd.f80) (by kernel_rfl) (by kernel_rfl) (by kernel_rfl) (by kernel_rfl) _ hitByFu hitBy_ret
noncomputable def tbSBL_3:=addC 81 (tspec lit_sh lit_K lit_re lit_R (fun _=>true) litM) tbSBL_2
theorem tabSBL_3:Tab Tryd.prog tbSBL_3 cxMd tbKSB:=Tab.addTy (os:=[]) tabSBL_2 tabSB (KK:=lit_K) (R:=lit_R) (fn:=Tryd.f81) (by kernel_rfl) (by kernel_rfl) (by kernel_rfl) (by kernel_rfl) _ litFu lit_ret
noncomputable def tbSBL_4:=addC 56 (tspec heading_sh heading_K heading_re heading_R (fun _=>true) headingM) tbSBL_3
theorem tabSBL_4:Tab Tryd.prog tbSBL_4 cxMd tbKSB:=Tab.addTy (os:=[]) tabSBL_3 tabSB (KK:=heading_K) (R:=heading_R) (fn:=Tryd.f56) (by kernel_rfl) (by kernel_rfl) (by kernel_rfl) (by kernel_rfl) _ headingFu heading_ret
noncomputable def tbSBL_5:=addC 57 (tspec rExc_sh rExc_K rExc_re rExc_R (fun _=>true) rExcM) tbSBL_4
theorem tabSBL_5:Tab Tryd.prog tbSBL_5 cxMd tbKSB:=Tab.addTy (os:=[]) tabSBL_4 tabSB (KK:=rExc_K) (R:=rExc_R) (fn:=Tryd.f57) (by kernel_rfl) (by kernel_rfl) (by kernel_rfl) (by kernel_rfl) _ rExcFu rExc_ret
noncomputable def tbSBB:=tbSBL_5
noncomputable def tbKSBB:KT:=tbKSB
theorem tabSBB:Tab Tryd.prog tbSBB cxMd tbKSBB:=tabSBL_5
end Go.Proofs.YtiglikocfjhkcaaDoor
