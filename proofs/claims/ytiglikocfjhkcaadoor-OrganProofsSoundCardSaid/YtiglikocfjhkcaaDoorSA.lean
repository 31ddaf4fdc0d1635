/- The sorts of states. -/
import Derived.Test.YtiglikocfjhkcaaDoorA26
import Derived.Test.YtiglikocfjhkcaaDoorA24
import Derived.Test.YtiglikocfjhkcaaDoorProg
import Derived.KernelRfl
set_option linter.all false
set_option linter.unusedVariables false
set_option linter.unusedSimpArgs false
open Go Go.Abs Go.Proofs
namespace Go.Proofs.YtiglikocfjhkcaaDoor
abbrev BR:Res:={ok:=false,val:=AV.junk}
abbrev MoK:CK:=CK.pair (CK.int .i64) (CK.pair (CK.int .i64) (CK.pair (CK.int .i64) CK.bool))
abbrev Mo:=Int×Int×Int×Bool
abbrev KI:CK:=CK.int .i64
abbrev KL:CK:=CK.slice 3 KI
@[reducible] instance globsI:Globs:=⟨[(0,[.str [], .str [48], .str [49], .str [48,48], .str [48,49], .str [49,48], .str [49,49], .str [48,48,48]]),(1,[.str [48,48,48,48], .int .i64 9, .str [48,48,48,49], .int .i64 10, .str [48,48,49], .int .i64 11, .str [48,49,48], .int .i64 12, .str [48,49,49], .int .i64 17, .str [49,48,48], .int .i64 18, .str [49,48,49], .int .i64 19, .str [49,49,48], .int .i64 20, .str [49,49,49], .int .i64 25])]⟩
def cxMd (f:FuncId):List Bool:=bif f==30 then [true,true] else bif f==33 then [true,false,false] else bif f==20 then [true,false,false,false] else []
theorem mixed:Tryd.prog.follows .mixedOrders=true:=by kernel_rfl
theorem tabN:Tab Tryd.prog noC cxMd noK:=Tab.none mixed
noncomputable def tbSA:FuncId→List AV→List Blk→Res:=noC
noncomputable def tbKSA:KT:=noK
theorem tabSA:Tab Tryd.prog tbSA cxMd tbKSA:=tabN
noncomputable def cx_sortOf (F:Nat):Cx:={P:=Tryd.prog,C:=tbSA,K:=tbKSA,mode:=cxMd,fuel:=F,live:=liveTab [],pin:=0,nx:=true}
noncomputable def cx_rOrd (F:Nat):Cx:={P:=Tryd.prog,C:=tbSA,K:=tbKSA,mode:=cxMd,fuel:=F,live:=liveTab [],pin:=0,nx:=true}
noncomputable def cx_rSpec (F:Nat):Cx:={P:=Tryd.prog,C:=tbSA,K:=tbKSA,mode:=cxMd,fuel:=F,live:=liveTab [],pin:=0,nx:=true}
def sortOf_K:CK:=CK.int .i64
def sortOf_sh:List (Option Nat):=[none]
def sortOf_R:CK:=CK.pair KI (CK.pair KI CK.bool)
def sortOf_re:List (Option Nat):=[none,none,none]
noncomputable def sortOf_S1 (a0:Int):Res:=bif decide (a0≥29) then bif decide (a0≤31) then {ok:=true,val:=AV.tup [AV.int .i64 5,AV.int .i64 0,AV.bool false]} else {ok:=true,val:=AV.tup [AV.int .i64 0,AV.int .i64 0,AV.bool false]} else {ok:=true,val:=AV.tup [AV.int .i64 0,AV.int .i64 0,AV.bool false]}
noncomputable def sortOf_S2 (a0:Int):Res:=bif decide (a0≥25) then bif decide (a0<29) then {ok:=true,val:=AV.tup [AV.int .i64 4,AV.int .i64 0,AV.bool (decide (a0≥27))]} else sortOf_S1 a0 else sortOf_S1 a0
noncomputable def sortOf_S3 (a0:Int):Res:=bif decide (a0≥17) then bif decide (a0<25) then {ok:=true,val:=AV.tup [AV.int .i64 3,AV.int .i64 (Int.tmod (IntKind.wrap .i64 (a0-17)) 4),AV.bool (decide (a0≥21))]} else sortOf_S2 a0 else sortOf_S2 a0
noncomputable def sortOf_S4 (a0:Int):Res:=bif decide (a0≥9) then bif decide (a0<17) then {ok:=true,val:=AV.tup [AV.int .i64 2,AV.int .i64 (Int.tmod (IntKind.wrap .i64 (a0-9)) 4),AV.bool (decide (a0≥13))]} else sortOf_S3 a0 else sortOf_S3 a0
theorem sortOf_eq (F:Nat) (a0:Int):runF (cx_sortOf F) Tryd.f50 [AV.int .i64 a0] []=bif decide (a0≥1) then bif decide (a0<9) then {ok:=true,val:=AV.tup [AV.int .i64 1,AV.int .i64 0,AV.bool false]} else sortOf_S4 a0 else sortOf_S4 a0:=by kernel_rfl
noncomputable def sortOf_run (F:Nat) (x:CT sortOf_K):Res:=runF (cx_sortOf F) Tryd.f50 (groupA sortOf_sh (enc sortOf_K x)) []
theorem sortOf_arg (F:Nat) (a0:Int):sortOf_run F (a0)=runF (cx_sortOf F) Tryd.f50 [AV.int .i64 a0] []:=by kernel_rfl
def rOrd_K:CK:=CK.int .i64
def rOrd_sh:List (Option Nat):=[none]
def rOrd_R:CK:=CK.bool
def rOrd_re:List (Option Nat):=[none]
theorem rOrd_eq (F:Nat) (a0:Int):runF (cx_rOrd F) Tryd.f55 [AV.int .i64 a0] []=bif decide (a0≥9) then {ok:=true,val:=AV.bool (decide (a0<17))} else {ok:=true,val:=AV.bool false}:=by kernel_rfl
noncomputable def rOrd_run (F:Nat) (x:CT rOrd_K):Res:=runF (cx_rOrd F) Tryd.f55 (groupA rOrd_sh (enc rOrd_K x)) []
theorem rOrd_arg (F:Nat) (a0:Int):rOrd_run F (a0)=runF (cx_rOrd F) Tryd.f55 [AV.int .i64 a0] []:=by kernel_rfl
def rSpec_K:CK:=CK.int .i64
def rSpec_sh:List (Option Nat):=[none]
def rSpec_R:CK:=CK.bool
def rSpec_re:List (Option Nat):=[none]
theorem rSpec_eq (F:Nat) (a0:Int):runF (cx_rSpec F) Tryd.f65 [AV.int .i64 a0] []=bif decide (a0≥17) then {ok:=true,val:=AV.bool (decide (a0<25))} else {ok:=true,val:=AV.bool false}:=by kernel_rfl
noncomputable def rSpec_run (F:Nat) (x:CT rSpec_K):Res:=runF (cx_rSpec F) Tryd.f65 (groupA rSpec_sh (enc rSpec_K x)) []
theorem rSpec_arg (F:Nat) (a0:Int):rSpec_run F (a0)=runF (cx_rSpec F) Tryd.f65 [AV.int .i64 a0] []:=by kernel_rfl
theorem Ret.iib (k l:IntKind) (a b:Int) (c:Bool):Ret [none,none,none] (.pair (.int k) (.pair (.int l) .bool)) ⟨true, .tup [.int k a, .int l b, .bool c],[]⟩ (a,b,c):=
 ⟨rfl,rfl,rfl,rfl,by simp[roVs,valsOf,view,view1,flatA,cellsA,decOk,nth,isInt,isB,dropL,width],rfl,fun ws h=>by cases h;simp⟩
theorem Ret.ibb (k:IntKind) (a:Int) (b c:Bool):Ret [none,none,none] (.pair (.int k) (.pair .bool .bool)) ⟨true, .tup [.int k a, .bool b, .bool c],[]⟩ (a,b,c):=
 ⟨rfl,rfl,rfl,rfl,by simp[roVs,valsOf,view,view1,flatA,cellsA,decOk,nth,isInt,isB,dropL,width],rfl,fun ws h=>by cases h;simp⟩
theorem Ret.bb (b c:Bool):Ret [none,none] (.pair .bool .bool) ⟨true, .tup [.bool b, .bool c],[]⟩ (b,c):=
 ⟨rfl,rfl,rfl,rfl,by simp[roVs,valsOf,view,view1,flatA,cellsA,decOk,nth,isInt,isB,dropL,width],rfl,fun ws h=>by cases h;simp⟩
theorem Ret.bbb (a b c:Bool):Ret [none,none,none] (.pair .bool (.pair .bool .bool)) ⟨true, .tup [.bool a, .bool b, .bool c],[]⟩ (a,b,c):=
 ⟨rfl,rfl,rfl,rfl,by simp[roVs,valsOf,view,view1,flatA,cellsA,decOk,nth,isInt,isB,dropL,width],rfl,fun ws h=>by cases h;simp⟩
def sortOfM (s:Int):Int×Int×Bool:=
 if 1≤s∧s<9 then (1,0,false) else if 9≤s∧s<17 then (2,Int.tmod (s-9) 4,decide (s≥13)) else if 17≤s∧s<25 then (3,Int.tmod (s-17) 4,decide (s≥21))
 else if 25≤s∧s<29 then (4,0,decide (s≥27)) else if 29≤s∧s≤31 then (5,0,false) else (0,0,false)
def sortOfFu:Int→Nat:=fun _=>1
theorem sortOf_ret (s:Int) (_:true=true):Ret sortOf_re sortOf_R (sortOf_run (sortOfFu s) s) (sortOfM s):=by
 refine Ret.of (r':=⟨true, .tup [.int .i64 (sortOfM s).1, .int .i64 (sortOfM s).2.1, .bool (sortOfM s).2.2],[]⟩) ((sortOf_arg ..).trans ((sortOf_eq ..).trans ?_)) (Ret.iib _ _ _ _ _)
 simp only[sortOf_S4,sortOf_S3,sortOf_S2,sortOf_S1,Bool.cond_decide,sortOfM]
 have key:s<1∨(1≤s∧s<9)∨(9≤s∧s<17)∨(17≤s∧s<25)∨(25≤s∧s<29)∨(29≤s∧s≤31)∨31<s:=by omega
 rcases key with h|h|h|h|h|h|h
 ·simp only[show ¬s≥1 by omega,show ¬s≥9 by omega,show ¬s≥17 by omega,show ¬s≥25 by omega,show ¬s≥29 by omega,show ¬1≤s by omega,show ¬9≤s by omega,show ¬17≤s by omega,show ¬25≤s by omega,show ¬29≤s by omega,if_false,false_and]
 ·simp only[show s≥1 by omega,show s<9 by omega,h,if_true,and_self]
 ·simp only[show s≥1 by omega,show ¬s<9 by omega,show s≥9 by omega,h,if_true,if_false,and_self,and_false,wrap_id (n:=s-9) (by omega) (by omega)]
 ·simp only[show s≥1 by omega,show ¬s<9 by omega,show s≥9 by omega,show ¬s<17 by omega,show s≥17 by omega,h,if_true,if_false,and_self,and_false,wrap_id (n:=s-17) (by omega) (by omega)]
 ·simp only[show s≥1 by omega,show ¬s<9 by omega,show s≥9 by omega,show ¬s<17 by omega,show s≥17 by omega,show ¬s<25 by omega,show s≥25 by omega,h,if_true,if_false,and_self,and_false]
 ·simp only[show s≥1 by omega,show ¬s<9 by omega,show s≥9 by omega,show ¬s<17 by omega,show s≥17 by omega,show ¬s<25 by omega,show s≥25 by omega,show ¬s<29 by omega,show s≥29 by omega,h,if_true,if_false,and_self,and_false]
 ·simp only[show s≥1 by omega,show ¬s<9 by omega,show s≥9 by omega,show ¬s<17 by omega,show s≥17 by omega,show ¬s<25 by omega,show s≥25 by omega,show ¬s<29 by omega,show s≥29 by omega,show ¬s≤31 by omega,if_true,if_false,and_self,and_false]
def rOrdM (s:Int):Bool:=decide (9≤s∧s<17)
def rSpecM (s:Int):Bool:=decide (17≤s∧s<25)
def rJointM (s:Int):Bool:=decide (25≤s∧s<29)
def rCrossM (s:Int):Bool:=decide (29≤s∧s≤31)
def rOrdFu:Int→Nat:=fun _=>1
def rSpecFu:Int→Nat:=fun _=>1
theorem rOrd_ret (s:Int) (_:true=true):Ret rOrd_re rOrd_R (rOrd_run (rOrdFu s) s) (rOrdM s):=by
 refine Ret.of ((rOrd_arg ..).trans ((rOrd_eq ..).trans ?_)) (Ret.bool _)
 by_cases h:9≤s<;>simp[rOrdM,h]
theorem rSpec_ret (s:Int) (_:true=true):Ret rSpec_re rSpec_R (rSpec_run (rSpecFu s) s) (rSpecM s):=by
 refine Ret.of ((rSpec_arg ..).trans ((rSpec_eq ..).trans ?_)) (Ret.bool _)
 by_cases h:17≤s<;>simp[rSpecM,h]
noncomputable def tbSAL_1:=addC 50 (tspec sortOf_sh sortOf_K sortOf_re sortOf_R (fun _=>true) sortOfM) tbSA
theorem tabSAL_1:Tab Tryd.prog tbSAL_1 cxMd tbKSA:=Tab.addTy (os:=[]) tabSA tabSA (KK:=sortOf_K) (R:=sortOf_R) (fn:=Tryd.f50) (by kernel_rfl) (by kernel_rfl) (by kernel_rfl) (by kernel_rfl) _ sortOfFu sortOf_ret
noncomputable def tbSAL_2:=addC 55 (tspec rOrd_sh rOrd_K rOrd_re rOrd_R (fun _=>true) rOrdM) tbSAL_1
theorem tabSAL_2:Tab Tryd.prog tbSAL_2 cxMd tbKSA:=Tab.addTy (os:=[]) tabSAL_1 tabSA (KK:=rOrd_K) (R:=rOrd_R) (fn:=Tryd.f55) (by kernel_rfl) (by kernel_rfl) (by kernel_rfl) (by kernel_rfl) _ rOrdFu rOrd_ret
noncomputable def tbSAL_3:=addC 65 (tspec rSpec_sh rSpec_K rSpec_re rSpec_R (fun _=>true) rSpecM) tbSAL_2
theorem tabSAL_3:Tab Tryd.prog tbSAL_3 cxMd tbKSA:=Tab.addTy (os:=[]) tabSAL_2 tabSA (KK:=rSpec_K) (R:=rSpec_R) (fn:=Tryd.f65) (by kernel_rfl) (by kernel_rfl) (by kernel_rfl) (by kernel_rfl) _ rSpecFu rSpec_ret
noncomputable def tbSAB:=tbSAL_3
noncomputable def tbKSAB:KT:=tbKSA
theorem tabSAB:Tab Tryd.prog tbSAB cxMd tbKSAB:=tabSAL_3
end Go.Proofs.YtiglikocfjhkcaaDoor
