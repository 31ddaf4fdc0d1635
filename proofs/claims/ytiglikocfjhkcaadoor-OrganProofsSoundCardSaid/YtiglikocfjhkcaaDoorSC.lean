/- Cells that are hit; growing cells; crossings. -/
import Derived.Test.YtiglikocfjhkcaaDoorSB
import Derived.Test.YtiglikocfjhkcaaDoorProg
import Derived.KernelRfl
set_option linter.all false
set_option linter.unusedVariables false
set_option linter.unusedSimpArgs false
open Go Go.Abs Go.Proofs
namespace Go.Proofs.YtiglikocfjhkcaaDoor
noncomputable def tbSC:=tbSBB
noncomputable def tbKSC:KT:=tbKSBB
theorem tabSC:Tab Tryd.prog tbSC cxMd tbKSC:=tabSBB
noncomputable def cx_rIsOrd (F:Nat):Cx:={P:=Tryd.prog,C:=tbSC,K:=tbKSC,mode:=cxMd,fuel:=F,live:=liveTab [],pin:=0,nx:=true}
noncomputable def cx_hits (F:Nat):Cx:={P:=Tryd.prog,C:=tbSC,K:=tbKSC,mode:=cxMd,fuel:=F+8,live:=liveTab [(2,[2,3,9,8])],pin:=0,nx:=true}
noncomputable def cx_cAcross (F:Nat):Cx:={P:=Tryd.prog,C:=tbSC,K:=tbKSC,mode:=cxMd,fuel:=F+8,live:=liveTab [(3,[14,1,5]),(7,[14,20,1,5,6,8,21,7])],pin:=0,nx:=true}
noncomputable def cx_grow (F:Nat):Cx:={P:=Tryd.prog,C:=tbSC,K:=tbKSC,mode:=cxMd,fuel:=F,live:=liveTab [(5,[21,5,22]),(11,[32,5,33])],pin:=0,nx:=true}
def rIsOrd_K:CK:=CK.int .i64
def rIsOrd_sh:List (Option Nat):=[none]
def rIsOrd_R:CK:=CK.pair KI (CK.pair CK.bool CK.bool)
def rIsOrd_re:List (Option Nat):=[none,none,none]
theorem rIsOrd_eq (F:Nat) (a0:Int):runF (cx_rIsOrd F) Tryd.f48 [AV.int .i64 a0] []=bif !rOrdM a0 then {ok:=true,val:=AV.tup [AV.int .i64 0,AV.bool false,AV.bool false]} else {ok:=true,val:=AV.tup [AV.int .i64 (headingM a0),AV.bool (rExcM a0),AV.bool true]}:=by kernel_rfl
noncomputable def rIsOrd_run (F:Nat) (x:CT rIsOrd_K):Res:=runF (cx_rIsOrd F) Tryd.f48 (groupA rIsOrd_sh (enc rIsOrd_K x)) []
theorem rIsOrd_arg (F:Nat) (a0:Int):rIsOrd_run F (a0)=runF (cx_rIsOrd F) Tryd.f48 [AV.int .i64 a0] []:=by kernel_rfl
def hits_K:CK:=CK.pair KI (CK.pair KI (CK.pair KI KI))
def hits_sh:List (Option Nat):=[some 4]
def hits_R:CK:=CK.pair CK.bool CK.bool
def hits_re:List (Option Nat):=[none,none]
theorem hits_eq (F:Nat) (a0_0 a0_1 a0_2 a0_3:Int):runF (cx_hits F) Tryd.f69 [AV.agg [AV.int .i64 a0_0,AV.int .i64 a0_1,AV.int .i64 a0_2,AV.int .i64 a0_3]] []=bif (hitByM (a0_0,0)).1 then bif (hitByM (a0_0,0)).2 then {ok:=true,val:=AV.tup [AV.bool true,AV.bool true]} else bif (hitByM (a0_1,1)).2 then {ok:=true,val:=AV.tup [AV.bool true,AV.bool true]} else bif (hitByM (a0_2,2)).2 then {ok:=true,val:=AV.tup [AV.bool true,AV.bool true]} else {ok:=true,val:=AV.tup [AV.bool true,AV.bool (hitByM (a0_3,3)).2]} else bif (hitByM (a0_0,0)).2 then bif (hitByM (a0_1,1)).1 then {ok:=true,val:=AV.tup [AV.bool true,AV.bool true]} else bif (hitByM (a0_2,2)).1 then {ok:=true,val:=AV.tup [AV.bool true,AV.bool true]} else {ok:=true,val:=AV.tup [AV.bool (hitByM (a0_3,3)).1,AV.bool true]} else bif (hitByM (a0_1,1)).1 then bif (hitByM (a0_1,1)).2 then {ok:=true,val:=AV.tup [AV.bool true,AV.bool true]} else bif (hitByM (a0_2,2)).2 then {ok:=true,val:=AV.tup [AV.bool true,AV.bool true]} else {ok:=true,val:=AV.tup [AV.bool true,AV.bool (hitByM (a0_3,3)).2]} else bif (hitByM (a0_1,1)).2 then bif (hitByM (a0_2,2)).1 then {ok:=true,val:=AV.tup [AV.bool true,AV.bool true]} else {ok:=true,val:=AV.tup [AV.bool (hitByM (a0_3,3)).1,AV.bool true]} else bif (hitByM (a0_2,2)).1 then bif (hitByM (a0_2,2)).2 then {ok:=true,val:=AV.tup [AV.bool true,AV.bool true]} else {ok:=true,val:=AV.tup [AV.bool true,AV.bool (hitByM (a0_3,3)).2]} else bif (hitByM (a0_2,2)).2 then {ok:=true,val:=AV.tup [AV.bool (hitByM (a0_3,3)).1,AV.bool true]} else {ok:=true,val:=AV.tup [AV.bool (hitByM (a0_3,3)).1,AV.bool (hitByM (a0_3,3)).2]}:=by kernel_rfl
noncomputable def hits_run (F:Nat) (x:CT hits_K):Res:=runF (cx_hits F) Tryd.f69 (groupA hits_sh (enc hits_K x)) []
theorem hits_arg (F:Nat) (a0_0 a0_1 a0_2 a0_3:Int):hits_run F (a0_0,a0_1,a0_2,a0_3)=runF (cx_hits F) Tryd.f69 [AV.agg [AV.int .i64 a0_0,AV.int .i64 a0_1,AV.int .i64 a0_2,AV.int .i64 a0_3]] []:=by kernel_rfl
def cAcross_K:CK:=CK.pair KI (CK.pair KI (CK.pair KI KI))
def cAcross_sh:List (Option Nat):=[some 4]
def cAcross_R:CK:=CK.pair CK.bool (CK.pair CK.bool CK.bool)
def cAcross_re:List (Option Nat):=[none,none,none]
theorem cAcross_eq (F:Nat) (a0_0 a0_1 a0_2 a0_3:Int):runF (cx_cAcross F) Tryd.f82 [AV.agg [AV.int .i64 a0_0,AV.int .i64 a0_1,AV.int .i64 a0_2,AV.int .i64 a0_3]] []=bif (sortOfM a0_0).1 !=2 then {ok:=true,val:=AV.tup [AV.bool false,AV.bool false,AV.bool false]} else bif decide ((sortOfM a0_0).2.1=2) then bif (sortOfM a0_2).1 !=2 then {ok:=true,val:=AV.tup [AV.bool false,AV.bool false,AV.bool false]} else bif decide ((sortOfM a0_2).2.1=0) then {ok:=true,val:=AV.tup [AV.bool false,AV.bool false,AV.bool false]} else bif (sortOfM a0_1).1 !=2 then {ok:=true,val:=AV.tup [AV.bool false,AV.bool false,AV.bool false]} else bif decide ((sortOfM a0_1).2.1=3) then bif (sortOfM a0_3).1 !=2 then {ok:=true,val:=AV.tup [AV.bool false,AV.bool false,AV.bool false]} else bif decide ((sortOfM a0_3).2.1=1) then {ok:=true,val:=AV.tup [AV.bool false,AV.bool false,AV.bool false]} else {ok:=true,val:=AV.tup [AV.bool true,AV.bool (sortOfM a0_0).2.2,AV.bool (sortOfM a0_1).2.2]} else bif (sortOfM a0_3).1 !=2 then {ok:=true,val:=AV.tup [AV.bool false,AV.bool false,AV.bool false]} else bif decide ((sortOfM a0_3).2.1=1) then {ok:=true,val:=AV.tup [AV.bool true,AV.bool (sortOfM a0_0).2.2,AV.bool (sortOfM a0_3).2.2]} else {ok:=true,val:=AV.tup [AV.bool false,AV.bool false,AV.bool false]} else bif (sortOfM a0_2).1 !=2 then {ok:=true,val:=AV.tup [AV.bool false,AV.bool false,AV.bool false]} else bif decide ((sortOfM a0_2).2.1=0) then bif (sortOfM a0_1).1 !=2 then {ok:=true,val:=AV.tup [AV.bool false,AV.bool false,AV.bool false]} else bif decide ((sortOfM a0_1).2.1=3) then bif (sortOfM a0_3).1 !=2 then {ok:=true,val:=AV.tup [AV.bool false,AV.bool false,AV.bool false]} else bif decide ((sortOfM a0_3).2.1=1) then {ok:=true,val:=AV.tup [AV.bool false,AV.bool false,AV.bool false]} else {ok:=true,val:=AV.tup [AV.bool true,AV.bool (sortOfM a0_2).2.2,AV.bool (sortOfM a0_1).2.2]} else bif (sortOfM a0_3).1 !=2 then {ok:=true,val:=AV.tup [AV.bool false,AV.bool false,AV.bool false]} else bif decide ((sortOfM a0_3).2.1=1) then {ok:=true,val:=AV.tup [AV.bool true,AV.bool (sortOfM a0_2).2.2,AV.bool (sortOfM a0_3).2.2]} else {ok:=true,val:=AV.tup [AV.bool false,AV.bool false,AV.bool false]} else {ok:=true,val:=AV.tup [AV.bool false,AV.bool false,AV.bool false]}:=by kernel_rfl
noncomputable def cAcross_run (F:Nat) (x:CT cAcross_K):Res:=runF (cx_cAcross F) Tryd.f82 (groupA cAcross_sh (enc cAcross_K x)) []
theorem cAcross_arg (F:Nat) (a0_0 a0_1 a0_2 a0_3:Int):cAcross_run F (a0_0,a0_1,a0_2,a0_3)=runF (cx_cAcross F) Tryd.f82 [AV.agg [AV.int .i64 a0_0,AV.int .i64 a0_1,AV.int .i64 a0_2,AV.int .i64 a0_3]] []:=by kernel_rfl
def grow_K:CK:=CK.pair KI CK.bool
def grow_sh:List (Option Nat):=[none,none]
def grow_R:CK:=CK.int .i64
def grow_re:List (Option Nat):=[none]
noncomputable def grow_run (F:Nat) (x:CT grow_K):Res:=runF (cx_grow F) Tryd.f70 (groupA grow_sh (enc grow_K x)) []
theorem grow_arg (F:Nat) (a0:Int) (a1:Bool):grow_run F (a0,a1)=runF (cx_grow F) Tryd.f70 [AV.int .i64 a0,AV.bool a1] []:=by kernel_rfl
abbrev I4:=Int×Int×Int×Int
def pointsM:Int×Int→Bool:=fun (s,d)=>(rOrdM s||rSpecM s)&&decide (headingM s=Int.tmod (IntKind.wrap .i64 (d+2)) 4)
def rIsOrdM (s:Int):Int×Bool×Bool:=bif !rOrdM s then (0,false,false) else (headingM s,rExcM s,true)
def hitsM:I4→Bool×Bool:=fun (a,b,c,d)=>((hitByM (a,0)).1||((hitByM (b,1)).1||((hitByM (c,2)).1||(hitByM (d,3)).1)),(hitByM (a,0)).2||((hitByM (b,1)).2||((hitByM (c,2)).2||(hitByM (d,3)).2)))
def isIn (s d:Int):Bool:=decide ((sortOfM s).2.1=d)
def crossM (a b c d:Int) (i0 i1 i2 i3 o0 o1 o2 o3:Bool):Bool×Bool×Bool:=
 bif !o0&&(!o2&&(!o1&&(!o3&&((i0 !=i2)&&(i1 !=i3))))) then (true,(bif i0 then (sortOfM a).2.2 else (sortOfM c).2.2),(bif i1 then (sortOfM b).2.2 else (sortOfM d).2.2)) else (false,false,false)
def cAcrossM:I4→Bool×Bool×Bool:=fun (a,b,c,d)=>crossM a b c d (isIn a 2) (isIn b 3) (isIn c 0) (isIn d 1) ((sortOfM a).1 !=2) ((sortOfM b).1 !=2) ((sortOfM c).1 !=2) ((sortOfM d).1 !=2)
def growOk:Int×Bool→Bool:=fun (s,_)=>decide (1≤s∧s≤8)
def growM:Int×Bool→Int:=fun (s,one)=>bif one then nth 0 [0,3,5,7,11,17,19,25,10] s.toNat else nth 0 [0,2,4,6,8,12,18,20,9] s.toNat
def rIsOrdFu:Int→Nat:=fun _=>1
def hitsFu:I4→Nat:=fun _=>1
def cAcrossFu:I4→Nat:=fun _=>1
def growFu:Int×Bool→Nat:=fun _=>20
theorem rIsOrd_ret (s:Int) (_:true=true):Ret rIsOrd_re rIsOrd_R (rIsOrd_run (rIsOrdFu s) s) (rIsOrdM s):=by
 refine Ret.of (r':=⟨true, .tup [.int .i64 (rIsOrdM s).1, .bool (rIsOrdM s).2.1, .bool (rIsOrdM s).2.2],[]⟩) ((rIsOrd_arg ..).trans ((rIsOrd_eq ..).trans ?_)) (Ret.ibb _ _ _ _)
 simp only[rIsOrdM]
 cases rOrdM s<;>rfl
theorem hits_ret (z:I4) (_:true=true):Ret hits_re hits_R (hits_run (hitsFu z) z) (hitsM z):=by
 obtain ⟨a,b,c,d⟩:=z
 refine Ret.of (r':=⟨true, .tup [.bool (hitsM (a,b,c,d)).1, .bool (hitsM (a,b,c,d)).2],[]⟩) ((hits_arg ..).trans ((hits_eq ..).trans ?_)) (Ret.bb _ _)
 simp only[hitsM]
 cases (hitByM (a,0)).1<;>cases (hitByM (a,0)).2<;>cases (hitByM (b,1)).1<;>cases (hitByM (b,1)).2<;>cases (hitByM (c,2)).1<;>cases (hitByM (c,2)).2<;>rfl
theorem cAcross_ret (z:I4) (_:true=true):Ret cAcross_re cAcross_R (cAcross_run (cAcrossFu z) z) (cAcrossM z):=by
 obtain ⟨a,b,c,d⟩:=z
 refine Ret.of (r':=⟨true, .tup [.bool (cAcrossM (a,b,c,d)).1, .bool (cAcrossM (a,b,c,d)).2.1, .bool (cAcrossM (a,b,c,d)).2.2],[]⟩) ((cAcross_arg ..).trans ((cAcross_eq ..).trans ?_)) (Ret.bbb _ _ _)
 simp only[cAcrossM,isIn]
 cases (sortOfM a).1 !=2<;>cases (sortOfM c).1 !=2<;>cases (sortOfM b).1 !=2<;>cases (sortOfM d).1 !=2<;>cases decide ((sortOfM a).2.1=2)<;>cases decide ((sortOfM c).2.1=0)<;>cases decide ((sortOfM b).2.1=3)<;>cases decide ((sortOfM d).2.1=1)<;>rfl
theorem grow_1false:runF (cx_grow 20) Tryd.f70 [AV.int .i64 1,AV.bool false] []=(⟨true, .int .i64 2,[]⟩:Res):=by kernel_rfl
theorem grow_1true:runF (cx_grow 20) Tryd.f70 [AV.int .i64 1,AV.bool true] []=(⟨true, .int .i64 3,[]⟩:Res):=by kernel_rfl
theorem grow_2false:runF (cx_grow 20) Tryd.f70 [AV.int .i64 2,AV.bool false] []=(⟨true, .int .i64 4,[]⟩:Res):=by kernel_rfl
theorem grow_2true:runF (cx_grow 20) Tryd.f70 [AV.int .i64 2,AV.bool true] []=(⟨true, .int .i64 5,[]⟩:Res):=by kernel_rfl
theorem grow_3false:runF (cx_grow 20) Tryd.f70 [AV.int .i64 3,AV.bool false] []=(⟨true, .int .i64 6,[]⟩:Res):=by kernel_rfl
theorem grow_3true:runF (cx_grow 20) Tryd.f70 [AV.int .i64 3,AV.bool true] []=(⟨true, .int .i64 7,[]⟩:Res):=by kernel_rfl
theorem grow_4false:runF (cx_grow 20) Tryd.f70 [AV.int .i64 4,AV.bool false] []=(⟨true, .int .i64 8,[]⟩:Res):=by kernel_rfl
theorem grow_4true:runF (cx_grow 20) Tryd.f70 [AV.int .i64 4,AV.bool true] []=(⟨true, .int .i64 11,[]⟩:Res):=by kernel_rfl
theorem grow_5false:runF (cx_grow 20) Tryd.f70 [AV.int .i64 5,AV.bool false] []=(⟨true, .int .i64 12,[]⟩:Res):=by kernel_rfl
theorem grow_5true:runF (cx_grow 20) Tryd.f70 [AV.int .i64 5,AV.bool true] []=(⟨true, .int .i64 17,[]⟩:Res):=by kernel_rfl
theorem grow_6false:runF (cx_grow 20) Tryd.f70 [AV.int .i64 6,AV.bool false] []=(⟨true, .int .i64 18,[]⟩:Res):=by kernel_rfl
theorem grow_6true:runF (cx_grow 20) Tryd.f70 [AV.int .i64 6,AV.bool true] []=(⟨true, .int .i64 19,[]⟩:Res):=by kernel_rfl
theorem grow_7false:runF (cx_grow 20) Tryd.f70 [AV.int .i64 7,AV.bool false] []=(⟨true, .int .i64 20,[]⟩:Res):=by kernel_rfl
theorem grow_7true:runF (cx_grow 20) Tryd.f70 [AV.int .i64 7,AV.bool true] []=(⟨true, .int .i64 25,[]⟩:Res):=by kernel_rfl
theorem grow_8false:runF (cx_grow 20) Tryd.f70 [AV.int .i64 8,AV.bool false] []=(⟨true, .int .i64 9,[]⟩:Res):=by kernel_rfl
theorem grow_8true:runF (cx_grow 20) Tryd.f70 [AV.int .i64 8,AV.bool true] []=(⟨true, .int .i64 10,[]⟩:Res):=by kernel_rfl
theorem grow_ret (z:Int×Bool) (h:growOk z=true):Ret grow_re grow_R (grow_run (growFu z) z) (growM z):=by
 obtain ⟨s,one⟩:=z
 simp only[growOk,decide_eq_true_eq] at h
 refine Ret.of (r':=⟨true, .int .i64 (growM (s,one)),[]⟩) ((grow_arg ..).trans ?_) (Ret.int _ _)
 show runF (cx_grow 20) Tryd.f70 [AV.int .i64 s,AV.bool one] []=_
 obtain rfl|rfl|rfl|rfl|rfl|rfl|rfl|rfl:s=1∨s=2∨s=3∨s=4∨s=5∨s=6∨s=7∨s=8:=by omega
 all_goals cases one
 ·rw[grow_1false];rfl
 ·rw[grow_1true];rfl
 ·rw[grow_2false];rfl
 ·rw[grow_2true];rfl
 ·rw[grow_3false];rfl
 ·rw[grow_3true];rfl
 ·rw[grow_4false];rfl
 ·rw[grow_4true];rfl
 ·rw[grow_5false];rfl
 ·rw[grow_5true];rfl
 ·rw[grow_6false];rfl
 ·rw[grow_6true];rfl
 ·rw[grow_7false];rfl
 ·rw[grow_7true];rfl
 ·rw[grow_8false];rfl
 ·rw[grow_8true];rfl
noncomputable def tbSCL_1:=addC 48 (tspec rIsOrd_sh rIsOrd_K rIsOrd_re rIsOrd_R (fun _=>true) rIsOrdM) tbSC
theorem tabSCL_1:Tab Tryd.prog tbSCL_1 cxMd tbKSC:=Tab.addTy (os:=[]) tabSC tabSC (KK:=rIsOrd_K) (R:=rIsOrd_R) (fn:=Tryd.f48) (by kernel_rfl) (by kernel_rfl) (by kernel_rfl) (by kernel_rfl) _ rIsOrdFu rIsOrd_ret
noncomputable def tbSCL_2:=addC 69 (tspec hits_sh hits_K hits_re hits_R (fun _=>true) hitsM) tbSCL_1
theorem tabSCL_2:Tab Tryd.prog tbSCL_2 cxMd tbKSC:=Tab.addTy (os:=[]) tabSCL_1 tabSC (KK:=hits_K) (R:=hits_R) (fn:=Tryd.f69) (by kernel_rfl) (by kernel_rfl) (by kernel_rfl) (by kernel_rfl) _ (fun x=>hitsFu x+8) hits_ret
noncomputable def tbSCL_3:=addC 82 (tspec cAcross_sh cAcross_K cAcross_re cAcross_R (fun _=>true) cAcrossM) tbSCL_2
theorem tabSCL_3:Tab Tryd.prog tbSCL_3 cxMd tbKSC:=Tab.addTy (os:=[]) tabSCL_2 tabSC (KK:=cAcross_K) (R:=cAcross_R) (fn:=Tryd.f82) (by kernel_rfl) (by kernel_rfl) (by kernel_rfl) (by kernel_rfl) _ (fun x=>cAcrossFu x+8) cAcross_ret
noncomputable def tbSCL_4:=addC 70 (tspec grow_sh grow_K grow_re grow_R growOk growM) tbSCL_3
theorem tabSCL_4:Tab Tryd.prog tbSCL_4 cxMd tbKSC:=Tab.addTy (os:=[]) tabSCL_3 tabSC (KK:=grow_K) (R:=grow_R) (fn:=Tryd.f70) (by kernel_rfl) (by kernel_rfl) (by kernel_rfl) (by kernel_rfl) _ growFu grow_ret
noncomputable def tbSCB:=tbSCL_4
noncomputable def tbKSCB:KT:=tbKSC
theorem tabSCB:Tab Tryd.prog tbSCB cxMd tbKSCB:=tabSCL_4
end Go.Proofs.YtiglikocfjhkcaaDoor
