/- Does an organ reach out on a side of a cell? -/
import Derived.Test.YtiglikocfjhkcaaDoorSK
import Derived.Test.YtiglikocfjhkcaaDoorProg
import Derived.KernelRfl
set_option linter.all false
set_option linter.unusedVariables false
set_option linter.unusedSimpArgs false
open Go Go.Abs Go.Proofs
namespace Go.Proofs.YtiglikocfjhkcaaDoor
noncomputable def tbSM_1:=addC 52 (inl Tryd.prog tbSLB cxMd tbKSLB Tryd.f52) tbSLB
noncomputable def tbKSM_1:KT:=addK 52 (inlK Tryd.prog tbSLB cxMd tbKSLB Tryd.f52) tbKSLB
theorem tabSM_1:Tab Tryd.prog tbSM_1 cxMd tbKSM_1:=Tab.addInl tabSLB tabSLB (fn:=Tryd.f52) (by kernel_rfl) (by kernel_rfl) (by kernel_rfl)
noncomputable def tbSM:=tbSM_1
noncomputable def tbKSM:KT:=tbKSM_1
theorem tabSM:Tab Tryd.prog tbSM cxMd tbKSM:=tabSM_1
noncomputable def cx_leaksAt (F:Nat):Cx:={P:=Tryd.prog,C:=tbSM,K:=tbKSM,mode:=cxMd,fuel:=F,live:=liveTab [],pin:=0,nx:=true}
def leaksAt_K:CK:=CK.pair KI (CK.pair KI (CK.pair KI (CK.pair KL (CK.pair (CK.slice 50 MoK) (CK.pair KI (CK.pair (CK.slice 121 (CK.pair KI (CK.pair KI (CK.pair KI (CK.pair KI (CK.pair KI KI)))))) (CK.pair KI (CK.pair (CK.map true false (CK.pair KI (CK.pair KI KI)) KI) (CK.pair KI (CK.pair KI (CK.pair KI (CK.pair KI KI))))))))))))
def leaksAt_sh:List Sh:=[.ref 9, .one, .one, .one, .one, .one]
def leaksAt_R:CK:=CK.bool
def leaksAt_re:List (Option Nat):=[none]
noncomputable def leaksAt_run (F:Nat) (x:CT leaksAt_K):Res:=runF (cx_leaksAt F) Tryd.f45 (groupS leaksAt_sh (enc leaksAt_K x)) []
def bodyV (k w h:Int) (cells:List Int) (ms:List Mo) (rk:Int) (rc:List (Int×Int×Int×Int×Int×Int)) (ins:Int) (m:List ((Int×Int×Int)×Int)):AV:=
 .rptr [.int .i64 k, .int .i64 w, .int .i64 h, .ro (.int .i64) cells, .ro (.pair (.int .i64) (.pair (.int .i64) (.pair (.int .i64) .bool))) ms, .int .i64 rk, .ro (.pair (.int .i64) (.pair (.int .i64) (.pair (.int .i64) (.pair (.int .i64) (.pair (.int .i64) (.int .i64)))))) rc, .int .i64 ins, .rmap true false (.pair (.int .i64) (.pair (.int .i64) (.int .i64))) (.int .i64) m] 0
def leakR (w after:Int) (mouth:Bool):Res:=
 bif !mouth then {ok:=true,val:= .bool (after !=0)} else bif !(cIsOrdM after).2.2 then {ok:=true,val:= .bool true} else {ok:=true,val:= .bool ((cIsOrdM after).1 !=(cIsOrdM w).1)}
theorem leaks_0 (F:Nat) (k w h:Int) (cells:List Int) (ms:List Mo) (rk:Int) (rc:List (Int×Int×Int×Int×Int×Int)) (ins:Int) (m:List ((Int×Int×Int)×Int)) (x y word s:Int):
  runF (cx_leaksAt F) Tryd.f45 [bodyV k w h cells ms rk rc ins m, .int .i64 x, .int .i64 y, .int .i64 0, .int .i64 word, .int .i64 s] []=
   bif outerBOk (k,w,h,cells,ms,rk,rc,ins,m,x,y,0,word) then
    (bif cNextOk (rk,rc,(outerBM (k,w,h,cells,ms,rk,rc,ins,m,x,y,0,word)).1,0,0,s,0) then
     leakR (outerBM (k,w,h,cells,ms,rk,rc,ins,m,x,y,0,word)).1 (cNextM (rk,rc,(outerBM (k,w,h,cells,ms,rk,rc,ins,m,x,y,0,word)).1,0,0,s,0)) (outerBM (k,w,h,cells,ms,rk,rc,ins,m,x,y,0,word)).2
    else {ok:=false,val:= .junk}) else {ok:=false,val:= .junk}:=by kernel_rfl
theorem leaks_1 (F:Nat) (k w h:Int) (cells:List Int) (ms:List Mo) (rk:Int) (rc:List (Int×Int×Int×Int×Int×Int)) (ins:Int) (m:List ((Int×Int×Int)×Int)) (x y word s:Int):
  runF (cx_leaksAt F) Tryd.f45 [bodyV k w h cells ms rk rc ins m, .int .i64 x, .int .i64 y, .int .i64 1, .int .i64 word, .int .i64 s] []=
   bif outerBOk (k,w,h,cells,ms,rk,rc,ins,m,x,y,1,word) then
    (bif cNextOk (rk,rc,(outerBM (k,w,h,cells,ms,rk,rc,ins,m,x,y,1,word)).1,0,0,0,s) then
     leakR (outerBM (k,w,h,cells,ms,rk,rc,ins,m,x,y,1,word)).1 (cNextM (rk,rc,(outerBM (k,w,h,cells,ms,rk,rc,ins,m,x,y,1,word)).1,0,0,0,s)) (outerBM (k,w,h,cells,ms,rk,rc,ins,m,x,y,1,word)).2
    else {ok:=false,val:= .junk}) else {ok:=false,val:= .junk}:=by kernel_rfl
theorem leaks_2 (F:Nat) (k w h:Int) (cells:List Int) (ms:List Mo) (rk:Int) (rc:List (Int×Int×Int×Int×Int×Int)) (ins:Int) (m:List ((Int×Int×Int)×Int)) (x y word s:Int):
  runF (cx_leaksAt F) Tryd.f45 [bodyV k w h cells ms rk rc ins m, .int .i64 x, .int .i64 y, .int .i64 2, .int .i64 word, .int .i64 s] []=
   bif outerBOk (k,w,h,cells,ms,rk,rc,ins,m,x,y,2,word) then
    (bif cNextOk (rk,rc,(outerBM (k,w,h,cells,ms,rk,rc,ins,m,x,y,2,word)).1,s,0,0,0) then
     leakR (outerBM (k,w,h,cells,ms,rk,rc,ins,m,x,y,2,word)).1 (cNextM (rk,rc,(outerBM (k,w,h,cells,ms,rk,rc,ins,m,x,y,2,word)).1,s,0,0,0)) (outerBM (k,w,h,cells,ms,rk,rc,ins,m,x,y,2,word)).2
    else {ok:=false,val:= .junk}) else {ok:=false,val:= .junk}:=by kernel_rfl
theorem leaks_3 (F:Nat) (k w h:Int) (cells:List Int) (ms:List Mo) (rk:Int) (rc:List (Int×Int×Int×Int×Int×Int)) (ins:Int) (m:List ((Int×Int×Int)×Int)) (x y word s:Int):
  runF (cx_leaksAt F) Tryd.f45 [bodyV k w h cells ms rk rc ins m, .int .i64 x, .int .i64 y, .int .i64 3, .int .i64 word, .int .i64 s] []=
   bif outerBOk (k,w,h,cells,ms,rk,rc,ins,m,x,y,3,word) then
    (bif cNextOk (rk,rc,(outerBM (k,w,h,cells,ms,rk,rc,ins,m,x,y,3,word)).1,0,s,0,0) then
     leakR (outerBM (k,w,h,cells,ms,rk,rc,ins,m,x,y,3,word)).1 (cNextM (rk,rc,(outerBM (k,w,h,cells,ms,rk,rc,ins,m,x,y,3,word)).1,0,s,0,0)) (outerBM (k,w,h,cells,ms,rk,rc,ins,m,x,y,3,word)).2
    else {ok:=false,val:= .junk}) else {ok:=false,val:= .junk}:=by kernel_rfl
abbrev LZ:=Int×Int×Int×List Int×List Mo×Int×List Six×Int×MM×Int×Int×Int×Int×Int
def leakB (w after:Int) (mouth:Bool):Bool:=bif !mouth then after !=0 else bif !(cIsOrdM after).2.2 then true else (cIsOrdM after).1 !=(cIsOrdM w).1
def sideN (rk:Int) (rc:List Six) (w d s:Int):Int:=
 bif decide (d=0) then cNextM (rk,rc,w,0,0,s,0) else bif decide (d=1) then cNextM (rk,rc,w,0,0,0,s) else bif decide (d=2) then cNextM (rk,rc,w,s,0,0,0) else cNextM (rk,rc,w,0,s,0,0)
def leaksAtOk:LZ→Bool:=fun (k,w,h,cells,ms,rk,rc,ins,m,x,y,d,word,s)=>outerBOk (k,w,h,cells,ms,rk,rc,ins,m,x,y,d,word)&&decide ((0≤d∧d<4)∧(rk=0∨rk=1))
def leaksAtM:LZ→Bool:=fun (k,w,h,cells,ms,rk,rc,ins,m,x,y,d,word,s)=>leakB (outerBO m x y d word).1 (sideN rk rc (outerBO m x y d word).1 d s) (outerBO m x y d word).2
def leaksAtFu:LZ→Nat:=fun _=>1
theorem leakR_eq (w after:Int) (mouth:Bool):leakR w after mouth={ok:=true,val:= .bool (leakB w after mouth)}:=by
 simp only[leakR,leakB]
 cases mouth<;>cases (cIsOrdM after).2.2<;>rfl
theorem leaksAt_arg (F:Nat) (k w h:Int) (cells:List Int) (ms:List Mo) (rk:Int) (rc:List Six) (ins:Int) (m:MM) (x y d word s:Int):leaksAt_run F (k,w,h,cells,ms,rk,rc,ins,m,x,y,d,word,s)=runF (cx_leaksAt F) Tryd.f45 [bodyV k w h cells ms rk rc ins m, .int .i64 x, .int .i64 y, .int .i64 d, .int .i64 word, .int .i64 s] []:=by kernel_rfl
theorem leaksAt_ret (z:LZ) (h:leaksAtOk z=true):Ret leaksAt_re leaksAt_R (leaksAt_run (leaksAtFu z) z) (leaksAtM z):=by
 obtain ⟨k,w,hh,cells,ms,rk,rc,ins,m,x,y,d,word,s⟩:=z
 simp only[leaksAtOk,Bool.and_eq_true,decide_eq_true_eq] at h
 obtain ⟨h1,⟨h2,h3⟩,h4⟩:=h
 have o:∀a b c e f,cNextOk (rk,rc,a,b,c,e,f)=true:=fun _ _ _ _ _=>decide_eq_true h4
 refine Ret.of (r':={ok:=true,val:= .bool (leaksAtM (k,w,hh,cells,ms,rk,rc,ins,m,x,y,d,word,s))}) ((leaksAt_arg ..).trans ?_) (Ret.bool _)
 obtain rfl|rfl|rfl|rfl:d=0∨d=1∨d=2∨d=3:=by omega
 ·rw[leaks_0,h1,o,leakR_eq];rfl
 ·rw[leaks_1,h1,o,leakR_eq];rfl
 ·rw[leaks_2,h1,o,leakR_eq];rfl
 ·rw[leaks_3,h1,o,leakR_eq];rfl
noncomputable def tbSML_1:=addC 45 (tspecS leaksAt_sh leaksAt_K leaksAt_re leaksAt_R leaksAtOk leaksAtM) tbSM
theorem tabSML_1:Tab Tryd.prog tbSML_1 cxMd tbKSM:=Tab.addTyS (os:=[]) tabSM tabSM (KK:=leaksAt_K) (R:=leaksAt_R) (fn:=Tryd.f45) (by kernel_rfl) (by kernel_rfl) (by kernel_rfl) (by kernel_rfl) _ leaksAtFu leaksAt_ret
noncomputable def tbSMB:=tbSML_1
noncomputable def tbKSMB:KT:=tbKSM
theorem tabSMB:Tab Tryd.prog tbSMB cxMd tbKSMB:=tabSML_1
end Go.Proofs.YtiglikocfjhkcaaDoor
