/- The laws of Step and Run, of both, and of SameOrgan. -/
import Derived.Test.YtiglikocfjhkcaaDoorST
import Derived.Test.YtiglikocfjhkcaaDoorProg
import Derived.KernelRfl
import Derived.Test.YtiglikocfjhkcaaDoorSP3
set_option linter.all false
set_option linter.unusedVariables false
set_option linter.unusedSimpArgs false
open Go Go.Abs Go.Proofs
namespace Go.Proofs.YtiglikocfjhkcaaDoor
noncomputable def tbSU_1:=addC 34 (inl Tryd.prog tbSTB cxMd tbKSTB Tryd.f34) tbSTB
noncomputable def tbKSU_1:KT:=addK 34 (inlK Tryd.prog tbSTB cxMd tbKSTB Tryd.f34) tbKSTB
theorem tabSU_1:Tab Tryd.prog tbSU_1 cxMd tbKSU_1:=Tab.addInl tabSTB tabSTB (fn:=Tryd.f34) (by kernel_rfl) (by kernel_rfl) (by kernel_rfl)
noncomputable def tbSU:=tbSU_1
noncomputable def tbKSU:KT:=tbKSU_1
theorem tabSU:Tab Tryd.prog tbSU cxMd tbKSU:=tabSU_1
noncomputable def cx_oStep (F:Nat):Cx:={P:=Tryd.prog,C:=tbSU,K:=tbKSU,mode:=cxMd,fuel:=F,live:=liveTab [],pin:=0,nx:=true}
noncomputable def cx_oRun (F:Nat):Cx:={P:=Tryd.prog,C:=tbSU,K:=tbKSU,mode:=cxMd,fuel:=F,live:=liveTab [(9,[9,34,2,33,8,35,4,5])],pin:=0,nx:=true}
def oStep_K:CK:=CK.pair KI (CK.pair KI (CK.pair KI (CK.pair KL (CK.pair (CK.slice 50 MoK) KI))))
def oStep_sh:List (Option Nat):=[some 5,none]
def oStep_R:CK:=CK.pair KI (CK.pair KI (CK.pair KI (CK.pair KL (CK.pair (CK.slice 50 MoK) (CK.pair KI KI)))))
def oStep_re:List (Option Nat):=[some 5,none,none]
theorem oStep_eq (F:Nat) (a0_0 a0_1 a0_2:Int) (a0_3:List Int) (a0_4:List Mo) (a1:Int):runF (cx_oStep F) Tryd.f24 [AV.agg [AV.int .i64 a0_0,AV.int .i64 a0_1,AV.int .i64 a0_2,AV.ro KI a0_3,AV.ro MoK a0_4],AV.int .i64 a1] []=bif oVOk (a0_0,a0_1,a0_2,a0_3,a0_4) then bif oVM (a0_0,a0_1,a0_2,a0_3,a0_4) !=0 then {ok:=true,val:=AV.tup [AV.agg [AV.int .i64 0,AV.int .i64 0,AV.int .i64 0,AV.sl 0 0 0 none,AV.sl 1 0 0 none],AV.int .i64 0,AV.int .i64 (oVM (a0_0,a0_1,a0_2,a0_3,a0_4))],heap:=[Blk.row 0 3 KI [],Blk.row 0 50 MoK []]} else bif newBodyOk (a0_0,a0_1,a0_2,a0_3,a0_4) then bif decide (a1<0) then {ok:=true,val:=AV.tup [AV.agg [AV.int .i64 0,AV.int .i64 0,AV.int .i64 0,AV.sl 0 0 0 none,AV.sl 1 0 0 none],AV.int .i64 0,AV.int .i64 52],heap:=[Blk.row 0 3 KI [],Blk.row 0 50 MoK []]} else bif decide (0≤(↑(cntI a0_4):Int)) then bif decide (a1≥shlI .i64 1 (↑(cntI a0_4):Int)) then {ok:=true,val:=AV.tup [AV.agg [AV.int .i64 0,AV.int .i64 0,AV.int .i64 0,AV.sl 0 0 0 none,AV.sl 1 0 0 none],AV.int .i64 0,AV.int .i64 52],heap:=[Blk.row 0 3 KI [],Blk.row 0 50 MoK []]} else bif Res.ok (stepSpec [AV.ptr 0 0,AV.ro KI a0_3,AV.int .i64 a1] [Blk.cells [AV.int .i64 a0_0,AV.int .i64 a0_1,AV.int .i64 a0_2,AV.ro KI a0_3,AV.ro MoK a0_4,AV.int .i64 a0_0,AV.nils,AV.int .i64 (↑(cntI a0_4):Int),AV.mp 1],Blk.map true false (CK.pair KI (CK.pair KI KI)) KI (bodyMap a0_4 0 0 [])]) then bif (stepM (zOf [Blk.cells [AV.int .i64 a0_0,AV.int .i64 a0_1,AV.int .i64 a0_2,AV.ro KI a0_3,AV.ro MoK a0_4,AV.int .i64 a0_0,AV.nils,AV.int .i64 (↑(cntI a0_4):Int),AV.mp 1],Blk.map true false (CK.pair KI (CK.pair KI KI)) KI (bodyMap a0_4 0 0 [])] a0_3 a1)).2.2 then {ok:=true,val:=AV.tup [AV.agg [AV.int .i64 0,AV.int .i64 0,AV.int .i64 0,AV.sl 0 0 0 none,AV.sl 1 0 0 none],AV.int .i64 0,AV.int .i64 53],heap:=[Blk.row 0 3 KI [],Blk.row 0 50 MoK []]} else bif decide (Nat.mul (List.length (stepM (zOf [Blk.cells [AV.int .i64 a0_0,AV.int .i64 a0_1,AV.int .i64 a0_2,AV.ro KI a0_3,AV.ro MoK a0_4,AV.int .i64 a0_0,AV.nils,AV.int .i64 (↑(cntI a0_4):Int),AV.mp 1],Blk.map true false (CK.pair KI (CK.pair KI KI)) KI (bodyMap a0_4 0 0 [])] a0_3 a1)).1) 8≤140737488355328) then bif decide (Nat.mul (List.length a0_4) 32≤140737488355328) then {ok:=true,val:=AV.tup [AV.agg [AV.int .i64 a0_0,AV.int .i64 a0_1,AV.int .i64 a0_2,AV.sl 0 0 0 none,AV.sl 1 0 0 none],AV.int .i64 (stepM (zOf [Blk.cells [AV.int .i64 a0_0,AV.int .i64 a0_1,AV.int .i64 a0_2,AV.ro KI a0_3,AV.ro MoK a0_4,AV.int .i64 a0_0,AV.nils,AV.int .i64 (↑(cntI a0_4):Int),AV.mp 1],Blk.map true false (CK.pair KI (CK.pair KI KI)) KI (bodyMap a0_4 0 0 [])] a0_3 a1)).2.1,AV.int .i64 0],heap:=[Blk.row 0 3 KI (stepM (zOf [Blk.cells [AV.int .i64 a0_0,AV.int .i64 a0_1,AV.int .i64 a0_2,AV.ro KI a0_3,AV.ro MoK a0_4,AV.int .i64 a0_0,AV.nils,AV.int .i64 (↑(cntI a0_4):Int),AV.mp 1],Blk.map true false (CK.pair KI (CK.pair KI KI)) KI (bodyMap a0_4 0 0 [])] a0_3 a1)).1,Blk.row 0 50 MoK a0_4]} else BR else BR else BR else BR else BR else BR:=by kernel_rfl
noncomputable def oStep_run (F:Nat) (x:CT oStep_K):Res:=runF (cx_oStep F) Tryd.f24 (groupA oStep_sh (enc oStep_K x)) []
theorem oStep_arg (F:Nat) (a0_0 a0_1 a0_2:Int) (a0_3:List Int) (a0_4:List Mo) (a1:Int):oStep_run F (a0_0,a0_1,a0_2,a0_3,a0_4,a1)=runF (cx_oStep F) Tryd.f24 [AV.agg [AV.int .i64 a0_0,AV.int .i64 a0_1,AV.int .i64 a0_2,AV.ro KI a0_3,AV.ro MoK a0_4],AV.int .i64 a1] []:=by kernel_rfl
def oRun_K:CK:=CK.pair KI (CK.pair KI (CK.pair KI (CK.pair KL (CK.pair (CK.slice 50 MoK) KL))))
def oRun_sh:List (Option Nat):=[some 5,none]
def oRun_R:CK:=CK.pair KL (CK.pair KI (CK.pair KI (CK.pair KI (CK.pair KL (CK.pair (CK.slice 50 MoK) KI)))))
def oRun_re:List (Option Nat):=[none,some 5,none]
noncomputable def oRun_L0r (F n:Nat) (s9 s33:List Int) (s34 s35 h0_0 h0_1 h0_2:Int) (h0_3:List Int) (h0_4:List Mo) (h1:List Int) (h2_0 h2_1 h2_2 h3_0 h3_1 h3_2:Int) (h3_3:List Int) (h3_4:List Mo) (h3_5 h3_7:Int) (h4:List Int) (h5:List Mo) (h6:List ((Int×Int×Int)×Int)):Res:=Lp (cx_oRun F) (loopBy (loopsOf (cx_oRun F) (bodyOf Tryd.f15) (endK (cx_oRun F) Tryd.f15)) 9) n {T:=fr 59 [(2,AV.ptr 0 0),(4,AV.sl 1 0 0 none),(5,AV.ptr 2 0),(8,AV.ptr 3 0),(9,AV.ro KI s9),(33,AV.ro KI s33),(34,AV.int .i64 s34),(35,AV.int .i64 s35)],H:=[Blk.cells [AV.int .i64 h0_0,AV.int .i64 h0_1,AV.int .i64 h0_2,AV.ro KI h0_3,AV.ro MoK h0_4],Blk.row 0 3 KI h1,Blk.cells [AV.int .i64 h2_0,AV.int .i64 h2_1,AV.int .i64 h2_2,AV.sl 4 0 0 none,AV.sl 5 0 0 none],Blk.cells [AV.int .i64 h3_0,AV.int .i64 h3_1,AV.int .i64 h3_2,AV.ro KI h3_3,AV.ro MoK h3_4,AV.int .i64 h3_5,AV.nils,AV.int .i64 h3_7,AV.mp 6],Blk.row 0 3 KI h4,Blk.row 0 50 MoK h5,Blk.map true false (CK.pair KI (CK.pair KI KI)) KI h6],ok:=true}
noncomputable def oRun_L0:=Classical.choose (hideE oRun_L0r)
theorem oRun_L0_def:oRun_L0=oRun_L0r:=Classical.choose_spec (hideE oRun_L0r)
theorem oRun_L0_succ (F n:Nat) (s9 s33:List Int) (s34 s35 h0_0 h0_1 h0_2:Int) (h0_3:List Int) (h0_4:List Mo) (h1:List Int) (h2_0 h2_1 h2_2 h3_0 h3_1 h3_2:Int) (h3_3:List Int) (h3_4:List Mo) (h3_5 h3_7:Int) (h4:List Int) (h5:List Mo) (h6:List ((Int×Int×Int)×Int)):oRun_L0 F (n+1) s9 s33 s34 s35 h0_0 h0_1 h0_2 h0_3 h0_4 h1 h2_0 h2_1 h2_2 h3_0 h3_1 h3_2 h3_3 h3_4 h3_5 h3_7 h4 h5 h6=bif decide (s35<s34) then bif decide (0≤s35)&&decide (s35<(s33.length:Int)) then bif Res.ok (stepSpec [AV.ptr 0 0,AV.ro KI s9,AV.int .i64 (nth 0 s33 (Int.toNat s35))] [Blk.cells [AV.int .i64 h3_0,AV.int .i64 h3_1,AV.int .i64 h3_2,AV.ro KI h3_3,AV.ro MoK h3_4,AV.int .i64 h3_5,AV.nils,AV.int .i64 h3_7,AV.mp 1],Blk.map true false (CK.pair KI (CK.pair KI KI)) KI h6]) then bif (stepM (zOf [Blk.cells [AV.int .i64 h3_0,AV.int .i64 h3_1,AV.int .i64 h3_2,AV.ro KI h3_3,AV.ro MoK h3_4,AV.int .i64 h3_5,AV.nils,AV.int .i64 h3_7,AV.mp 1],Blk.map true false (CK.pair KI (CK.pair KI KI)) KI h6] s9 (nth 0 s33 (Int.toNat s35)))).2.2 then {ok:=true,val:=AV.tup [AV.sl 0 0 0 none,AV.agg [AV.int .i64 0,AV.int .i64 0,AV.int .i64 0,AV.sl 1 0 0 none,AV.sl 2 0 0 none],AV.int .i64 53],heap:=[Blk.row 0 3 KI [],Blk.row 0 3 KI [],Blk.row 0 50 MoK []]} else bif Nat.ble 0 (List.length h1)&&decide (Nat.mul (Nat.add (List.length h1) 1) 8≤140737488355328) then oRun_L0 F n (stepM (zOf [Blk.cells [AV.int .i64 h3_0,AV.int .i64 h3_1,AV.int .i64 h3_2,AV.ro KI h3_3,AV.ro MoK h3_4,AV.int .i64 h3_5,AV.nils,AV.int .i64 h3_7,AV.mp 1],Blk.map true false (CK.pair KI (CK.pair KI KI)) KI h6] s9 (nth 0 s33 (Int.toNat s35)))).1 s33 s34 (IntKind.wrap .i64 (s35+1)) h0_0 h0_1 h0_2 h0_3 h0_4 (h1++[(stepM (zOf [Blk.cells [AV.int .i64 h3_0,AV.int .i64 h3_1,AV.int .i64 h3_2,AV.ro KI h3_3,AV.ro MoK h3_4,AV.int .i64 h3_5,AV.nils,AV.int .i64 h3_7,AV.mp 1],Blk.map true false (CK.pair KI (CK.pair KI KI)) KI h6] s9 (nth 0 s33 (Int.toNat s35)))).2.1]) h2_0 h2_1 h2_2 h3_0 h3_1 h3_2 h3_3 h3_4 h3_5 h3_7 h4 h5 h6 else BR else BR else BR else bif decide (Nat.mul (List.length s9) 8≤140737488355328) then bif decide (Nat.mul (List.length h0_4) 32≤140737488355328) then {ok:=true,val:=AV.tup [AV.sl 0 0 0 none,AV.agg [AV.int .i64 h0_0,AV.int .i64 h0_1,AV.int .i64 h0_2,AV.sl 1 0 0 none,AV.sl 2 0 0 none],AV.int .i64 0],heap:=[Blk.row 0 3 KI h1,Blk.row 0 3 KI s9,Blk.row 0 50 MoK h0_4]} else BR else BR:=by rewrite [oRun_L0_def];kernel_rfl
theorem oRun_eq (F:Nat) (a0_0 a0_1 a0_2:Int) (a0_3:List Int) (a0_4:List Mo) (a1:List Int):runF (cx_oRun F) Tryd.f15 [AV.agg [AV.int .i64 a0_0,AV.int .i64 a0_1,AV.int .i64 a0_2,AV.ro KI a0_3,AV.ro MoK a0_4],AV.ro KI a1] []=bif oVOk (a0_0,a0_1,a0_2,a0_3,a0_4) then bif oVM (a0_0,a0_1,a0_2,a0_3,a0_4) !=0 then {ok:=true,val:=AV.tup [AV.sl 0 0 0 none,AV.agg [AV.int .i64 0,AV.int .i64 0,AV.int .i64 0,AV.sl 1 0 0 none,AV.sl 2 0 0 none],AV.int .i64 (oVM (a0_0,a0_1,a0_2,a0_3,a0_4))],heap:=[Blk.row 0 3 KI [],Blk.row 0 3 KI [],Blk.row 0 50 MoK []]} else bif newBodyOk (a0_0,a0_1,a0_2,a0_3,a0_4) then bif inRangeOk (a1,(↑(cntI a0_4):Int)) then bif !inRangeM (a1,(↑(cntI a0_4):Int)) then {ok:=true,val:=AV.tup [AV.sl 0 0 0 none,AV.agg [AV.int .i64 0,AV.int .i64 0,AV.int .i64 0,AV.sl 1 0 0 none,AV.sl 2 0 0 none],AV.int .i64 52],heap:=[Blk.row 0 3 KI [],Blk.row 0 3 KI [],Blk.row 0 50 MoK []]} else oRun_L0 F F a0_3 a1 (a1.length:Int) 0 a0_0 a0_1 a0_2 a0_3 a0_4 [] 0 0 0 a0_0 a0_1 a0_2 a0_3 a0_4 a0_0 (↑(cntI a0_4):Int) [] [] (bodyMap a0_4 0 0 []) else BR else BR else BR:=by rewrite [oRun_L0_def];kernel_rfl
noncomputable def oRun_run (F:Nat) (x:CT oRun_K):Res:=runF (cx_oRun F) Tryd.f15 (groupA oRun_sh (enc oRun_K x)) []
theorem oRun_arg (F:Nat) (a0_0 a0_1 a0_2:Int) (a0_3:List Int) (a0_4:List Mo) (a1:List Int):oRun_run F (a0_0,a0_1,a0_2,a0_3,a0_4,a1)=runF (cx_oRun F) Tryd.f15 [AV.agg [AV.int .i64 a0_0,AV.int .i64 a0_1,AV.int .i64 a0_2,AV.ro KI a0_3,AV.ro MoK a0_4],AV.ro KI a1] []:=by kernel_rfl
theorem ret_stO {a b c t e:Int} {cs:List Int} {ms:List Mo} {r:Res} (h0:r.ok=true) (h1:(valsOf r.val).all isV=true) (h2:∀ws,r.val= .tup ws→ws.length≠1)
  (hh:roVs r=[.agg [.int .i64 a, .int .i64 b, .int .i64 c, .ro (.int .i64) cs, .ro MoK ms], .int .i64 t, .int .i64 e]):Ret oStep_re oStep_R r ((a,b,c,cs,ms,t,e):StO):=by
 refine ⟨h0,h1,?_,?_,?_,?_,h2⟩
 ·rw[hh];rfl
 ·rw[hh];rfl
 ·rw[hh];simp[oStep_R,flatA,cellsA,decOk,nth,isRo,isInt,isB,dropL,width]
 ·rw[hh]
  exact (congrArg (fun (x:List Int)=>((a,b,c,x,asL MoK (.ro MoK ms),t,e):StO)) (asL_ro (.int .i64) cs)).trans (congrArg (fun (x:List Mo)=>((a,b,c,cs,x,t,e):StO)) (asL_ro MoK ms))
def errSR (e:Int):Res:={ok:=true,val:=AV.tup [AV.agg [AV.int .i64 0,AV.int .i64 0,AV.int .i64 0,AV.sl 0 0 0 none,AV.sl 1 0 0 none],AV.int .i64 0,AV.int .i64 e],heap:=[Blk.row 0 3 KI [],Blk.row 0 50 MoK []]}
theorem Ret.errSR {e:Int}:Ret oStep_re oStep_R (errSR e) (errO e):=ret_stO rfl rfl (fun ws h=>by cases h;simp) rfl
def roSR (a b c t e:Int) (cs:List Int) (ms:List Mo):Res:={ok:=true,val:=AV.tup [AV.agg [AV.int .i64 a,AV.int .i64 b,AV.int .i64 c,AV.sl 0 0 0 none,AV.sl 1 0 0 none],AV.int .i64 t,AV.int .i64 e],heap:=[Blk.row 0 3 KI cs,Blk.row 0 50 MoK ms]}
theorem Ret.roSR {a b c t e:Int} {cs:List Int} {ms:List Mo}:Ret oStep_re oStep_R (roSR a b c t e cs ms) ((a,b,c,cs,ms,t,e):StO):=ret_stO rfl rfl (fun ws h=>by cases h;simp) rfl
def oStepOk:LyZ→Bool:=rStepOk
def oStepM:LyZ→StO:=rStepM
def oStepFu:LyZ→Nat:=fun _=>1
def zB (k w h:Int) (cells:List Int) (ms:List Mo) (l:List Int) (word:Int):StZ:=(k,w,h,cells,ms,k,(cntI ms:Nat),bodyMap ms 0 0 [],l,word)
theorem oStep_txt (F:Nat) (k w h:Int) (cells:List Int) (ms:List Mo) (word:Int):runF (cx_oStep F) Tryd.f24 [orgV k w h cells ms,AV.int .i64 word] []=
  bif oVOk (k,w,h,cells,ms) then bif oVM (k,w,h,cells,ms) !=0 then errSR (oVM (k,w,h,cells,ms)) else bif newBodyOk (k,w,h,cells,ms) then bif decide (word<0) then errSR 52 else bif decide (0≤(↑(cntI ms):Int)) then bif decide (word≥shlI .i64 1 (↑(cntI ms):Int)) then errSR 52 else
   bif stepOk (zB k w h cells ms cells word) then bif (stepM (zB k w h cells ms cells word)).2.2 then errSR 53 else bif decide (Nat.mul (stepM (zB k w h cells ms cells word)).1.length 8≤140737488355328) then bif decide (Nat.mul ms.length 32≤140737488355328) then roSR k w h (stepM (zB k w h cells ms cells word)).2.1 0 (stepM (zB k w h cells ms cells word)).1 ms
   else BR else BR else BR else BR else BR else BR:=
 (oStep_eq F k w h cells ms word).trans (by kernel_rfl)
theorem oStep_ret (z:LyZ) (hk:oStepOk z=true):Ret oStep_re oStep_R (oStep_run (oStepFu z) z) (oStepM z):=by
 obtain ⟨k,w,h,cells,ms,word⟩:=z
 have hk':cells.length<9223372036854775807∧ms.length<9223372036854775807:=of_decide_eq_true hk
 have o1:oVOk (k,w,h,cells,ms)=true:=decide_eq_true hk'
 have e:oStep_run 1 (k,w,h,cells,ms,word)=_:=(oStep_arg 1 k w h cells ms word).trans (oStep_txt 1 k w h cells ms word)
 rw[o1] at e
 have g1:∀ {e},Ret oStep_re oStep_R (errSR e) (errO e):=Ret.errSR
 cases hv:organB k w h cells ms with
 |false=>
  rw[show oVM (k,w,h,cells,ms)=50 by simp only[oVM,organM,hv,cond_false]] at e
  refine Ret.of (r':=errSR 50) (e.trans rfl) ?_
  simp only[oStepM,rStepM,hv,Bool.not_false,cond_true]
  exact g1
 | true=>
  have v:=OrgV.of hv
  have g:=v.good
  have hf:=v.few
  have hl:=v.len
  obtain ⟨hw,hh,hc,_,_,_,_⟩:=orgG_spec g
  have hlen:w*h≤24*24:=Int.mul_le_mul hw.2 hh.2 (by omega) (by omega)
  rw[show oVM (k,w,h,cells,ms)=0 by simp only[oVM,organM,hv,cond_true],show newBodyOk (k,w,h,cells,ms)=true from decide_eq_true (by omega),show stepOk (zB k w h cells ms cells word)=true from stepOk_of g ..,show decide (0≤((cntI ms:Nat):Int))=true from decide_eq_true (by omega),
   show stepM (zB k w h cells ms cells word)=_ from stepM_eq v cells _ word,decide_eq_true (show Nat.mul (nextC k w h ms cells word).length 8≤140737488355328 from by rw[nextC_len];show cells.length*8≤_;omega),decide_eq_true (show Nat.mul ms.length 32≤140737488355328 from by show ms.length*32≤_;omega)] at e
  simp only[oStepM,rStepM,hv,Bool.not_true,cond_false,fineB,steppedM_eq]
  simp only[show ((0:Int) !=0)=false from rfl,cond_true,cond_false,ge_iff_le] at e
  revert e
  by_cases c1:word<0
  ·simp only[c1,decide_true,cond_true,show ¬0≤word by omega,decide_false,Bool.false_and,Bool.not_false]
   exact fun e=>Ret.of e g1
  ·by_cases c2:shlI .i64 1 ((cntI ms:Nat):Int)≤word
   ·simp only[c1,c2,decide_true,decide_false,cond_true,cond_false,show 0≤word by omega,show ¬word<shlI .i64 1 ((cntI ms:Nat):Int) by omega,Bool.true_and,Bool.not_false]
    exact fun e=>Ret.of e g1
   ·simp only[c1,c2,decide_true,decide_false,cond_true,cond_false,show 0≤word by omega,show word<shlI .i64 1 ((cntI ms:Nat):Int) by omega,Bool.and_self,Bool.not_true]
    cases stOk k w h ms cells word with
    |false=>exact fun e=>Ret.of e g1
    |true=>exact fun e=>Ret.of e Ret.roSR
def runR (told:List Int) (k w h:Int) (cs:List Int) (ms:List Mo):Res:={ok:=true,val:=AV.tup [AV.sl 0 0 0 none,AV.agg [AV.int .i64 k,AV.int .i64 w,AV.int .i64 h,AV.sl 1 0 0 none,AV.sl 2 0 0 none],AV.int .i64 0],heap:=[Blk.row 0 3 KI told,Blk.row 0 3 KI cs,Blk.row 0 50 MoK ms]}
def errUR (e:Int):Res:={ok:=true,val:=AV.tup [AV.sl 0 0 0 none,AV.agg [AV.int .i64 0,AV.int .i64 0,AV.int .i64 0,AV.sl 1 0 0 none,AV.sl 2 0 0 none],AV.int .i64 e],heap:=[Blk.row 0 3 KI [],Blk.row 0 3 KI [],Blk.row 0 50 MoK []]}
theorem ret_ru {t:List Int} {a b c e:Int} {cs:List Int} {ms:List Mo} {r:Res} (h0:r.ok=true) (h1:(valsOf r.val).all isV=true) (h2:∀ws,r.val= .tup ws→ws.length≠1)
  (hh:roVs r=[.ro (.int .i64) t, .agg [.int .i64 a, .int .i64 b, .int .i64 c, .ro (.int .i64) cs, .ro MoK ms], .int .i64 e]):Ret oRun_re oRun_R r ((t,a,b,c,cs,ms,e):RunO):=by
 refine ⟨h0,h1,?_,?_,?_,?_,h2⟩
 ·rw[hh];rfl
 ·rw[hh];rfl
 ·rw[hh];simp[oRun_R,flatA,cellsA,decOk,nth,isRo,isInt,isB,dropL,width]
 ·rw[hh]
  exact ((congrArg (fun (x:List Int)=>((x,a,b,c,asL (.int .i64) (.ro (.int .i64) cs),asL MoK (.ro MoK ms),e):RunO)) (asL_ro (.int .i64) t)).trans (congrArg (fun (x:List Int)=>((t,a,b,c,x,asL MoK (.ro MoK ms),e):RunO)) (asL_ro (.int .i64) cs))).trans (congrArg (fun (x:List Mo)=>((t,a,b,c,cs,x,e):RunO)) (asL_ro MoK ms))
theorem Ret.runR {t:List Int} {k w h:Int} {cs:List Int} {ms:List Mo}:Ret oRun_re oRun_R (runR t k w h cs ms) ((t,k,w,h,cs,ms,0):RunO):=ret_ru rfl rfl (fun ws h=>by cases h;simp) rfl
theorem Ret.errUR {e:Int}:Ret oRun_re oRun_R (errUR e) (errU e):=ret_ru rfl rfl (fun ws h=>by cases h;simp) rfl
def runOf (k w h:Int) (ms:List Mo) (q:List Int×List Int×Bool):Res:=bif q.2.2 then runR q.1 k w h q.2.1 ms else errUR 53
def rRunOk:RuZ→Bool:=fun (k,w,h,cells,ms,l)=>decide (cells.length<big∧ms.length<big∧l.length<big)
theorem oRun_txt (F n:Nat) (l s:List Int) (len i k w h:Int) (cells:List Int) (ms:List Mo) (told:List Int) (x y z:Int) (d1:List Int) (d2:List Mo):oRun_L0 F (n+1) l s len i k w h cells ms told x y z k w h cells ms k (cntI ms:Nat) d1 d2 (bodyMap ms 0 0 [])=
  bif decide (i<len) then bif decide (0≤i)&&decide (i<(s.length:Int)) then bif stepOk (zB k w h cells ms l (nth 0 s i.toNat)) then bif (stepM (zB k w h cells ms l (nth 0 s i.toNat))).2.2 then errUR 53 else
   bif Nat.ble 0 told.length&&decide (Nat.mul (Nat.add told.length 1) 8≤140737488355328) then oRun_L0 F n (stepM (zB k w h cells ms l (nth 0 s i.toNat))).1 s len (IntKind.wrap .i64 (i+1)) k w h cells ms (told++[(stepM (zB k w h cells ms l (nth 0 s i.toNat))).2.1]) x y z k w h cells ms k (cntI ms:Nat) d1 d2 (bodyMap ms 0 0 [])
   else BR else BR else BR
  else bif decide (Nat.mul l.length 8≤140737488355328) then bif decide (Nat.mul ms.length 32≤140737488355328) then runR told k w h l ms else BR else BR:=
 (oRun_L0_succ ..).trans (by kernel_rfl)
theorem oRun_L0_spec (F:Nat) {s:List Int} {k w h:Int} {c0:List Int} {ms:List Mo} {x y z:Int} {d1 d2:_} (hl:s.length≤4096):∀(j n i:Nat) (cells told:List Int),i+j=s.length→j<n→OrgV k w h cells ms→told.length=i→
  oRun_L0 F n cells s s.length i k w h c0 ms told x y z k w h c0 ms k (cntI ms:Nat) d1 d2 (bodyMap ms 0 0 [])=runOf k w h ms (runL k w h ms (s.drop i) cells told)
 |j,0,i,_,_,_,h,_,_=>by omega
 |0,n+1,i,cells,told,hi,_,v,_=>by
  have hl:=v.len
  obtain ⟨hw,hh,hc,_,_,_,_⟩:=orgG_spec v.good
  have hlen:w*h≤24*24:=Int.mul_le_mul hw.2 hh.2 (by omega) (by omega)
  rw[oRun_txt,drop_len s (by omega),decide_eq_true (show Nat.mul cells.length 8≤140737488355328 from by show cells.length*8≤_;omega),decide_eq_true (show Nat.mul ms.length 32≤140737488355328 from by show ms.length*32≤_;omega)]
  simp only[show ¬((i:Int)<s.length) by omega,decide_false,cond_false,runL]
  rfl
 |j+1,n+1,i,cells,told,hi,hn,v,ht=>by
  rw[oRun_txt,wrap_succ (i:=i) (by omega),drop_nth 0 s (show i<s.length by omega),Int.toNat_natCast,show stepOk (zB k w h c0 ms cells (nth 0 s i))=true from stepOk_of v.good ..,show stepM (zB k w h c0 ms cells (nth 0 s i))=_ from stepM_eq v c0 _ _]
  simp only[show (i:Int)<s.length by omega,show (0:Int)≤i by omega,decide_true,Bool.and_self,cond_true,nble,Nat.zero_le,Bool.true_and,runL]
  rw[decide_eq_true (show Nat.mul (Nat.add told.length 1) 8≤140737488355328 from by show (told.length+1)*8≤_;omega)]
  cases ho:stOk k w h ms cells (nth 0 s i) with
  |false=>rfl
  |true=>exact oRun_L0_spec F hl j n (i+1) (nextC k w h ms cells (nth 0 s i)) (told++[toldL w cells ms 0 0]) (by omega) (by omega) (v.step ho) (by simp;omega)
def oRunOk:RuZ→Bool:=rRunOk
def oRunM:RuZ→RunO:=runM
def oRunFu:RuZ→Nat:=fun (k,w,h,cells,ms,l)=>l.length+1
theorem oRun_ret (z:RuZ) (hk:oRunOk z=true):Ret oRun_re oRun_R (oRun_run (oRunFu z) z) (oRunM z):=by
 obtain ⟨k,w,h,cells,ms,l⟩:=z
 have hk':rRunOk (k,w,h,cells,ms,l)=true:=hk
 simp only[rRunOk,decide_eq_true_eq] at hk'
 have o1:oVOk (k,w,h,cells,ms)=true:=decide_eq_true ⟨hk'.1,hk'.2.1⟩
 have e:=(oRun_arg (l.length+1) k w h cells ms l).trans (oRun_eq (l.length+1) k w h cells ms l)
 rw[o1] at e
 show Ret oRun_re oRun_R (oRun_run (l.length+1) (k,w,h,cells,ms,l)) (runM (k,w,h,cells,ms,l))
 have g1:∀ {e},Ret oRun_re oRun_R (errUR e) (errU e):=Ret.errUR
 cases hv:organB k w h cells ms with
 |false=>
  rw[show oVM (k,w,h,cells,ms)=50 by simp only[oVM,organM,hv,cond_false]] at e
  refine Ret.of (r':=errUR 50) (e.trans rfl) ?_
  simp only[runM,hv,Bool.not_false,cond_true]
  exact g1
 | true=>
  have v:=OrgV.of hv
  have g:=v.good
  have hf:=v.few
  have hl:=v.len
  rw[show oVM (k,w,h,cells,ms)=0 by simp only[oVM,organM,hv,cond_true],show newBodyOk (k,w,h,cells,ms)=true from decide_eq_true (by omega),show inRangeOk (l,((cntI ms:Nat):Int))=true from decide_eq_true (by have:=hk'.2.2;exact ⟨by omega,by omega,this⟩)] at e
  simp only[runM,hv,Bool.not_true,cond_false]
  simp only[show ((0:Int) !=0)=false from rfl,cond_true,cond_false,inRangeM] at e
  cases hs:l.all (fineB ((cntI ms:Nat):Int))&&decide ((l.length:Int)≤4096) with
  |false=>rw[hs] at e;exact Ret.of (r':=errUR 52) (e.trans rfl) g1
  |true=>
   rw[hs] at e
   simp only[Bool.and_eq_true,decide_eq_true_eq] at hs
   have sp:=oRun_L0_spec (l.length+1) (s:=l) (k:=k) (w:=w) (h:=h) (c0:=cells) (ms:=ms) (x:=0) (y:=0) (z:=0) (d1:=[]) (d2:=[]) (by omega) l.length (l.length+1) 0 cells [] (by omega) (by omega) v rfl
   rw[List.drop_zero] at sp
   have e2:oRun_run (l.length+1) (k,w,h,cells,ms,l)=runOf k w h ms (runL k w h ms l cells []):=e.trans sp
   simp only[Bool.not_true,cond_false]
   refine Ret.of e2 ?_
   simp only[runOf]
   cases (runL k w h ms l cells []).2.2
   ·exact g1
   ·exact Ret.runR
noncomputable def tbSUL_1:=addC 24 (tspec oStep_sh oStep_K oStep_re oStep_R oStepOk oStepM) tbSU
theorem tabSUL_1:Tab Tryd.prog tbSUL_1 cxMd tbKSU:=Tab.addTy (os:=[]) tabSU tabSU (KK:=oStep_K) (R:=oStep_R) (fn:=Tryd.f24) (by kernel_rfl) (by kernel_rfl) (by kernel_rfl) (by kernel_rfl) _ oStepFu oStep_ret
noncomputable def tbSUL_2:=addC 15 (tspec oRun_sh oRun_K oRun_re oRun_R oRunOk oRunM) tbSUL_1
theorem tabSUL_2:Tab Tryd.prog tbSUL_2 cxMd tbKSU:=Tab.addTy (os:=[]) tabSUL_1 tabSU (KK:=oRun_K) (R:=oRun_R) (fn:=Tryd.f15) (by kernel_rfl) (by kernel_rfl) (by kernel_rfl) (by kernel_rfl) _ oRunFu oRun_ret
noncomputable def tbSUB:=tbSUL_2
noncomputable def tbKSUB:KT:=tbKSU
theorem tabSUB:Tab Tryd.prog tbSUB cxMd tbKSUB:=tabSUL_2
end Go.Proofs.YtiglikocfjhkcaaDoor
