/- What Check and Prove ask first; situations: form, keys, what one leads to. -/
import Derived.Test.YtiglikocfjhkcaaGreatDoorTAL
import Derived.Test.YtiglikocfjhkcaaGreatDoorProg
import Derived.KernelRfl
import Derived.Test.YtiglikocfjhkcaaGreatDoorA27
set_option linter.all false
set_option linter.unusedVariables false
set_option linter.unusedSimpArgs false
open Go Go.Abs Go.Proofs
namespace Go.Proofs.YtiglikocfjhkcaaGreatDoor
noncomputable def tbTB_1:=addC 57 (inl Tryz.prog tbTAB cxMd tbKTAB Tryz.f57) tbTAB
noncomputable def tbKTB_1:KT:=addK 57 (inlK Tryz.prog tbTAB cxMd tbKTAB Tryz.f57) tbKTAB
theorem tabTB_1:Tab Tryz.prog tbTB_1 cxMd tbKTB_1:=Tab.addInl tabTAB tabTAB (fn:=Tryz.f57) (by kernel_rfl) (by kernel_rfl) (by kernel_rfl)
noncomputable def tbTB_2:=addC 59 (inl Tryz.prog tbTB_1 cxMd tbKTB_1 Tryz.f59) tbTB_1
noncomputable def tbKTB_2:KT:=addK 59 (inlK Tryz.prog tbTB_1 cxMd tbKTB_1 Tryz.f59) tbKTB_1
theorem tabTB_2:Tab Tryz.prog tbTB_2 cxMd tbKTB_2:=Tab.addInl tabTB_1 tabTB_1 (fn:=Tryz.f59) (by kernel_rfl) (by kernel_rfl) (by kernel_rfl)
noncomputable def tbTB:=tbTB_2
noncomputable def tbKTB:KT:=tbKTB_2
theorem tabTB:Tab Tryz.prog tbTB cxMd tbKTB:=tabTB_2
noncomputable def cx_oFits (F:Nat):Cx:={P:=Tryz.prog,C:=tbTB,K:=tbKTB,mode:=cxMd,fuel:=F,live:=liveTab [],pin:=0,nx:=true}
noncomputable def cx_rAsked (F:Nat):Cx:={P:=Tryz.prog,C:=tbTB,K:=tbKTB,mode:=cxMd,fuel:=F,live:=liveTab [],pin:=0,nx:=true}
noncomputable def cx_form (F:Nat):Cx:={P:=Tryz.prog,C:=tbTB,K:=tbKTB,mode:=cxMd,fuel:=F,live:=liveTab [(5,[38,37,4,39])],pin:=0,nx:=true}
noncomputable def cx_formed (F:Nat):Cx:={P:=Tryz.prog,C:=tbTB,K:=tbKTB,mode:=cxMd,fuel:=F,live:=liveTab [(4,[5,4,7])],pin:=0,nx:=true}
noncomputable def cx_keyOf (F:Nat):Cx:={P:=Tryz.prog,C:=tbTB,K:=tbKTB,mode:=cxMd,fuel:=F,live:=liveTab [],pin:=0,nx:=true}
noncomputable def cx_leadsTo (F:Nat):Cx:={P:=Tryz.prog,C:=tbTB,K:=tbKTB,mode:=cxMd,fuel:=F,live:=liveTab [],pin:=0,nx:=true}
noncomputable def cx_lead (F:Nat):Cx:={P:=Tryz.prog,C:=tbTB,K:=tbKTB,mode:=cxMd,fuel:=F,live:=liveTab [],pin:=2}
def oFits_K:CK:=CK.pair KI (CK.pair KI (CK.pair KI (CK.pair KL (CK.pair (CK.slice 66 MoK) (CK.pair KI (CK.pair KI (CK.pair KI (CK.pair (CK.slice 22 KL) (CK.pair (CK.slice 22 KL) (CK.slice 79 (CK.slice 4 CK.bool)))))))))))
def oFits_sh:List (Option Nat):=[some 5,some 6]
def oFits_R:CK:=CK.int .i64
def oFits_re:List (Option Nat):=[none]
theorem oFits_eq (F:Nat) (a0_0 a0_1 a0_2:Int) (a0_3:List Int) (a0_4:List Mo) (a1_0 a1_1 a1_2:Int) (a1_3 a1_4:List (List Int)) (a1_5:List (List Bool)):runF (cx_oFits F) Tryz.f36 [AV.agg [AV.int .i64 a0_0,AV.int .i64 a0_1,AV.int .i64 a0_2,AV.ro KI a0_3,AV.ro MoK a0_4],AV.agg [AV.int .i64 a1_0,AV.int .i64 a1_1,AV.int .i64 a1_2,AV.ro KL a1_3,AV.ro KL a1_4,AV.ro (CK.slice 4 CK.bool) a1_5]] []=bif oVOk (a0_0,a0_1,a0_2,a0_3,a0_4) then bif oVM (a0_0,a0_1,a0_2,a0_3,a0_4) !=0 then {ok:=true,val:=AV.int .i64 (oVM (a0_0,a0_1,a0_2,a0_3,a0_4))} else bif oVCM (a1_0,a1_1,a1_2,a1_3,a1_4,a1_5) !=0 then {ok:=true,val:=AV.int .i64 (oVCM (a1_0,a1_1,a1_2,a1_3,a1_4,a1_5))} else bif oCountsOk (a0_0,a0_1,a0_2,a0_3,a0_4) then bif (oCountsM (a0_0,a0_1,a0_2,a0_3,a0_4)).1 !=a1_0 then {ok:=true,val:=AV.int .i64 51} else bif (oCountsM (a0_0,a0_1,a0_2,a0_3,a0_4)).2 !=a1_1 then {ok:=true,val:=AV.int .i64 51} else {ok:=true,val:=AV.int .i64 0} else BR else BR:=by kernel_rfl
noncomputable def oFits_run (F:Nat) (x:CT oFits_K):Res:=runF (cx_oFits F) Tryz.f36 (groupA oFits_sh (enc oFits_K x)) []
theorem oFits_arg (F:Nat) (a0_0 a0_1 a0_2:Int) (a0_3:List Int) (a0_4:List Mo) (a1_0 a1_1 a1_2:Int) (a1_3 a1_4:List (List Int)) (a1_5:List (List Bool)):oFits_run F (a0_0,a0_1,a0_2,a0_3,a0_4,a1_0,a1_1,a1_2,a1_3,a1_4,a1_5)=runF (cx_oFits F) Tryz.f36 [AV.agg [AV.int .i64 a0_0,AV.int .i64 a0_1,AV.int .i64 a0_2,AV.ro KI a0_3,AV.ro MoK a0_4],AV.agg [AV.int .i64 a1_0,AV.int .i64 a1_1,AV.int .i64 a1_2,AV.ro KL a1_3,AV.ro KL a1_4,AV.ro (CK.slice 4 CK.bool) a1_5]] []:=by kernel_rfl
def rAsked_K:CK:=CK.pair KI (CK.pair KI (CK.pair KI (CK.pair KL (CK.pair (CK.slice 66 MoK) (CK.pair KI (CK.pair KI (CK.pair KI (CK.pair (CK.slice 22 KL) (CK.pair (CK.slice 22 KL) (CK.slice 79 (CK.slice 4 CK.bool)))))))))))
def rAsked_sh:List (Option Nat):=[some 5,some 6]
def rAsked_R:CK:=CK.int .i64
def rAsked_re:List (Option Nat):=[none]
theorem rAsked_eq (F:Nat) (a0_0 a0_1 a0_2:Int) (a0_3:List Int) (a0_4:List Mo) (a1_0 a1_1 a1_2:Int) (a1_3 a1_4:List (List Int)) (a1_5:List (List Bool)):runF (cx_rAsked F) Tryz.f29 [AV.agg [AV.int .i64 a0_0,AV.int .i64 a0_1,AV.int .i64 a0_2,AV.ro KI a0_3,AV.ro MoK a0_4],AV.agg [AV.int .i64 a1_0,AV.int .i64 a1_1,AV.int .i64 a1_2,AV.ro KL a1_3,AV.ro KL a1_4,AV.ro (CK.slice 4 CK.bool) a1_5]] []=bif rVOk (a0_0,a0_1,a0_2,a0_3,a0_4) then bif rVM (a0_0,a0_1,a0_2,a0_3,a0_4) !=0 then {ok:=true,val:=AV.int .i64 (rVM (a0_0,a0_1,a0_2,a0_3,a0_4))} else bif rVCM (a1_0,a1_1,a1_2,a1_3,a1_4,a1_5) !=0 then {ok:=true,val:=AV.int .i64 (rVCM (a1_0,a1_1,a1_2,a1_3,a1_4,a1_5))} else bif mouthsOk (a0_0,a0_1,a0_2,a0_3,a0_4) then bif decide (a1_0=(mouthsM (a0_0,a0_1,a0_2,a0_3,a0_4)).1) then bif !decide (a1_1=(mouthsM (a0_0,a0_1,a0_2,a0_3,a0_4)).2) then {ok:=true,val:=AV.int .i64 51} else {ok:=true,val:=AV.int .i64 0} else {ok:=true,val:=AV.int .i64 51} else BR else BR:=by kernel_rfl
noncomputable def rAsked_run (F:Nat) (x:CT rAsked_K):Res:=runF (cx_rAsked F) Tryz.f29 (groupA rAsked_sh (enc rAsked_K x)) []
theorem rAsked_arg (F:Nat) (a0_0 a0_1 a0_2:Int) (a0_3:List Int) (a0_4:List Mo) (a1_0 a1_1 a1_2:Int) (a1_3 a1_4:List (List Int)) (a1_5:List (List Bool)):rAsked_run F (a0_0,a0_1,a0_2,a0_3,a0_4,a1_0,a1_1,a1_2,a1_3,a1_4,a1_5)=runF (cx_rAsked F) Tryz.f29 [AV.agg [AV.int .i64 a0_0,AV.int .i64 a0_1,AV.int .i64 a0_2,AV.ro KI a0_3,AV.ro MoK a0_4],AV.agg [AV.int .i64 a1_0,AV.int .i64 a1_1,AV.int .i64 a1_2,AV.ro KL a1_3,AV.ro KL a1_4,AV.ro (CK.slice 4 CK.bool) a1_5]] []:=by kernel_rfl
def form_K:CK:=CK.pair KI (CK.pair KI (CK.pair KI (CK.pair KL (CK.pair (CK.slice 66 MoK) (CK.pair KI (CK.pair KI (CK.pair KI (CK.pair (CK.slice 22 KL) (CK.pair (CK.slice 22 KL) (CK.pair (CK.slice 79 (CK.slice 4 CK.bool)) (CK.pair KL (CK.pair KI KL))))))))))))
def form_sh:List (Option Nat):=[some 5,some 6,some 3]
def form_R:CK:=CK.bool
def form_re:List (Option Nat):=[none]
noncomputable def form_L0r (F n:Nat) (s37:List Int) (s38 s39 h0_0 h0_1 h0_2:Int) (h0_3 h0_4:List (List Int)) (h0_5:List (List Bool)):Res:=Lp (cx_form F) (loopBy (loopsOf (cx_form F) (bodyOf Tryz.f42) (endK (cx_form F) Tryz.f42)) 5) n {T:=fr 53 [(4,AV.ptr 0 0),(37,AV.ro KI s37),(38,AV.int .i64 s38),(39,AV.int .i64 s39)],H:=[Blk.cells [AV.int .i64 h0_0,AV.int .i64 h0_1,AV.int .i64 h0_2,AV.ro KL h0_3,AV.ro KL h0_4,AV.ro (CK.slice 4 CK.bool) h0_5]],ok:=true}
noncomputable def form_L0:=Classical.choose (hideE form_L0r)
theorem form_L0_def:form_L0=form_L0r:=Classical.choose_spec (hideE form_L0r)
theorem form_L0_succ (F n:Nat) (s37:List Int) (s38 s39 h0_0 h0_1 h0_2:Int) (h0_3 h0_4:List (List Int)) (h0_5:List (List Bool)):form_L0 F (n+1) s37 s38 s39 h0_0 h0_1 h0_2 h0_3 h0_4 h0_5=bif decide (s39<s38) then bif decide (0≤s39)&&decide (s39<(s37.length:Int)) then bif decide (nth 0 s37 (Int.toNat s39)<0) then {ok:=true,val:=AV.bool false} else bif decide (0≤h0_1) then bif decide (nth 0 s37 (Int.toNat s39)≥shlI .i64 1 h0_1) then {ok:=true,val:=AV.bool false} else form_L0 F n s37 s38 (IntKind.wrap .i64 (s39+1)) h0_0 h0_1 h0_2 h0_3 h0_4 h0_5 else BR else BR else {ok:=true,val:=AV.bool true}:=by rewrite [form_L0_def];kernel_rfl
theorem form_eq (F:Nat) (a0_0 a0_1 a0_2:Int) (a0_3:List Int) (a0_4:List Mo) (a1_0 a1_1 a1_2:Int) (a1_3 a1_4:List (List Int)) (a1_5:List (List Bool)) (a2_0:List Int) (a2_1:Int) (a2_2:List Int):runF (cx_form F) Tryz.f42 [AV.agg [AV.int .i64 a0_0,AV.int .i64 a0_1,AV.int .i64 a0_2,AV.ro KI a0_3,AV.ro MoK a0_4],AV.agg [AV.int .i64 a1_0,AV.int .i64 a1_1,AV.int .i64 a1_2,AV.ro KL a1_3,AV.ro KL a1_4,AV.ro (CK.slice 4 CK.bool) a1_5],AV.agg [AV.ro KI a2_0,AV.int .i64 a2_1,AV.ro KI a2_2]] []=bif oVOk (a0_0,a0_1,a0_2,a2_0,a0_4) then bif oVM (a0_0,a0_1,a0_2,a2_0,a0_4) !=0 then {ok:=true,val:=AV.bool false} else bif decide (a2_1<0) then {ok:=true,val:=AV.bool false} else bif decide (a2_1≥(a1_3.length:Int)) then {ok:=true,val:=AV.bool false} else bif (a2_2.length:Int) !=a1_2 then {ok:=true,val:=AV.bool false} else form_L0 F F a2_2 (a2_2.length:Int) 0 a1_0 a1_1 a1_2 a1_3 a1_4 a1_5 else BR:=by rewrite [form_L0_def];kernel_rfl
noncomputable def form_run (F:Nat) (x:CT form_K):Res:=runF (cx_form F) Tryz.f42 (groupA form_sh (enc form_K x)) []
theorem form_arg (F:Nat) (a0_0 a0_1 a0_2:Int) (a0_3:List Int) (a0_4:List Mo) (a1_0 a1_1 a1_2:Int) (a1_3 a1_4:List (List Int)) (a1_5:List (List Bool)) (a2_0:List Int) (a2_1:Int) (a2_2:List Int):form_run F (a0_0,a0_1,a0_2,a0_3,a0_4,a1_0,a1_1,a1_2,a1_3,a1_4,a1_5,a2_0,a2_1,a2_2)=runF (cx_form F) Tryz.f42 [AV.agg [AV.int .i64 a0_0,AV.int .i64 a0_1,AV.int .i64 a0_2,AV.ro KI a0_3,AV.ro MoK a0_4],AV.agg [AV.int .i64 a1_0,AV.int .i64 a1_1,AV.int .i64 a1_2,AV.ro KL a1_3,AV.ro KL a1_4,AV.ro (CK.slice 4 CK.bool) a1_5],AV.agg [AV.ro KI a2_0,AV.int .i64 a2_1,AV.ro KI a2_2]] []:=by kernel_rfl
def formed_K:CK:=CK.pair KI (CK.pair KI (CK.pair KI (CK.pair KL (CK.pair (CK.slice 66 MoK) (CK.pair KI (CK.pair KI (CK.pair KI (CK.pair (CK.slice 22 KL) (CK.pair (CK.slice 22 KL) (CK.pair (CK.slice 79 (CK.slice 4 CK.bool)) (CK.pair KL (CK.pair KI KL))))))))))))
def formed_sh:List (Option Nat):=[some 5,some 6,some 3]
def formed_R:CK:=CK.bool
def formed_re:List (Option Nat):=[none]
noncomputable def formed_L0r (F n:Nat) (s7 h0_0 h0_1 h0_2:Int) (h0_3 h0_4:List (List Int)) (h0_5:List (List Bool)) (h1_0:List Int) (h1_1:Int) (h1_2:List Int):Res:=Lp (cx_formed F) (loopBy (loopsOf (cx_formed F) (bodyOf Tryz.f41) (endK (cx_formed F) Tryz.f41)) 4) n {T:=fr 51 [(4,AV.ptr 0 0),(5,AV.ptr 1 0),(7,AV.int .i64 s7)],H:=[Blk.cells [AV.int .i64 h0_0,AV.int .i64 h0_1,AV.int .i64 h0_2,AV.ro KL h0_3,AV.ro KL h0_4,AV.ro (CK.slice 4 CK.bool) h0_5],Blk.cells [AV.ro KI h1_0,AV.int .i64 h1_1,AV.ro KI h1_2]],ok:=true}
noncomputable def formed_L0:=Classical.choose (hideE formed_L0r)
theorem formed_L0_def:formed_L0=formed_L0r:=Classical.choose_spec (hideE formed_L0r)
theorem formed_L0_succ (F n:Nat) (s7 h0_0 h0_1 h0_2:Int) (h0_3 h0_4:List (List Int)) (h0_5:List (List Bool)) (h1_0:List Int) (h1_1:Int) (h1_2:List Int):formed_L0 F (n+1) s7 h0_0 h0_1 h0_2 h0_3 h0_4 h0_5 h1_0 h1_1 h1_2=bif decide (s7<(h1_2.length:Int)) then bif decide (0≤s7)&&decide (s7<(h1_2.length:Int)) then bif decide (nth 0 h1_2 (Int.toNat s7)≥0) then bif decide (0≤IntKind.wrap .u64 h0_1) then bif !decide (nth 0 h1_2 (Int.toNat s7)<shlI .i64 1 (IntKind.wrap .u64 h0_1)) then {ok:=true,val:=AV.bool false} else formed_L0 F n (IntKind.wrap .i64 (s7+1)) h0_0 h0_1 h0_2 h0_3 h0_4 h0_5 h1_0 h1_1 h1_2 else BR else {ok:=true,val:=AV.bool false} else BR else {ok:=true,val:=AV.bool true}:=by rewrite [formed_L0_def];kernel_rfl
theorem formed_eq (F:Nat) (a0_0 a0_1 a0_2:Int) (a0_3:List Int) (a0_4:List Mo) (a1_0 a1_1 a1_2:Int) (a1_3 a1_4:List (List Int)) (a1_5:List (List Bool)) (a2_0:List Int) (a2_1:Int) (a2_2:List Int):runF (cx_formed F) Tryz.f41 [AV.agg [AV.int .i64 a0_0,AV.int .i64 a0_1,AV.int .i64 a0_2,AV.ro KI a0_3,AV.ro MoK a0_4],AV.agg [AV.int .i64 a1_0,AV.int .i64 a1_1,AV.int .i64 a1_2,AV.ro KL a1_3,AV.ro KL a1_4,AV.ro (CK.slice 4 CK.bool) a1_5],AV.agg [AV.ro KI a2_0,AV.int .i64 a2_1,AV.ro KI a2_2]] []=bif rVOk (a0_0,a0_1,a0_2,a2_0,a0_4) then bif rVM (a0_0,a0_1,a0_2,a2_0,a0_4) !=0 then {ok:=true,val:=AV.bool false} else bif decide (a2_1<0) then {ok:=true,val:=AV.bool false} else bif decide (a2_1≥(a1_3.length:Int)) then {ok:=true,val:=AV.bool false} else bif (a2_2.length:Int) !=a1_2 then {ok:=true,val:=AV.bool false} else formed_L0 F F 0 a1_0 a1_1 a1_2 a1_3 a1_4 a1_5 a2_0 a2_1 a2_2 else BR:=by rewrite [formed_L0_def];kernel_rfl
noncomputable def formed_run (F:Nat) (x:CT formed_K):Res:=runF (cx_formed F) Tryz.f41 (groupA formed_sh (enc formed_K x)) []
theorem formed_arg (F:Nat) (a0_0 a0_1 a0_2:Int) (a0_3:List Int) (a0_4:List Mo) (a1_0 a1_1 a1_2:Int) (a1_3 a1_4:List (List Int)) (a1_5:List (List Bool)) (a2_0:List Int) (a2_1:Int) (a2_2:List Int):formed_run F (a0_0,a0_1,a0_2,a0_3,a0_4,a1_0,a1_1,a1_2,a1_3,a1_4,a1_5,a2_0,a2_1,a2_2)=runF (cx_formed F) Tryz.f41 [AV.agg [AV.int .i64 a0_0,AV.int .i64 a0_1,AV.int .i64 a0_2,AV.ro KI a0_3,AV.ro MoK a0_4],AV.agg [AV.int .i64 a1_0,AV.int .i64 a1_1,AV.int .i64 a1_2,AV.ro KL a1_3,AV.ro KL a1_4,AV.ro (CK.slice 4 CK.bool) a1_5],AV.agg [AV.ro KI a2_0,AV.int .i64 a2_1,AV.ro KI a2_2]] []:=by kernel_rfl
def keyOf_K:CK:=CK.pair KL (CK.pair KI KL)
def keyOf_sh:List (Option Nat):=[some 3]
def keyOf_R:CK:=CK.pair CK.str (CK.pair CK.str KI)
def keyOf_re:List (Option Nat):=[some 3]
theorem keyOf_eq (F:Nat) (a0_0:List Int) (a0_1:Int) (a0_2:List Int):runF (cx_keyOf F) Tryz.f38 [AV.agg [AV.ro KI a0_0,AV.int .i64 a0_1,AV.ro KI a0_2]] []=bif packOk a0_0 then bif packOk a0_2 then {ok:=true,val:=AV.agg [AV.str (packM a0_0),AV.str (packM a0_2),AV.int .i64 a0_1]} else BR else BR:=by kernel_rfl
noncomputable def keyOf_run (F:Nat) (x:CT keyOf_K):Res:=runF (cx_keyOf F) Tryz.f38 (groupA keyOf_sh (enc keyOf_K x)) []
theorem keyOf_arg (F:Nat) (a0_0:List Int) (a0_1:Int) (a0_2:List Int):keyOf_run F (a0_0,a0_1,a0_2)=runF (cx_keyOf F) Tryz.f38 [AV.agg [AV.ro KI a0_0,AV.int .i64 a0_1,AV.ro KI a0_2]] []:=by kernel_rfl
def leadsTo_K:CK:=CK.pair KI (CK.pair KI (CK.pair KI (CK.pair KL (CK.pair (CK.slice 66 MoK) (CK.pair KI (CK.pair KI (CK.pair KI (CK.pair (CK.slice 22 KL) (CK.pair (CK.slice 22 KL) (CK.pair (CK.slice 79 (CK.slice 4 CK.bool)) (CK.pair KL (CK.pair KI (CK.pair KL KI)))))))))))))
def leadsTo_sh:List (Option Nat):=[some 5,some 6,some 3,none]
def leadsTo_R:CK:=CK.pair KL (CK.pair KI (CK.pair KL CK.bool))
def leadsTo_re:List (Option Nat):=[some 3,none]
theorem leadsTo_eq (F:Nat) (a0_0 a0_1 a0_2:Int) (a0_3:List Int) (a0_4:List Mo) (a1_0 a1_1 a1_2:Int) (a1_3 a1_4:List (List Int)) (a1_5:List (List Bool)) (a2_0:List Int) (a2_1:Int) (a2_2:List Int) (a3:Int):runF (cx_leadsTo F) Tryz.f33 [AV.agg [AV.int .i64 a0_0,AV.int .i64 a0_1,AV.int .i64 a0_2,AV.ro KI a0_3,AV.ro MoK a0_4],AV.agg [AV.int .i64 a1_0,AV.int .i64 a1_1,AV.int .i64 a1_2,AV.ro KL a1_3,AV.ro KL a1_4,AV.ro (CK.slice 4 CK.bool) a1_5],AV.agg [AV.ro KI a2_0,AV.int .i64 a2_1,AV.ro KI a2_2],AV.int .i64 a3] []=bif saysOk (a0_0,a0_1,a0_2,a2_0,a0_4) then bif decide (0<(a2_2.length:Int)) then bif saysM (a0_0,a0_1,a0_2,a2_0,a0_4) !=nth 0 a2_2 0 then {ok:=true,val:=AV.tup [AV.agg [AV.sl 0 0 0 none,AV.int .i64 0,AV.sl 1 0 0 none],AV.bool false],heap:=[Blk.row 0 3 KI [],Blk.row 0 3 KI []]} else bif steppedOk (a0_0,a0_1,a0_2,a2_0,a0_4,a3) then bif !(steppedM (a0_0,a0_1,a0_2,a2_0,a0_4,a3)).2.2.2.2.2 then {ok:=true,val:=AV.tup [AV.agg [AV.sl 0 0 0 none,AV.int .i64 0,AV.sl 1 0 0 none],AV.bool false],heap:=[Blk.row 0 3 KI [],Blk.row 0 3 KI []]} else bif decide (0≤a2_1)&&decide (a2_1<(a1_3.length:Int)) then bif decide (0≤a3)&&decide (a3<(↑(List.length (nth [] a1_3 (Int.toNat a2_1))):Int)) then bif decide (List.length a2_2≤List.length a2_2)&&decide (1≤List.length a2_2) then bif decide (Nat.mul (Nat.add 0 (List.length (List.drop 1 a2_2))) 8≤140737488355328) then bif decide (0≤a2_1)&&decide (a2_1<(a1_4.length:Int)) then bif decide (0≤a3)&&decide (a3<(↑(List.length (nth [] a1_4 (Int.toNat a2_1))):Int)) then bif Nat.ble 0 (List.length (List.drop 1 a2_2))&&decide (Nat.mul (Nat.add (List.length (List.drop 1 a2_2)) 1) 8≤140737488355328) then {ok:=true,val:=AV.tup [AV.agg [AV.sl 0 0 0 none,AV.int .i64 (nth 0 (nth [] a1_3 (Int.toNat a2_1)) (Int.toNat a3)),AV.sl 1 0 0 none],AV.bool true],heap:=[Blk.row 0 3 KI (steppedM (a0_0,a0_1,a0_2,a2_0,a0_4,a3)).2.2.2.1,Blk.row 0 3 KI ((List.drop 1 a2_2++[nth 0 (nth [] a1_4 (Int.toNat a2_1)) (Int.toNat a3)]):List Int)]} else BR else BR else BR else BR else BR else BR else BR else BR else BR else BR:=by kernel_rfl
noncomputable def leadsTo_run (F:Nat) (x:CT leadsTo_K):Res:=runF (cx_leadsTo F) Tryz.f33 (groupA leadsTo_sh (enc leadsTo_K x)) []
theorem leadsTo_arg (F:Nat) (a0_0 a0_1 a0_2:Int) (a0_3:List Int) (a0_4:List Mo) (a1_0 a1_1 a1_2:Int) (a1_3 a1_4:List (List Int)) (a1_5:List (List Bool)) (a2_0:List Int) (a2_1:Int) (a2_2:List Int) (a3:Int):leadsTo_run F (a0_0,a0_1,a0_2,a0_3,a0_4,a1_0,a1_1,a1_2,a1_3,a1_4,a1_5,a2_0,a2_1,a2_2,a3)=runF (cx_leadsTo F) Tryz.f33 [AV.agg [AV.int .i64 a0_0,AV.int .i64 a0_1,AV.int .i64 a0_2,AV.ro KI a0_3,AV.ro MoK a0_4],AV.agg [AV.int .i64 a1_0,AV.int .i64 a1_1,AV.int .i64 a1_2,AV.ro KL a1_3,AV.ro KL a1_4,AV.ro (CK.slice 4 CK.bool) a1_5],AV.agg [AV.ro KI a2_0,AV.int .i64 a2_1,AV.ro KI a2_2],AV.int .i64 a3] []:=by kernel_rfl
theorem lead_eq (F:Nat) (k w h:Int) (cells:List Int) (ms:List Mo) (rk ins:Int) (m:List ((Int×Int×Int)×Int)) (ci co cd:Int) (cn cp:List (List Int)) (cl:List (List Bool)) (sc:List Int) (ss:Int) (sd:List Int) (word:Int):runF (cx_lead F) Tryz.f39 [AV.ptr 0 0,AV.agg [AV.int .i64 ci,AV.int .i64 co,AV.int .i64 cd,AV.ro KL cn,AV.ro KL cp,AV.ro (CK.slice 4 CK.bool) cl],AV.agg [AV.ro KI sc,AV.int .i64 ss,AV.ro KI sd],AV.int .i64 word] [Blk.cells [AV.int .i64 k,AV.int .i64 w,AV.int .i64 h,AV.ro KI cells,AV.ro MoK ms,AV.int .i64 rk,AV.nils,AV.int .i64 ins,AV.mp 1],Blk.map true false (CK.pair KI (CK.pair KI KI)) KI m]=bif Res.ok (stepSpec [AV.ptr 0 0,AV.ro KI sc,AV.int .i64 word] [Blk.cells [AV.int .i64 k,AV.int .i64 w,AV.int .i64 h,AV.ro KI cells,AV.ro MoK ms,AV.int .i64 rk,AV.nils,AV.int .i64 ins,AV.mp 1],Blk.map true false (CK.pair KI (CK.pair KI KI)) KI m]) then bif (stepM (zOf [Blk.cells [AV.int .i64 k,AV.int .i64 w,AV.int .i64 h,AV.ro KI cells,AV.ro MoK ms,AV.int .i64 rk,AV.nils,AV.int .i64 ins,AV.mp 1],Blk.map true false (CK.pair KI (CK.pair KI KI)) KI m] sc word)).2.2 then {ok:=true,val:=AV.tup [AV.agg [AV.sl 2 0 0 none,AV.int .i64 0,AV.sl 3 0 0 none],AV.bool false],heap:=[Blk.cells [AV.int .i64 k,AV.int .i64 w,AV.int .i64 h,AV.ro KI cells,AV.ro MoK ms,AV.int .i64 rk,AV.nils,AV.int .i64 ins,AV.mp 1],Blk.map true false (CK.pair KI (CK.pair KI KI)) KI m,Blk.row 0 3 KI [],Blk.row 0 3 KI []]} else bif decide (0<(sd.length:Int)) then bif (stepM (zOf [Blk.cells [AV.int .i64 k,AV.int .i64 w,AV.int .i64 h,AV.ro KI cells,AV.ro MoK ms,AV.int .i64 rk,AV.nils,AV.int .i64 ins,AV.mp 1],Blk.map true false (CK.pair KI (CK.pair KI KI)) KI m] sc word)).2.1 !=nth 0 sd 0 then {ok:=true,val:=AV.tup [AV.agg [AV.sl 2 0 0 none,AV.int .i64 0,AV.sl 3 0 0 none],AV.bool false],heap:=[Blk.cells [AV.int .i64 k,AV.int .i64 w,AV.int .i64 h,AV.ro KI cells,AV.ro MoK ms,AV.int .i64 rk,AV.nils,AV.int .i64 ins,AV.mp 1],Blk.map true false (CK.pair KI (CK.pair KI KI)) KI m,Blk.row 0 3 KI [],Blk.row 0 3 KI []]} else bif decide (0≤(sd.length:Int))&&(decide ((sd.length:Int)≤(sd.length:Int))&&(decide ((sd.length:Int)*8≤140737488355328)&&decide ((sd.length:Int)≤4611686018427387904))) then bif decide (List.length sd≤List.length sd)&&decide (1≤List.length sd) then bif decide (0≤ss)&&decide (ss<(cp.length:Int)) then bif decide (0≤word)&&decide (word<(↑(List.length (nth [] cp (Int.toNat ss))):Int)) then bif decide (0≤IntKind.wrap .i64 ((↑(List.length (List.take (List.length (List.replicate (Int.toNat (sd.length:Int)) (0:Int))) (List.drop 1 sd)++List.drop (List.length (List.drop 1 sd)) (List.replicate (Int.toNat (sd.length:Int)) (0:Int)))):Int)-1))&&decide (IntKind.wrap .i64 ((↑(List.length (List.take (List.length (List.replicate (Int.toNat (sd.length:Int)) (0:Int))) (List.drop 1 sd)++List.drop (List.length (List.drop 1 sd)) (List.replicate (Int.toNat (sd.length:Int)) (0:Int)))):Int)-1)<(↑(List.length (List.take (List.length (List.replicate (Int.toNat (sd.length:Int)) (0:Int))) (List.drop 1 sd)++List.drop (List.length (List.drop 1 sd)) (List.replicate (Int.toNat (sd.length:Int)) (0:Int)))):Int)) then bif decide (Int.toNat (IntKind.wrap .i64 ((↑(List.length (List.take (List.length (List.replicate (Int.toNat (sd.length:Int)) (0:Int))) (List.drop 1 sd)++List.drop (List.length (List.drop 1 sd)) (List.replicate (Int.toNat (sd.length:Int)) (0:Int)))):Int)-1))<List.length (List.take (List.length (List.replicate (Int.toNat (sd.length:Int)) (0:Int))) (List.drop 1 sd)++List.drop (List.length (List.drop 1 sd)) (List.replicate (Int.toNat (sd.length:Int)) (0:Int)))) then bif decide (0≤ss)&&decide (ss<(cn.length:Int)) then bif decide (0≤word)&&decide (word<(↑(List.length (nth [] cn (Int.toNat ss))):Int)) then {ok:=true,val:=AV.tup [AV.agg [AV.ro KI (stepM (zOf [Blk.cells [AV.int .i64 k,AV.int .i64 w,AV.int .i64 h,AV.ro KI cells,AV.ro MoK ms,AV.int .i64 rk,AV.nils,AV.int .i64 ins,AV.mp 1],Blk.map true false (CK.pair KI (CK.pair KI KI)) KI m] sc word)).1,AV.int .i64 (nth 0 (nth [] cn (Int.toNat ss)) (Int.toNat word)),AV.sl 2 0 0 none],AV.bool true],heap:=[Blk.cells [AV.int .i64 k,AV.int .i64 w,AV.int .i64 h,AV.ro KI cells,AV.ro MoK ms,AV.int .i64 rk,AV.nils,AV.int .i64 ins,AV.mp 1],Blk.map true false (CK.pair KI (CK.pair KI KI)) KI m,Blk.row 0 3 KI ((List.set (List.take (List.length (List.replicate (Int.toNat (sd.length:Int)) (0:Int))) (List.drop 1 sd)++List.drop (List.length (List.drop 1 sd)) (List.replicate (Int.toNat (sd.length:Int)) (0:Int))) (Int.toNat (IntKind.wrap .i64 ((↑(List.length (List.take (List.length (List.replicate (Int.toNat (sd.length:Int)) (0:Int))) (List.drop 1 sd)++List.drop (List.length (List.drop 1 sd)) (List.replicate (Int.toNat (sd.length:Int)) (0:Int)))):Int)-1))) (nth 0 (nth [] cp (Int.toNat ss)) (Int.toNat word))):List Int)]} else BR else BR else BR else BR else BR else BR else BR else BR else BR else BR:=by kernel_rfl
def askedM:FiZ→Int:=fun (k,w,h,c,ms,i,o,dl,n,p,l)=>
 bif !organB k w h c ms then 50 else bif !contractOk i o dl n p l then 51 else bif decide ((cntI ms:Int)=i∧(cntO ms:Int)=o) then 0 else 51
def askedOk:FiZ→Bool:=fun (_,_,_,c,ms,_)=>decide (c.length<big∧ms.length<big)
def oFitsOk:FiZ→Bool:=askedOk
def oFitsM:FiZ→Int:=askedM
def oFitsFu:FiZ→Nat:=fun _=>1
theorem oFits_ret (z:FiZ) (hk:oFitsOk z=true):Ret oFits_re oFits_R (oFits_run (oFitsFu z) z) (oFitsM z):=by
 obtain ⟨k,w,h,c,ms,i,o,dl,n,p,l⟩:=z
 have hk':c.length<big∧ms.length<big:=of_decide_eq_true hk
 refine Ret.of (r':=I (askedM (k,w,h,c,ms,i,o,dl,n,p,l))) ((oFits_arg ..).trans ((oFits_eq ..).trans ?_)) (Ret.int _ _)
 rw[show oVOk (k,w,h,c,ms)=true from decide_eq_true hk',show oCountsOk (k,w,h,c,ms)=true from decide_eq_true hk'.2]
 simp only[askedM,oVM,organM,oVCM,validM,oCountsM,beq_ne]
 cases organB k w h c ms with
 |false=>rfl
 | true=>
  cases contractOk i o dl n p l with
  |false=>rfl
  | true=>
   by_cases c1:(cntI ms:Int)=i
   ·by_cases c2:(cntO ms:Int)=o
    ·simp[c1,c2]
    ·simp[c1,c2]
   ·simp[c1]
def rAskedOk:FiZ→Bool:=askedOk
def rAskedM:FiZ→Int:=askedM
def rAskedFu:FiZ→Nat:=fun _=>1
theorem rAsked_ret (z:FiZ) (hk:rAskedOk z=true):Ret rAsked_re rAsked_R (rAsked_run (rAskedFu z) z) (rAskedM z):=by
 obtain ⟨k,w,h,c,ms,i,o,dl,n,p,l⟩:=z
 have hk':c.length<big∧ms.length<big:=of_decide_eq_true hk
 refine Ret.of (r':=I (askedM (k,w,h,c,ms,i,o,dl,n,p,l))) ((rAsked_arg ..).trans ((rAsked_eq ..).trans ?_)) (Ret.int _ _)
 rw[show rVOk (k,w,h,c,ms)=true from decide_eq_true hk',show mouthsOk (k,w,h,c,ms)=true from decide_eq_true hk'.2]
 simp only[askedM,rVM,organM,rVCM,validM,mouthsM,beq_ne]
 cases organB k w h c ms with
 |false=>rfl
 | true=>
  cases contractOk i o dl n p l with
  |false=>rfl
  | true=>
   by_cases c1:i=(cntI ms:Int)
   ·by_cases c2:o=(cntO ms:Int)
    ·simp[c1,c2]
    ·simp[c1,c2,show ¬(cntO ms:Int)=o from fun h=>c2 h.symm]
   ·simp[c1,show ¬(cntI ms:Int)=i from fun h=>c1 h.symm]
abbrev FoZ:=Int×Int×Int×List Int×List Mo×Int×Int×Int×List (List Int)×List (List Int)×List (List Bool)×List Int×Int×List Int
def formB (k w h:Int) (ms:List Mo) (o dl:Int) (len:Nat) (sc:List Int) (ss:Int) (sd:List Int):Bool:=
 organB k w h sc ms&&(decide (0≤ss∧ss<len)&&(decide ((sd.length:Int)=dl)&&sd.all (fineB o)))
def formOk:FoZ→Bool:=fun (_,_,_,_,ms,_,o,_,_,_,_,sc,_,sd)=>decide (sc.length<big∧ms.length<big∧sd.length<big∧0≤o∧o≤1000)
def formM:FoZ→Bool:=fun (k,w,h,_,ms,_,o,dl,n,_,_,sc,ss,sd)=>formB k w h ms o dl n.length sc ss sd
def formFu:FoZ→Nat:=fun (_,_,_,_,ms,_,o,_,_,_,_,sc,_,sd)=>sd.length+1
theorem form_L0_spec (F:Nat) {sd:List Int} {i o dl:Int} {n p:List (List Int)} {l:List (List Bool)} (ho:0≤o) (hx:sd.length<big):∀(j f q:Nat),q+j=sd.length→j<f→
  form_L0 F f sd sd.length q i o dl n p l=resB ((sd.drop q).all (fineB o))
 |j,0,q,_,h=>by omega
 |0,f+1,q,hq,_=>by
  rw[form_L0_succ,drop_len sd (by omega)]
  simp only[show ¬((q:Int)<sd.length) by omega,decide_false,cond_false,List.all_nil]
  rfl
 | j+1,f+1,q,hq,hf=>by
  have hb:sd.length<9223372036854775807:=hx
  have ih:=form_L0_spec F (i:=i) (dl:=dl) (n:=n) (p:=p) (l:=l) ho hx j f (q+1) (by omega) (by omega)
  rw[form_L0_succ,wrap_succ (i:=q) (by omega),ih,drop_nth 0 sd (show q<sd.length by omega),Int.toNat_natCast]
  simp only[show (q:Int)<sd.length by omega,show (0:Int)≤q by omega,ho,decide_true,Bool.and_self,cond_true,List.all_cons,fineB]
  by_cases c1:nth 0 sd q<0
  ·simp[c1,show ¬0≤nth 0 sd q by omega];rfl
  ·by_cases c2:nth 0 sd q≥shlI .i64 1 o
   ·simp[c1,c2,show ¬nth 0 sd q<shlI .i64 1 o by omega];rfl
   ·simp[c1,c2,show 0≤nth 0 sd q by omega,show nth 0 sd q<shlI .i64 1 o by omega]
theorem form_ret (z:FoZ) (hk:formOk z=true):Ret form_re form_R (form_run (formFu z) z) (formM z):=by
 obtain ⟨k,w,h,c,ms,i,o,dl,n,p,l,sc,ss,sd⟩:=z
 have hk':sc.length<big∧ms.length<big∧sd.length<big∧0≤o∧o≤1000:=of_decide_eq_true hk
 refine Ret.of (r':=resB (formM (k,w,h,c,ms,i,o,dl,n,p,l,sc,ss,sd))) ((form_arg ..).trans ((form_eq ..).trans ?_)) (Ret.bool _)
 have sp:=form_L0_spec (sd.length+1) (i:=i) (dl:=dl) (n:=n) (p:=p) (l:=l) hk'.2.2.2.1 hk'.2.2.1 sd.length (sd.length+1) 0 (by omega) (by omega)
 rw[List.drop_zero] at sp
 rw[show oVOk (k,w,h,sc,ms)=true from decide_eq_true ⟨hk'.1,hk'.2.1⟩,show formFu (k,w,h,c,ms,i,o,dl,n,p,l,sc,ss,sd)=sd.length+1 from rfl,show form_L0 (sd.length+1) (sd.length+1) sd sd.length 0 i o dl n p l=_ from sp]
 simp only[formM,formB,oVM,organM,beq_ne]
 cases organB k w h sc ms with
 |false=>rfl
 | true=>
  by_cases c1:ss<0
  ·simp[c1,show ¬0≤ss by omega];rfl
  ·by_cases c2:ss≥n.length
   ·simp[c1,c2,show ¬ss<n.length by omega];rfl
   ·by_cases c3:(sd.length:Int)=dl
    ·simp[c1,c2,c3,show 0≤ss by omega,show ss<n.length by omega]
    ·simp[c1,c2,c3,show 0≤ss by omega,show ss<n.length by omega];rfl
def formedOk:FoZ→Bool:=formOk
def formedM:FoZ→Bool:=formM
def formedFu:FoZ→Nat:=formFu
theorem formed_L0_spec (F:Nat) {sc:List Int} {ss:Int} {sd:List Int} {i o dl:Int} {n p:List (List Int)} {l:List (List Bool)} (ho:0≤o∧o≤1000) (hx:sd.length<big):∀(j f q:Nat),q+j=sd.length→j<f→
  formed_L0 F f q i o dl n p l sc ss sd=resB ((sd.drop q).all (fineB o))
 |j,0,q,_,h=>by omega
 |0,f+1,q,hq,_=>by
  rw[formed_L0_succ,drop_len sd (by omega)]
  simp only[show ¬((q:Int)<sd.length) by omega,decide_false,cond_false,List.all_nil]
  rfl
 |j+1,f+1,q,hq,hf=>by
  have hb:sd.length<9223372036854775807:=hx
  have ih:=formed_L0_spec F (sc:=sc) (ss:=ss) (i:=i) (dl:=dl) (n:=n) (p:=p) (l:=l) ho hx j f (q+1) (by omega) (by omega)
  rw[formed_L0_succ,wrap_succ (i:=q) (by omega),ih,drop_nth 0 sd (show q<sd.length by omega),Int.toNat_natCast,wrapu_id (n:=o) (by omega) (by omega)]
  simp only[show (q:Int)<sd.length by omega,show (0:Int)≤q by omega,ho.1,decide_true,Bool.and_self,cond_true,List.all_cons,fineB,ge_iff_le]
  cases decide (0≤nth 0 sd q)<;>cases decide (nth 0 sd q<shlI .i64 1 o)<;>rfl
theorem formed_ret (z:FoZ) (hk:formedOk z=true):Ret formed_re formed_R (formed_run (formedFu z) z) (formedM z):=by
 obtain ⟨k,w,h,c,ms,i,o,dl,n,p,l,sc,ss,sd⟩:=z
 have hk':sc.length<big∧ms.length<big∧sd.length<big∧0≤o∧o≤1000:=of_decide_eq_true hk
 refine Ret.of (r':=resB (formM (k,w,h,c,ms,i,o,dl,n,p,l,sc,ss,sd))) ((formed_arg ..).trans ((formed_eq ..).trans ?_)) (Ret.bool _)
 have sp:=formed_L0_spec (sd.length+1) (sc:=sc) (ss:=ss) (i:=i) (dl:=dl) (n:=n) (p:=p) (l:=l) hk'.2.2.2 hk'.2.2.1 sd.length (sd.length+1) 0 (by omega) (by omega)
 rw[List.drop_zero] at sp
 rw[show rVOk (k,w,h,sc,ms)=true from decide_eq_true ⟨hk'.1,hk'.2.1⟩,show formedFu (k,w,h,c,ms,i,o,dl,n,p,l,sc,ss,sd)=sd.length+1 from rfl,show formed_L0 (sd.length+1) (sd.length+1) 0 i o dl n p l sc ss sd=_ from sp]
 simp only[formM,formB,rVM,organM,beq_ne]
 cases organB k w h sc ms with
 |false=>rfl
 | true=>
  by_cases c1:ss<0
  ·simp[c1,show ¬0≤ss by omega];rfl
  ·by_cases c2:ss≥n.length
   ·simp[c1,c2,show ¬ss<n.length by omega];rfl
   ·by_cases c3:(sd.length:Int)=dl
    ·simp[c1,c2,c3,show 0≤ss by omega,show ss<n.length by omega]
    ·simp[c1,c2,c3,show 0≤ss by omega,show ss<n.length by omega];rfl
abbrev Key:=List UInt8×List UInt8×Int
def keyOfOk:Sit→Bool:=fun (a,_,d)=>packOk a&&packOk d
def keyOfM:Sit→Key:=fun (a,s,d)=>(packM a,packM d,s)
def keyOfFu:Sit→Nat:=fun _=>1
theorem keyOf_ret (z:Sit) (hk:keyOfOk z=true):Ret keyOf_re keyOf_R (keyOf_run (keyOfFu z) z) (keyOfM z):=by
 obtain ⟨a,s,d⟩:=z
 simp only[keyOfOk,Bool.and_eq_true] at hk
 refine Ret.of (r':={ok:=true,val:=AV.agg [AV.str (packM a),AV.str (packM d),AV.int .i64 s]}) ((keyOf_arg ..).trans ((keyOf_eq ..).trans ?_)) ⟨rfl,rfl,rfl,rfl,rfl,rfl,fun _ h=>by cases h⟩
 rw[hk.1,hk.2]
 rfl
abbrev LtZ:=Int×Int×Int×List Int×List Mo×Int×Int×Int×List (List Int)×List (List Int)×List (List Bool)×List Int×Int×List Int×Int
abbrev SitB:=List Int×Int×List Int×Bool
def ltB (k w h:Int) (ms:List Mo) (n p:List (List Int)) (sc:List Int) (ss:Int) (sd:List Int) (word:Int):SitB:=
 bif decide (toldL w sc ms 0 0=nth 0 sd 0)&&stOk k w h ms sc word then (nextC k w h ms sc word,nth 0 (nth [] n ss.toNat) word.toNat,sd.drop 1++[nth 0 (nth [] p ss.toNat) word.toNat],true) else ([],0,[],false)
def idxB (n p:List (List Int)) (ss word:Int):Bool:=
 decide ((0≤ss∧ss<n.length∧ss<p.length)∧(0≤word∧word<(nth [] n ss.toNat).length∧word<(nth [] p ss.toNat).length))
def leadsToOk:LtZ→Bool:=fun (k,w,h,_,ms,_,_,_,n,p,_,sc,ss,sd,word)=>orgG k w h sc ms&&(decide (1≤sd.length∧sd.length≤1000)&&idxB n p ss word)
def leadsToM:LtZ→SitB:=fun (k,w,h,_,ms,_,_,_,n,p,_,sc,ss,sd,word)=>ltB k w h ms n p sc ss sd word
def leadsToFu:LtZ→Nat:=fun _=>1
def sitBR (a:List Int) (s:Int) (d:List Int) (b:Bool):Res:={ok:=true,val:=AV.tup [AV.agg [AV.sl 0 0 0 none,AV.int .i64 s,AV.sl 1 0 0 none],AV.bool b],heap:=[Blk.row 0 3 KI a,Blk.row 0 3 KI d]}
theorem Ret.sitB {a:List Int} {s:Int} {d:List Int} {b:Bool}:Ret leadsTo_re leadsTo_R (sitBR a s d b) ((a,s,d,b):SitB):=by
 have hh:roVs (sitBR a s d b)=[.agg [.ro (.int .i64) a, .int .i64 s, .ro (.int .i64) d], .bool b]:=rfl
 refine ⟨rfl,rfl,?_,?_,?_,?_,fun ws h=>by cases h;simp⟩
 ·rw[hh];rfl
 ·rw[hh];rfl
 ·rw[hh];simp[leadsTo_R,flatA,cellsA,decOk,nth,isRo,isInt,isB,dropL,width]
 ·rw[hh]
  exact (congrArg (fun (x:List Int)=>((x,s,asL (.int .i64) (.ro (.int .i64) d),b):SitB)) (asL_ro (.int .i64) a)).trans (congrArg (fun (x:List Int)=>((a,s,x,b):SitB)) (asL_ro (.int .i64) d))
theorem leadsTo_ret (z:LtZ) (hk:leadsToOk z=true):Ret leadsTo_re leadsTo_R (leadsTo_run (leadsToFu z) z) (leadsToM z):=by
 obtain ⟨k,w,h,c,ms,i,o,dl,n,p,l,sc,ss,sd,word⟩:=z
 simp only[leadsToOk,idxB,Bool.and_eq_true,decide_eq_true_eq] at hk
 obtain ⟨g,hd,⟨s1,s2,s3⟩,w1,w2,w3⟩:=hk
 refine Ret.of (r':=sitBR (ltB k w h ms n p sc ss sd word).1 (ltB k w h ms n p sc ss sd word).2.1 (ltB k w h ms n p sc ss sd word).2.2.1 (ltB k w h ms n p sc ss sd word).2.2.2) ((leadsTo_arg ..).trans ((leadsTo_eq ..).trans ?_)) Ret.sitB
 have hdl:(sd.drop 1).length=sd.length-1:=List.length_drop
 rw[show saysOk (k,w,h,sc,ms)=true from g,show steppedOk (k,w,h,sc,ms,word)=true from g,steppedM_eq,show saysM (k,w,h,sc,ms)=toldL w sc ms 0 0 from rfl,hdl,
  decide_eq_true (show Nat.mul (Nat.add 0 (sd.length-1)) 8≤140737488355328 from by show (0+(sd.length-1))*8≤_;omega),decide_eq_true (show Nat.mul (Nat.add (sd.length-1) 1) 8≤140737488355328 from by show (sd.length-1+1)*8≤_;omega)]
 simp only[ltB,s1,s2,s3,w1,w2,w3,hd.1,show (0:Int)<(sd.length:Int) by omega,Nat.le_refl,decide_true,Bool.and_self,cond_true,beq_ne,nble,Nat.zero_le]
 cases decide (toldL w sc ms 0 0=nth 0 sd 0) with
 |false=>rfl
 |true=>cases stOk k w h ms sc word<;>rfl
abbrev LeZ:=BX×CTy×Sit×Int
def zL (z:LeZ):StZ:=(z.1.1,z.1.2.1,z.1.2.2.1,z.1.2.2.2.1,z.1.2.2.2.2.1,z.1.2.2.2.2.2.1,z.1.2.2.2.2.2.2.1,z.1.2.2.2.2.2.2.2,z.2.2.1.1,z.2.2.2)
def leadOk:LeZ→Bool:=fun z=>stepOk (zL z)&&(decide (1≤z.2.2.1.2.2.length∧z.2.2.1.2.2.length≤1000)&&idxB z.2.1.2.2.2.1 z.2.1.2.2.2.2.1 z.2.2.1.2.1 z.2.2.2)
def leadM:LeZ→SitB:=fun z=>
 bif !(stepM (zL z)).2.2&&decide ((stepM (zL z)).2.1=nth 0 z.2.2.1.2.2 0) then ((stepM (zL z)).1,nth 0 (nth [] z.2.1.2.2.2.1 z.2.2.1.2.1.toNat) z.2.2.2.toNat,z.2.2.1.2.2.drop 1++[nth 0 (nth [] z.2.1.2.2.2.2.1 z.2.2.1.2.1.toNat) z.2.2.2.toNat],true) else ([],0,[],false)
def dueOf (sd:List Int) (q:Int):List Int:=List.set (copyW (sd.drop 1) (List.replicate sd.length 0)) (sd.length-1) q
theorem dueOf_eq {sd:List Int} (h:1≤sd.length) (q:Int):dueOf sd q=sd.drop 1++[q]:=by
 have hl:(sd.drop 1).length=sd.length-1:=List.length_drop
 have:copyW (sd.drop 1) (List.replicate sd.length (0:Int))=sd.drop 1++[0]:=by
  simp only[copyW]
  rw[List.length_replicate,List.take_of_length_le (by omega),hl,List.drop_replicate,show sd.length-(sd.length-1)=1 by omega]
  rfl
 rw[dueOf,this,List.set_append_right _ _ (by omega),hl,Nat.sub_self]
 rfl
def failR (H:List Blk):Res:={ok:=true,val:=AV.tup [AV.agg [AV.sl 2 0 0 none,AV.int .i64 0,AV.sl 3 0 0 none],AV.bool false],heap:=H++[Blk.row 0 3 KI [],Blk.row 0 3 KI []]}
def goR (H:List Blk) (a:List Int) (s:Int) (d:List Int):Res:={ok:=true,val:=AV.tup [AV.agg [AV.ro KI a,AV.int .i64 s,AV.sl 2 0 0 none],AV.bool true],heap:=H++[Blk.row 0 3 KI d]}
theorem lead_txt (F:Nat) (k w h:Int) (cells:List Int) (ms:List Mo) (rk ins:Int) (m:MM) (ci co cd:Int) (cn cp:List (List Int)) (cl:List (List Bool)) (sc:List Int) (ss:Int) (sd:List Int) (word:Int):
  runF (cx_lead F) Tryz.f39 [AV.ptr 0 0,AV.agg [AV.int .i64 ci,AV.int .i64 co,AV.int .i64 cd,AV.ro KL cn,AV.ro KL cp,AV.ro (CK.slice 4 CK.bool) cl],AV.agg [AV.ro KI sc,AV.int .i64 ss,AV.ro KI sd],AV.int .i64 word] (bodyH k w h cells ms rk ins m)=
  bif stepOk (k,w,h,cells,ms,rk,ins,m,sc,word) then bif (stepM (k,w,h,cells,ms,rk,ins,m,sc,word)).2.2 then failR (bodyH k w h cells ms rk ins m) else bif decide (0<(sd.length:Int)) then bif (stepM (k,w,h,cells,ms,rk,ins,m,sc,word)).2.1 !=nth 0 sd 0 then failR (bodyH k w h cells ms rk ins m) else
   bif decide (0≤(sd.length:Int))&&(decide ((sd.length:Int)≤(sd.length:Int))&&(decide ((sd.length:Int)*8≤140737488355328)&&decide ((sd.length:Int)≤4611686018427387904))) then bif decide (sd.length≤sd.length)&&decide (1≤sd.length) then
    bif decide (0≤ss)&&decide (ss<(cp.length:Int)) then bif decide (0≤word)&&decide (word<((nth [] cp ss.toNat).length:Int)) then
     bif decide (0≤IntKind.wrap .i64 (((copyW (sd.drop 1) (List.replicate (Int.toNat (sd.length:Int)) 0)).length:Int)-1))&&decide (IntKind.wrap .i64 (((copyW (sd.drop 1) (List.replicate (Int.toNat (sd.length:Int)) 0)).length:Int)-1)<((copyW (sd.drop 1) (List.replicate (Int.toNat (sd.length:Int)) 0)).length:Int)) then
      bif decide (Int.toNat (IntKind.wrap .i64 (((copyW (sd.drop 1) (List.replicate (Int.toNat (sd.length:Int)) 0)).length:Int)-1))<(copyW (sd.drop 1) (List.replicate (Int.toNat (sd.length:Int)) 0)).length) then
       bif decide (0≤ss)&&decide (ss<(cn.length:Int)) then bif decide (0≤word)&&decide (word<((nth [] cn ss.toNat).length:Int)) then
        goR (bodyH k w h cells ms rk ins m) (stepM (k,w,h,cells,ms,rk,ins,m,sc,word)).1 (nth 0 (nth [] cn ss.toNat) word.toNat) (List.set (copyW (sd.drop 1) (List.replicate (Int.toNat (sd.length:Int)) 0)) (Int.toNat (IntKind.wrap .i64 (((copyW (sd.drop 1) (List.replicate (Int.toNat (sd.length:Int)) 0)).length:Int)-1))) (nth 0 (nth [] cp ss.toNat) word.toNat))
       else {ok:=false,val:= .junk} else {ok:=false,val:= .junk} else {ok:=false,val:= .junk} else {ok:=false,val:= .junk} else {ok:=false,val:= .junk} else {ok:=false,val:= .junk} else {ok:=false,val:= .junk} else {ok:=false,val:= .junk} else {ok:=false,val:= .junk} else {ok:=false,val:= .junk}:=
 (lead_eq F k w h cells ms rk ins m ci co cd cn cp cl sc ss sd word).trans (by kernel_rfl)
theorem lead_run {k w h:Int} {cells:List Int} {ms:List Mo} {rk ins:Int} {m:MM} {ci co cd:Int} {cn cp:List (List Int)} {cl:List (List Bool)} {sc:List Int} {ss:Int} {sd:List Int} {word:Int}
  (hk:leadOk ((k,w,h,cells,ms,rk,ins,m),(ci,co,cd,cn,cp,cl),(sc,ss,sd),word)=true):
  runF (cx_lead 0) Tryz.f39 [AV.ptr 0 0,AV.agg [AV.int .i64 ci,AV.int .i64 co,AV.int .i64 cd,AV.ro KL cn,AV.ro KL cp,AV.ro (CK.slice 4 CK.bool) cl],AV.agg [AV.ro KI sc,AV.int .i64 ss,AV.ro KI sd],AV.int .i64 word] (bodyH k w h cells ms rk ins m)=
  bif (leadM ((k,w,h,cells,ms,rk,ins,m),(ci,co,cd,cn,cp,cl),(sc,ss,sd),word)).2.2.2 then goR (bodyH k w h cells ms rk ins m) (leadM ((k,w,h,cells,ms,rk,ins,m),(ci,co,cd,cn,cp,cl),(sc,ss,sd),word)).1 (leadM ((k,w,h,cells,ms,rk,ins,m),(ci,co,cd,cn,cp,cl),(sc,ss,sd),word)).2.1 (leadM ((k,w,h,cells,ms,rk,ins,m),(ci,co,cd,cn,cp,cl),(sc,ss,sd),word)).2.2.1
  else failR (bodyH k w h cells ms rk ins m):=by
 simp only[leadOk,idxB,Bool.and_eq_true,decide_eq_true_eq] at hk
 obtain ⟨o1,hd,⟨s1,s2,s3⟩,w1,w2,w3⟩:=hk
 have o1':stepOk (k,w,h,cells,ms,rk,ins,m,sc,word)=true:=o1
 have d1:1≤sd.length∧sd.length≤1000:=hd
 have e1:0≤ss:=s1
 have e2:ss<(cn.length:Int):=s2
 have e3:ss<(cp.length:Int):=s3
 have f1:0≤word:=w1
 have f2:word<((nth [] cn ss.toNat).length:Int):=w2
 have f3:word<((nth [] cp ss.toNat).length:Int):=w3
 rw[lead_txt,o1',Int.toNat_natCast,copyW_len,List.length_replicate,wrap_id (n:=(sd.length:Int)-1) (by omega) (by omega),show ((sd.length:Int)-1).toNat=sd.length-1 by omega]
 rw[show List.set (copyW (sd.drop 1) (List.replicate sd.length 0)) (sd.length-1) (nth 0 (nth [] cp ss.toNat) word.toNat)=_ from dueOf_eq d1.1 _]
 rw[show leadM ((k,w,h,cells,ms,rk,ins,m),(ci,co,cd,cn,cp,cl),(sc,ss,sd),word)=bif !(stepM (k,w,h,cells,ms,rk,ins,m,sc,word)).2.2&&decide ((stepM (k,w,h,cells,ms,rk,ins,m,sc,word)).2.1=nth 0 sd 0) then ((stepM (k,w,h,cells,ms,rk,ins,m,sc,word)).1,nth 0 (nth [] cn ss.toNat) word.toNat,sd.drop 1++[nth 0 (nth [] cp ss.toNat) word.toNat],true) else ([],0,[],false) from rfl]
 generalize stepM (k,w,h,cells,ms,rk,ins,m,sc,word)=S
 obtain ⟨a,t,b⟩:=S
 simp only[e1,e2,e3,f1,f2,f3,d1.1,show (0:Int)<(sd.length:Int) by omega,show (0:Int)≤(sd.length:Int) by omega,Int.le_refl,Nat.le_refl,show (sd.length:Int)*8≤140737488355328 by omega,show (sd.length:Int)≤4611686018427387904 by omega,show (0:Int)≤(sd.length:Int)-1 by omega,show (sd.length:Int)-1<(sd.length:Int) by omega,show sd.length-1<sd.length by omega,decide_true,Bool.and_self,cond_true,beq_ne]
 cases b with
 |true=>rfl
 |false=>cases decide (t=nth 0 sd 0)<;>rfl
def ctC:AV→Bool
 | .agg [c0,c1,c2,c3,c4,c5]=>isInt .i64 c0&&(isInt .i64 c1&&(isInt .i64 c2&&(isRoX (.slice 3 (.int .i64)) c3&&(isRoX (.slice 3 (.int .i64)) c4&&isRoX (.slice 4 .bool) c5))))
 |_=>false
def ctX:AV→CTy
 | .agg [c0,c1,c2,c3,c4,c5]=>(Go.Abs.asInt c0,Go.Abs.asInt c1,Go.Abs.asInt c2,asL (.slice 3 (.int .i64)) c3,asL (.slice 3 (.int .i64)) c4,asL (.slice 4 .bool) c5)
 |_=>(0,0,0,[],[],[])
def ctV (c:CTy):AV:= .agg [.int .i64 c.1, .int .i64 c.2.1, .int .i64 c.2.2.1, .ro (.slice 3 (.int .i64)) c.2.2.2.1, .ro (.slice 3 (.int .i64)) c.2.2.2.2.1, .ro (.slice 4 .bool) c.2.2.2.2.2]
theorem ctC_eq {v:AV} (h:ctC v=true):v=ctV (ctX v):=by
 unfold ctC at h
 split at h
 ·rename_i c0 c1 c2 c3 c4 c5
  simp only[Bool.and_eq_true] at h
  obtain ⟨h0,h1,h2,h3,h4,h5⟩:=h
  simp only[ctX,ctV]
  rw[←isI_eq h0,←isI_eq h1,←isI_eq h2,←isRoX_eq h3,←isRoX_eq h4,←isRoX_eq h5]
 ·cases h
def siC:AV→Bool
 | .agg [c0,c1,c2]=>isRoX (.int .i64) c0&&(isInt .i64 c1&&isRoX (.int .i64) c2)
 |_=>false
def siX:AV→Sit
 | .agg [c0,c1,c2]=>(asL (.int .i64) c0,Go.Abs.asInt c1,asL (.int .i64) c2)
 |_=>([],0,[])
def siV (s:Sit):AV:= .agg [.ro (.int .i64) s.1, .int .i64 s.2.1, .ro (.int .i64) s.2.2]
theorem siC_eq {v:AV} (h:siC v=true):v=siV (siX v):=by
 unfold siC at h
 split at h
 ·rename_i c0 c1 c2
  simp only[Bool.and_eq_true] at h
  obtain ⟨h0,h1,h2⟩:=h
  simp only[siX,siV]
  rw[←isRoX_eq h0,←isI_eq h1,←isRoX_eq h2]
 ·cases h
def bodyHx (x:BX):List Blk:=bodyH x.1 x.2.1 x.2.2.1 x.2.2.2.1 x.2.2.2.2.1 x.2.2.2.2.2.1 x.2.2.2.2.2.2.1 x.2.2.2.2.2.2.2
theorem lead_runZ (z:LeZ) (hk:leadOk z=true):runF (cx_lead 0) Tryz.f39 [AV.ptr 0 0,ctV z.2.1,siV z.2.2.1,AV.int .i64 z.2.2.2] (bodyHx z.1)=
  bif (leadM z).2.2.2 then goR (bodyHx z.1) (leadM z).1 (leadM z).2.1 (leadM z).2.2.1 else failR (bodyHx z.1):=by
 obtain ⟨⟨k,w,h,cells,ms,rk,ins,m⟩,⟨ci,co,cd,cn,cp,cl⟩,⟨sc,ss,sd⟩,word⟩:=z
 exact lead_run hk
theorem leadM_fail (z:LeZ) (h:(leadM z).2.2.2=false):leadM z=([],0,[],false):=by
 revert h
 simp only[leadM]
 cases !(stepM (zL z)).2.2&&decide ((stepM (zL z)).2.1=nth 0 z.2.2.1.2.2 0) with
 |true=>intro h;cases h
 |false=>intro _;rfl
def leadFu:Nat:=0
def leadSpec (vs:List AV) (Hi:List Blk):Res:=
 match vs with
 | [a,c,s,d]=>⟨bodyC Hi&&(isPtr0 a&&(ctC c&&(siC s&&(isInt .i64 d&&leadOk (bodyX Hi,ctX c,siX s,Go.Abs.asInt d))))),
   .tup [.agg [.ro (.int .i64) (leadM (bodyX Hi,ctX c,siX s,Go.Abs.asInt d)).1, .int .i64 (leadM (bodyX Hi,ctX c,siX s,Go.Abs.asInt d)).2.1, .ro (.int .i64) (leadM (bodyX Hi,ctX c,siX s,Go.Abs.asInt d)).2.2.1], .bool (leadM (bodyX Hi,ctX c,siX s,Go.Abs.asInt d)).2.2.2],Hi⟩
 |_=> .bad
theorem body_cut (k w h:Int) (cells:List Int) (ms:List Mo) (rk ins:Int) (m:MM):(bodyH k w h cells ms rk ins m).all (cutB (bodyH k w h cells ms rk ins m).length)=true:=rfl
theorem nth_appHi {H l:List Blk} {b:Nat} (hb:b<H.length):nth .free (H++l) b=nth .free H b:=by
 rw[nth_lt _ _ _ (by simp;omega),nth_lt _ _ _ hb,List.getElem_append_left hb]
theorem goR_frz (x:BX) (a:List Int) (t:Int) (d:List Int):frzV (goR (bodyHx x) a t d)= .tup [.agg [.ro (.int .i64) a, .int .i64 t, .ro (.int .i64) d], .bool true]:=rfl
theorem failR_frz (x:BX):frzV (failR (bodyHx x))= .tup [.agg [.ro (.int .i64) [], .int .i64 0, .ro (.int .i64) []], .bool false]:=rfl
theorem leadSpec_ok {vs:List AV} {Hi:List Blk} (h:(leadSpec vs Hi).ok=true):∃r,runF (cx_lead 0) Tryz.f39 vs Hi=r∧r.ok=true∧(valsOf r.val).all isV=true∧(leadSpec vs Hi).val=frzV r∧(leadSpec vs Hi).heap=Hi∧
  (∀b,b<Hi.length→nth .free r.heap b=nth .free Hi b)∧(∀b∈(valsOf r.val).flatMap refs,Hi.length≤b)∧Hi.all (cutB Hi.length)=true∧Hi.length=2:=by
 unfold leadSpec at h
 split at h
 ·rename_i a c s d
  simp only[Bool.and_eq_true] at h
  obtain ⟨h0,h1,h2,h3,h4,h5⟩:=h
  have e0:=bodyC_eq h0
  have hr:=lead_runZ _ h5
  rw[show bodyHx (bodyX Hi,ctX c,siX s,Go.Abs.asInt d).1=Hi from e0.symm] at hr
  have ev:[a,c,s,d]=[AV.ptr 0 0,ctV (ctX c),siV (siX s),AV.int .i64 (Go.Abs.asInt d)]:=by rw[←isPtr0_eq h1,←ctC_eq h2,←siC_eq h3,←isI_eq h4]
  have hlen:Hi.length=2:=by rw[e0];rfl
  have hcut:Hi.all (cutB Hi.length)=true:=by rw[e0];exact body_cut ..
  refine ⟨_,(congrArg (fun v=>runF (cx_lead 0) Tryz.f39 v Hi) ev).trans hr,?_⟩
  have hf:=leadM_fail (bodyX Hi,ctX c,siX s,Go.Abs.asInt d)
  simp only[leadSpec,h0,h1,h2,h3,h4]
  generalize leadM (bodyX Hi,ctX c,siX s,Go.Abs.asInt d)=q at*
  obtain ⟨qa,qs,qd,qb⟩:=q
  cases qb with
  | true=>
   refine ⟨rfl,rfl,?_,trivial,fun b hb=>nth_appHi hb,fun b hb=> ?_,hcut,hlen⟩
   ·have e:=goR_frz (bodyX Hi) qa qs qd
    rw[show bodyHx (bodyX Hi)=Hi from e0.symm] at e
    exact e.symm
   ·rw[hlen]
    simp[goR,valsOf,refs,refs1] at hb
    omega
  | false=>
   have hq:=hf rfl
   simp only[Prod.mk.injEq,and_true] at hq
   obtain ⟨rfl,rfl,rfl⟩:=hq
   refine ⟨rfl,rfl,?_,trivial,fun b hb=>nth_appHi hb,fun b hb=> ?_,hcut,hlen⟩
   ·have e:=failR_frz (bodyX Hi)
    rw[show bodyHx (bodyX Hi)=Hi from e0.symm] at e
    exact e.symm
   ·rw[hlen]
    simp[failR,valsOf,refs,refs1] at hb
    omega
 ·cases h
noncomputable def tbTBL_1:=addC 36 (tspec oFits_sh oFits_K oFits_re oFits_R oFitsOk oFitsM) tbTB
theorem tabTBL_1:Tab Tryz.prog tbTBL_1 cxMd tbKTB:=Tab.addTy (os:=[]) tabTB tabTB (KK:=oFits_K) (R:=oFits_R) (fn:=Tryz.f36) (by kernel_rfl) (by kernel_rfl) (by kernel_rfl) (by kernel_rfl) _ oFitsFu oFits_ret
noncomputable def tbTBL_2:=addC 29 (tspec rAsked_sh rAsked_K rAsked_re rAsked_R rAskedOk rAskedM) tbTBL_1
theorem tabTBL_2:Tab Tryz.prog tbTBL_2 cxMd tbKTB:=Tab.addTy (os:=[]) tabTBL_1 tabTB (KK:=rAsked_K) (R:=rAsked_R) (fn:=Tryz.f29) (by kernel_rfl) (by kernel_rfl) (by kernel_rfl) (by kernel_rfl) _ rAskedFu rAsked_ret
noncomputable def tbTBL_3:=addC 42 (tspec form_sh form_K form_re form_R formOk formM) tbTBL_2
theorem tabTBL_3:Tab Tryz.prog tbTBL_3 cxMd tbKTB:=Tab.addTy (os:=[]) tabTBL_2 tabTB (KK:=form_K) (R:=form_R) (fn:=Tryz.f42) (by kernel_rfl) (by kernel_rfl) (by kernel_rfl) (by kernel_rfl) _ formFu form_ret
noncomputable def tbTBL_4:=addC 41 (tspec formed_sh formed_K formed_re formed_R formedOk formedM) tbTBL_3
theorem tabTBL_4:Tab Tryz.prog tbTBL_4 cxMd tbKTB:=Tab.addTy (os:=[]) tabTBL_3 tabTB (KK:=formed_K) (R:=formed_R) (fn:=Tryz.f41) (by kernel_rfl) (by kernel_rfl) (by kernel_rfl) (by kernel_rfl) _ formedFu formed_ret
noncomputable def tbTBL_5:=addC 38 (tspec keyOf_sh keyOf_K keyOf_re keyOf_R keyOfOk keyOfM) tbTBL_4
theorem tabTBL_5:Tab Tryz.prog tbTBL_5 cxMd tbKTB:=Tab.addTy (os:=[]) tabTBL_4 tabTB (KK:=keyOf_K) (R:=keyOf_R) (fn:=Tryz.f38) (by kernel_rfl) (by kernel_rfl) (by kernel_rfl) (by kernel_rfl) _ keyOfFu keyOf_ret
noncomputable def tbTBL_6:=addC 33 (tspec leadsTo_sh leadsTo_K leadsTo_re leadsTo_R leadsToOk leadsToM) tbTBL_5
theorem tabTBL_6:Tab Tryz.prog tbTBL_6 cxMd tbKTB:=Tab.addTy (os:=[]) tabTBL_5 tabTB (KK:=leadsTo_K) (R:=leadsTo_R) (fn:=Tryz.f33) (by kernel_rfl) (by kernel_rfl) (by kernel_rfl) (by kernel_rfl) _ leadsToFu leadsTo_ret
noncomputable def tbTBL_7:=addC 39 leadSpec tbTBL_6
theorem tabTBL_7:Tab Tryz.prog tbTBL_7 cxMd tbKTB:=Tab.addCut tabTBL_6 tabTB (fn:=Tryz.f39) (by kernel_rfl) (by kernel_rfl) (by kernel_rfl) (by kernel_rfl) (cx_lead 0).live (fun _ _=>leadFu) fun vs Hi h=>by
 obtain ⟨r,a1,a2,a3,a4,a5,a6,a7,a8,a9⟩:=leadSpec_ok h
 exact ⟨r,by rw[a9];exact a1,a2,a3,a4,a5,a6,a7,a8⟩
noncomputable def tbTBB:=tbTBL_7
noncomputable def tbKTBB:KT:=tbKTB
theorem tabTBB:Tab Tryz.prog tbTBB cxMd tbKTBB:=tabTBL_7
end Go.Proofs.YtiglikocfjhkcaaGreatDoor
