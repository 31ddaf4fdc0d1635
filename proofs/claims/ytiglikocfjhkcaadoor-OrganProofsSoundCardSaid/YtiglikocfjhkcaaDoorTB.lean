/- What Check and Prove ask first; situations: form, keys, what one leads to. -/
import Derived.Test.YtiglikocfjhkcaaDoorTA
import Derived.Test.YtiglikocfjhkcaaDoorProg
import Derived.KernelRfl
import Derived.Test.YtiglikocfjhkcaaDoorA27
set_option linter.all false
set_option linter.unusedVariables false
set_option linter.unusedSimpArgs false
open Go Go.Abs Go.Proofs
namespace Go.Proofs.YtiglikocfjhkcaaDoor
noncomputable def tbTB:=tbTAB
noncomputable def tbKTB:KT:=tbKTAB
theorem tabTB:Tab Tryd.prog tbTB cxMd tbKTB:=tabTAB
noncomputable def cx_oFits (F:Nat):Cx:={P:=Tryd.prog,C:=tbTB,K:=tbKTB,mode:=cxMd,fuel:=F,live:=liveTab [],pin:=0,nx:=true}
noncomputable def cx_form (F:Nat):Cx:={P:=Tryd.prog,C:=tbTB,K:=tbKTB,mode:=cxMd,fuel:=F,live:=liveTab [(5,[38,37,4,39])],pin:=0,nx:=true}
noncomputable def cx_keyOf (F:Nat):Cx:={P:=Tryd.prog,C:=tbTB,K:=tbKTB,mode:=cxMd,fuel:=F,live:=liveTab [],pin:=0,nx:=true}
noncomputable def cx_lead (F:Nat):Cx:={P:=Tryd.prog,C:=tbTB,K:=tbKTB,mode:=cxMd,fuel:=F,live:=liveTab [],pin:=2}
def oFits_K:CK:=CK.pair KI (CK.pair KI (CK.pair KI (CK.pair KL (CK.pair (CK.slice 50 MoK) (CK.pair KI (CK.pair KI (CK.pair KI (CK.pair (CK.slice 22 KL) (CK.pair (CK.slice 22 KL) (CK.slice 51 (CK.slice 4 CK.bool)))))))))))
def oFits_sh:List (Option Nat):=[some 5,some 6]
def oFits_R:CK:=CK.int .i64
def oFits_re:List (Option Nat):=[none]
theorem oFits_eq (F:Nat) (a0_0 a0_1 a0_2:Int) (a0_3:List Int) (a0_4:List Mo) (a1_0 a1_1 a1_2:Int) (a1_3 a1_4:List (List Int)) (a1_5:List (List Bool)):runF (cx_oFits F) Tryd.f16 [AV.agg [AV.int .i64 a0_0,AV.int .i64 a0_1,AV.int .i64 a0_2,AV.ro KI a0_3,AV.ro MoK a0_4],AV.agg [AV.int .i64 a1_0,AV.int .i64 a1_1,AV.int .i64 a1_2,AV.ro KL a1_3,AV.ro KL a1_4,AV.ro (CK.slice 4 CK.bool) a1_5]] []=bif oVOk (a0_0,a0_1,a0_2,a0_3,a0_4) then bif oVM (a0_0,a0_1,a0_2,a0_3,a0_4) !=0 then {ok:=true,val:=AV.int .i64 (oVM (a0_0,a0_1,a0_2,a0_3,a0_4))} else bif oVCM (a1_0,a1_1,a1_2,a1_3,a1_4,a1_5) !=0 then {ok:=true,val:=AV.int .i64 (oVCM (a1_0,a1_1,a1_2,a1_3,a1_4,a1_5))} else bif oCountsOk (a0_0,a0_1,a0_2,a0_3,a0_4) then bif (oCountsM (a0_0,a0_1,a0_2,a0_3,a0_4)).1 !=a1_0 then {ok:=true,val:=AV.int .i64 51} else bif (oCountsM (a0_0,a0_1,a0_2,a0_3,a0_4)).2 !=a1_1 then {ok:=true,val:=AV.int .i64 51} else {ok:=true,val:=AV.int .i64 0} else BR else BR:=by kernel_rfl
noncomputable def oFits_run (F:Nat) (x:CT oFits_K):Res:=runF (cx_oFits F) Tryd.f16 (groupA oFits_sh (enc oFits_K x)) []
theorem oFits_arg (F:Nat) (a0_0 a0_1 a0_2:Int) (a0_3:List Int) (a0_4:List Mo) (a1_0 a1_1 a1_2:Int) (a1_3 a1_4:List (List Int)) (a1_5:List (List Bool)):oFits_run F (a0_0,a0_1,a0_2,a0_3,a0_4,a1_0,a1_1,a1_2,a1_3,a1_4,a1_5)=runF (cx_oFits F) Tryd.f16 [AV.agg [AV.int .i64 a0_0,AV.int .i64 a0_1,AV.int .i64 a0_2,AV.ro KI a0_3,AV.ro MoK a0_4],AV.agg [AV.int .i64 a1_0,AV.int .i64 a1_1,AV.int .i64 a1_2,AV.ro KL a1_3,AV.ro KL a1_4,AV.ro (CK.slice 4 CK.bool) a1_5]] []:=by kernel_rfl
def form_K:CK:=CK.pair KI (CK.pair KI (CK.pair KI (CK.pair KL (CK.pair (CK.slice 50 MoK) (CK.pair KI (CK.pair KI (CK.pair KI (CK.pair (CK.slice 22 KL) (CK.pair (CK.slice 22 KL) (CK.pair (CK.slice 51 (CK.slice 4 CK.bool)) (CK.pair KL (CK.pair KI KL))))))))))))
def form_sh:List (Option Nat):=[some 5,some 6,some 3]
def form_R:CK:=CK.bool
def form_re:List (Option Nat):=[none]
noncomputable def form_L0r (F n:Nat) (s37:List Int) (s38 s39 h0_0 h0_1 h0_2:Int) (h0_3 h0_4:List (List Int)) (h0_5:List (List Bool)):Res:=Lp (cx_form F) (loopBy (loopsOf (cx_form F) (bodyOf Tryd.f25) (endK (cx_form F) Tryd.f25)) 5) n {T:=fr 53 [(4,AV.ptr 0 0),(37,AV.ro KI s37),(38,AV.int .i64 s38),(39,AV.int .i64 s39)],H:=[Blk.cells [AV.int .i64 h0_0,AV.int .i64 h0_1,AV.int .i64 h0_2,AV.ro KL h0_3,AV.ro KL h0_4,AV.ro (CK.slice 4 CK.bool) h0_5]],ok:=true}
noncomputable def form_L0:=Classical.choose (hideE form_L0r)
theorem form_L0_def:form_L0=form_L0r:=Classical.choose_spec (hideE form_L0r)
theorem form_L0_succ (F n:Nat) (s37:List Int) (s38 s39 h0_0 h0_1 h0_2:Int) (h0_3 h0_4:List (List Int)) (h0_5:List (List Bool)):form_L0 F (n+1) s37 s38 s39 h0_0 h0_1 h0_2 h0_3 h0_4 h0_5=bif decide (s39<s38) then bif decide (0≤s39)&&decide (s39<(s37.length:Int)) then bif decide (nth 0 s37 (Int.toNat s39)<0) then {ok:=true,val:=AV.bool false} else bif decide (0≤h0_1) then bif decide (nth 0 s37 (Int.toNat s39)≥shlI .i64 1 h0_1) then {ok:=true,val:=AV.bool false} else form_L0 F n s37 s38 (IntKind.wrap .i64 (s39+1)) h0_0 h0_1 h0_2 h0_3 h0_4 h0_5 else BR else BR else {ok:=true,val:=AV.bool true}:=by rewrite [form_L0_def];kernel_rfl
theorem form_eq (F:Nat) (a0_0 a0_1 a0_2:Int) (a0_3:List Int) (a0_4:List Mo) (a1_0 a1_1 a1_2:Int) (a1_3 a1_4:List (List Int)) (a1_5:List (List Bool)) (a2_0:List Int) (a2_1:Int) (a2_2:List Int):runF (cx_form F) Tryd.f25 [AV.agg [AV.int .i64 a0_0,AV.int .i64 a0_1,AV.int .i64 a0_2,AV.ro KI a0_3,AV.ro MoK a0_4],AV.agg [AV.int .i64 a1_0,AV.int .i64 a1_1,AV.int .i64 a1_2,AV.ro KL a1_3,AV.ro KL a1_4,AV.ro (CK.slice 4 CK.bool) a1_5],AV.agg [AV.ro KI a2_0,AV.int .i64 a2_1,AV.ro KI a2_2]] []=bif oVOk (a0_0,a0_1,a0_2,a2_0,a0_4) then bif oVM (a0_0,a0_1,a0_2,a2_0,a0_4) !=0 then {ok:=true,val:=AV.bool false} else bif decide (a2_1<0) then {ok:=true,val:=AV.bool false} else bif decide (a2_1≥(a1_3.length:Int)) then {ok:=true,val:=AV.bool false} else bif (a2_2.length:Int) !=a1_2 then {ok:=true,val:=AV.bool false} else form_L0 F F a2_2 (a2_2.length:Int) 0 a1_0 a1_1 a1_2 a1_3 a1_4 a1_5 else BR:=by rewrite [form_L0_def];kernel_rfl
noncomputable def form_run (F:Nat) (x:CT form_K):Res:=runF (cx_form F) Tryd.f25 (groupA form_sh (enc form_K x)) []
theorem form_arg (F:Nat) (a0_0 a0_1 a0_2:Int) (a0_3:List Int) (a0_4:List Mo) (a1_0 a1_1 a1_2:Int) (a1_3 a1_4:List (List Int)) (a1_5:List (List Bool)) (a2_0:List Int) (a2_1:Int) (a2_2:List Int):form_run F (a0_0,a0_1,a0_2,a0_3,a0_4,a1_0,a1_1,a1_2,a1_3,a1_4,a1_5,a2_0,a2_1,a2_2)=runF (cx_form F) Tryd.f25 [AV.agg [AV.int .i64 a0_0,AV.int .i64 a0_1,AV.int .i64 a0_2,AV.ro KI a0_3,AV.ro MoK a0_4],AV.agg [AV.int .i64 a1_0,AV.int .i64 a1_1,AV.int .i64 a1_2,AV.ro KL a1_3,AV.ro KL a1_4,AV.ro (CK.slice 4 CK.bool) a1_5],AV.agg [AV.ro KI a2_0,AV.int .i64 a2_1,AV.ro KI a2_2]] []:=by kernel_rfl
def keyOf_K:CK:=CK.pair KL (CK.pair KI KL)
def keyOf_sh:List (Option Nat):=[some 3]
def keyOf_R:CK:=CK.pair CK.str (CK.pair CK.str KI)
def keyOf_re:List (Option Nat):=[some 3]
theorem keyOf_eq (F:Nat) (a0_0:List Int) (a0_1:Int) (a0_2:List Int):runF (cx_keyOf F) Tryd.f19 [AV.agg [AV.ro KI a0_0,AV.int .i64 a0_1,AV.ro KI a0_2]] []=bif packOk a0_0 then bif packOk a0_2 then {ok:=true,val:=AV.agg [AV.str (packM a0_0),AV.str (packM a0_2),AV.int .i64 a0_1]} else BR else BR:=by kernel_rfl
noncomputable def keyOf_run (F:Nat) (x:CT keyOf_K):Res:=runF (cx_keyOf F) Tryd.f19 (groupA keyOf_sh (enc keyOf_K x)) []
theorem keyOf_arg (F:Nat) (a0_0:List Int) (a0_1:Int) (a0_2:List Int):keyOf_run F (a0_0,a0_1,a0_2)=runF (cx_keyOf F) Tryd.f19 [AV.agg [AV.ro KI a0_0,AV.int .i64 a0_1,AV.ro KI a0_2]] []:=by kernel_rfl
theorem lead_eq (F:Nat) (k w h:Int) (cells:List Int) (ms:List Mo) (rk ins:Int) (m:List ((Int×Int×Int)×Int)) (ci co cd:Int) (cn cp:List (List Int)) (cl:List (List Bool)) (sc:List Int) (ss:Int) (sd:List Int) (word:Int):runF (cx_lead F) Tryd.f20 [AV.ptr 0 0,AV.agg [AV.int .i64 ci,AV.int .i64 co,AV.int .i64 cd,AV.ro KL cn,AV.ro KL cp,AV.ro (CK.slice 4 CK.bool) cl],AV.agg [AV.ro KI sc,AV.int .i64 ss,AV.ro KI sd],AV.int .i64 word] [Blk.cells [AV.int .i64 k,AV.int .i64 w,AV.int .i64 h,AV.ro KI cells,AV.ro MoK ms,AV.int .i64 rk,AV.nils,AV.int .i64 ins,AV.mp 1],Blk.map true false (CK.pair KI (CK.pair KI KI)) KI m]=bif Res.ok (stepSpec [AV.ptr 0 0,AV.ro KI sc,AV.int .i64 word] [Blk.cells [AV.int .i64 k,AV.int .i64 w,AV.int .i64 h,AV.ro KI cells,AV.ro MoK ms,AV.int .i64 rk,AV.nils,AV.int .i64 ins,AV.mp 1],Blk.map true false (CK.pair KI (CK.pair KI KI)) KI m]) then bif (stepM (zOf [Blk.cells [AV.int .i64 k,AV.int .i64 w,AV.int .i64 h,AV.ro KI cells,AV.ro MoK ms,AV.int .i64 rk,AV.nils,AV.int .i64 ins,AV.mp 1],Blk.map true false (CK.pair KI (CK.pair KI KI)) KI m] sc word)).2.2 then {ok:=true,val:=AV.tup [AV.agg [AV.sl 2 0 0 none,AV.int .i64 0,AV.sl 3 0 0 none],AV.bool false],heap:=[Blk.cells [AV.int .i64 k,AV.int .i64 w,AV.int .i64 h,AV.ro KI cells,AV.ro MoK ms,AV.int .i64 rk,AV.nils,AV.int .i64 ins,AV.mp 1],Blk.map true false (CK.pair KI (CK.pair KI KI)) KI m,Blk.row 0 3 KI [],Blk.row 0 3 KI []]} else bif decide (0<(sd.length:Int)) then bif (stepM (zOf [Blk.cells [AV.int .i64 k,AV.int .i64 w,AV.int .i64 h,AV.ro KI cells,AV.ro MoK ms,AV.int .i64 rk,AV.nils,AV.int .i64 ins,AV.mp 1],Blk.map true false (CK.pair KI (CK.pair KI KI)) KI m] sc word)).2.1 !=nth 0 sd 0 then {ok:=true,val:=AV.tup [AV.agg [AV.sl 2 0 0 none,AV.int .i64 0,AV.sl 3 0 0 none],AV.bool false],heap:=[Blk.cells [AV.int .i64 k,AV.int .i64 w,AV.int .i64 h,AV.ro KI cells,AV.ro MoK ms,AV.int .i64 rk,AV.nils,AV.int .i64 ins,AV.mp 1],Blk.map true false (CK.pair KI (CK.pair KI KI)) KI m,Blk.row 0 3 KI [],Blk.row 0 3 KI []]} else bif decide (0≤(sd.length:Int))&&(decide ((sd.length:Int)≤(sd.length:Int))&&(decide ((sd.length:Int)*8≤140737488355328)&&decide ((sd.length:Int)≤4611686018427387904))) then bif decide (List.length sd≤List.length sd)&&decide (1≤List.length sd) then bif decide (0≤ss)&&decide (ss<(cp.length:Int)) then bif decide (0≤word)&&decide (word<(↑(List.length (nth [] cp (Int.toNat ss))):Int)) then bif decide (0≤IntKind.wrap .i64 ((↑(List.length (List.take (List.length (List.replicate (Int.toNat (sd.length:Int)) (0:Int))) (List.drop 1 sd)++List.drop (List.length (List.drop 1 sd)) (List.replicate (Int.toNat (sd.length:Int)) (0:Int)))):Int)-1))&&decide (IntKind.wrap .i64 ((↑(List.length (List.take (List.length (List.replicate (Int.toNat (sd.length:Int)) (0:Int))) (List.drop 1 sd)++List.drop (List.length (List.drop 1 sd)) (List.replicate (Int.toNat (sd.length:Int)) (0:Int)))):Int)-1)<(↑(List.length (List.take (List.length (List.replicate (Int.toNat (sd.length:Int)) (0:Int))) (List.drop 1 sd)++List.drop (List.length (List.drop 1 sd)) (List.replicate (Int.toNat (sd.length:Int)) (0:Int)))):Int)) then bif decide (Int.toNat (IntKind.wrap .i64 ((↑(List.length (List.take (List.length (List.replicate (Int.toNat (sd.length:Int)) (0:Int))) (List.drop 1 sd)++List.drop (List.length (List.drop 1 sd)) (List.replicate (Int.toNat (sd.length:Int)) (0:Int)))):Int)-1))<List.length (List.take (List.length (List.replicate (Int.toNat (sd.length:Int)) (0:Int))) (List.drop 1 sd)++List.drop (List.length (List.drop 1 sd)) (List.replicate (Int.toNat (sd.length:Int)) (0:Int)))) then bif decide (0≤ss)&&decide (ss<(cn.length:Int)) then bif decide (0≤word)&&decide (word<(↑(List.length (nth [] cn (Int.toNat ss))):Int)) then {ok:=true,val:=AV.tup [AV.agg [AV.ro KI (stepM (zOf [Blk.cells [AV.int .i64 k,AV.int .i64 w,AV.int .i64 h,AV.ro KI cells,AV.ro MoK ms,AV.int .i64 rk,AV.nils,AV.int .i64 ins,AV.mp 1],Blk.map true false (CK.pair KI (CK.pair KI KI)) KI m] sc word)).1,AV.int .i64 (nth 0 (nth [] cn (Int.toNat ss)) (Int.toNat word)),AV.sl 2 0 0 none],AV.bool true],heap:=[Blk.cells [AV.int .i64 k,AV.int .i64 w,AV.int .i64 h,AV.ro KI cells,AV.ro MoK ms,AV.int .i64 rk,AV.nils,AV.int .i64 ins,AV.mp 1],Blk.map true false (CK.pair KI (CK.pair KI KI)) KI m,Blk.row 0 3 KI ((List.set (List.take (List.length (List.replicate (Int.toNat (sd.length:Int)) (0:Int))) (List.drop 1 sd)++List.drop (List.length (List.drop 1 sd)) (List.replicate (Int.toNat (sd.length:Int)) (0:Int))) (Int.toNat (IntKind.wrap .i64 ((↑(List.length (List.take (List.length (List.replicate (Int.toNat (sd.length:Int)) (0:Int))) (List.drop 1 sd)++List.drop (List.length (List.drop 1 sd)) (List.replicate (Int.toNat (sd.length:Int)) (0:Int)))):Int)-1))) (nth 0 (nth [] cp (Int.toNat ss)) (Int.toNat word))):List Int)]} else BR else BR else BR else BR else BR else BR else BR else BR else BR else BR:=by kernel_rfl
def askedM:FiZ→Int:=fun (k,w,h,c,ms,i,o,dl,n,p,l)=>
 bif !organB k w h c ms then 50 else bif !contractOk i o dl n p l then 51 else bif decide ((cntI ms:Int)=i∧(cntO ms:Int)=o) then 0 else 51
def askedOk:FiZ→Bool:=fun (_,_,_,c,ms,_)=>decide (c.length<big∧ms.length<big)
def oFitsOk:FiZ→Bool:=askedOk
def oFitsM:FiZ→Int:=askedM
def oFitsFu:FiZ→Nat:=fun _=>1
theorem oFits_ret (z:FiZ) (hk:oFitsOk z=true):Ret oFits_re oFits_R (oFits_run (oFitsFu z) z) (oFitsM z):=by
 obtain ⟨k,w,h,c,ms,i,o,dl,n,p,l⟩:=z
 have hk':c.length<big∧ms.length<big:=of_decide_eq_true hk
 refine Ret.of (r':=I (askedM (k,w,h,c,ms,i,o,dl,n,p,l))) ((oFits_arg ..).trans ((oFits_eq ..).trans ?_)) (Ret.int _ _)
 rw[show oVOk (k,w,h,c,ms)=true from decide_eq_true hk',show oCountsOk (k,w,h,c,ms)=true from decide_eq_true hk'.2]
 simp only[askedM,oVM,organM,oVCM,validM,oCountsM,beq_ne]
 cases organB k w h c ms with
 |false=>rfl
 | true=>
  cases contractOk i o dl n p l with
  |false=>rfl
  | true=>
   by_cases c1:(cntI ms:Int)=i
   ·by_cases c2:(cntO ms:Int)=o
    ·simp[c1,c2]
    ·simp[c1,c2]
   ·simp[c1]
abbrev FoZ:=Int×Int×Int×List Int×List Mo×Int×Int×Int×List (List Int)×List (List Int)×List (List Bool)×List Int×Int×List Int
def formB (k w h:Int) (ms:List Mo) (o dl:Int) (len:Nat) (sc:List Int) (ss:Int) (sd:List Int):Bool:=
 organB k w h sc ms&&(decide (0≤ss∧ss<len)&&(decide ((sd.length:Int)=dl)&&sd.all (fineB o)))
def formOk:FoZ→Bool:=fun (_,_,_,_,ms,_,o,_,_,_,_,sc,_,sd)=>decide (sc.length<big∧ms.length<big∧sd.length<big∧0≤o∧o≤1000)
def formM:FoZ→Bool:=fun (k,w,h,_,ms,_,o,dl,n,_,_,sc,ss,sd)=>formB k w h ms o dl n.length sc ss sd
def formFu:FoZ→Nat:=fun (_,_,_,_,ms,_,o,_,_,_,_,sc,_,sd)=>sd.length+1
theorem form_L0_spec (F:Nat) {sd:List Int} {i o dl:Int} {n p:List (List Int)} {l:List (List Bool)} (ho:0≤o) (hx:sd.length<big):∀(j f q:Nat),q+j=sd.length→j<f→
  form_L0 F f sd sd.length q i o dl n p l=resB ((sd.drop q).all (fineB o))
 |j,0,q,_,h=>by omega
 |0,f+1,q,hq,_=>by
  rw[form_L0_succ,drop_len sd (by omega)]
  simp only[show ¬((q:Int)<sd.length) by omega,decide_false,cond_false,List.all_nil]
  rfl
 | j+1,f+1,q,hq,hf=>by
  have hb:sd.length<9223372036854775807:=hx
  have ih:=form_L0_spec F (i:=i) (dl:=dl) (n:=n) (p:=p) (l:=l) ho hx j f (q+1) (by omega) (by omega)
  rw[form_L0_succ,wrap_succ (i:=q) (by omega),ih,drop_nth 0 sd (show q<sd.length by omega),Int.toNat_natCast]
  simp only[show (q:Int)<sd.length by omega,show (0:Int)≤q by omega,ho,decide_true,Bool.and_self,cond_true,List.all_cons,fineB]
  by_cases c1:nth 0 sd q<0
  ·simp[c1,show ¬0≤nth 0 sd q by omega];rfl
  ·by_cases c2:nth 0 sd q≥shlI .i64 1 o
   ·simp[c1,c2,show ¬nth 0 sd q<shlI .i64 1 o by omega];rfl
   ·simp[c1,c2,show 0≤nth 0 sd q by omega,show nth 0 sd q<shlI .i64 1 o by omega]
theorem form_ret (z:FoZ) (hk:formOk z=true):Ret form_re form_R (form_run (formFu z) z) (formM z):=by
 obtain ⟨k,w,h,c,ms,i,o,dl,n,p,l,sc,ss,sd⟩:=z
 have hk':sc.length<big∧ms.length<big∧sd.length<big∧0≤o∧o≤1000:=of_decide_eq_true hk
 refine Ret.of (r':=resB (formM (k,w,h,c,ms,i,o,dl,n,p,l,sc,ss,sd))) ((form_arg ..).trans ((form_eq ..).trans ?_)) (Ret.bool _)
 have sp:=form_L0_spec (sd.length+1) (i:=i) (dl:=dl) (n:=n) (p:=p) (l:=l) hk'.2.2.2.1 hk'.2.2.1 sd.length (sd.length+1) 0 (by omega) (by omega)
 rw[List.drop_zero] at sp
 rw[show oVOk (k,w,h,sc,ms)=true from decide_eq_true ⟨hk'.1,hk'.2.1⟩,show formFu (k,w,h,c,ms,i,o,dl,n,p,l,sc,ss,sd)=sd.length+1 from rfl,show form_L0 (sd.length+1) (sd.length+1) sd sd.length 0 i o dl n p l=_ from sp]
 simp only[formM,formB,oVM,organM,beq_ne]
 cases organB k w h sc ms with
 |false=>rfl
 | true=>
  by_cases c1:ss<0
  ·simp[c1,show ¬0≤ss by omega];rfl
  ·by_cases c2:ss≥n.length
   ·simp[c1,c2,show ¬ss<n.length by omega];rfl
   ·by_cases c3:(sd.length:Int)=dl
    ·simp[c1,c2,c3,show 0≤ss by omega,show ss<n.length by omega]
    ·simp[c1,c2,c3,show 0≤ss by omega,show ss<n.length by omega];rfl
abbrev Key:=List UInt8×List UInt8×Int
def keyOfOk:Sit→Bool:=fun (a,_,d)=>packOk a&&packOk d
def keyOfM:Sit→Key:=fun (a,s,d)=>(packM a,packM d,s)
def keyOfFu:Sit→Nat:=fun _=>1
theorem keyOf_ret (z:Sit) (hk:keyOfOk z=true):Ret keyOf_re keyOf_R (keyOf_run (keyOfFu z) z) (keyOfM z):=by
 obtain ⟨a,s,d⟩:=z
 simp only[keyOfOk,Bool.and_eq_true] at hk
 refine Ret.of (r':={ok:=true,val:=AV.agg [AV.str (packM a),AV.str (packM d),AV.int .i64 s]}) ((keyOf_arg ..).trans ((keyOf_eq ..).trans ?_)) ⟨rfl,rfl,rfl,rfl,rfl,rfl,fun _ h=>by cases h⟩
 rw[hk.1,hk.2]
 rfl
abbrev SitB:=List Int×Int×List Int×Bool
def ltB (k w h:Int) (ms:List Mo) (n p:List (List Int)) (sc:List Int) (ss:Int) (sd:List Int) (word:Int):SitB:=
 bif decide (toldL w sc ms 0 0=nth 0 sd 0)&&stOk k w h ms sc word then (nextC k w h ms sc word,nth 0 (nth [] n ss.toNat) word.toNat,sd.drop 1++[nth 0 (nth [] p ss.toNat) word.toNat],true) else ([],0,[],false)
def idxB (n p:List (List Int)) (ss word:Int):Bool:=
 decide ((0≤ss∧ss<n.length∧ss<p.length)∧(0≤word∧word<(nth [] n ss.toNat).length∧word<(nth [] p ss.toNat).length))
abbrev LeZ:=BX×CTy×Sit×Int
def zL (z:LeZ):StZ:=(z.1.1,z.1.2.1,z.1.2.2.1,z.1.2.2.2.1,z.1.2.2.2.2.1,z.1.2.2.2.2.2.1,z.1.2.2.2.2.2.2.1,z.1.2.2.2.2.2.2.2,z.2.2.1.1,z.2.2.2)
def leadOk:LeZ→Bool:=fun z=>stepOk (zL z)&&(decide (1≤z.2.2.1.2.2.length∧z.2.2.1.2.2.length≤1000)&&idxB z.2.1.2.2.2.1 z.2.1.2.2.2.2.1 z.2.2.1.2.1 z.2.2.2)
def leadM:LeZ→SitB:=fun z=>
 bif !(stepM (zL z)).2.2&&decide ((stepM (zL z)).2.1=nth 0 z.2.2.1.2.2 0) then ((stepM (zL z)).1,nth 0 (nth [] z.2.1.2.2.2.1 z.2.2.1.2.1.toNat) z.2.2.2.toNat,z.2.2.1.2.2.drop 1++[nth 0 (nth [] z.2.1.2.2.2.2.1 z.2.2.1.2.1.toNat) z.2.2.2.toNat],true) else ([],0,[],false)
def dueOf (sd:List Int) (q:Int):List Int:=List.set (copyW (sd.drop 1) (List.replicate sd.length 0)) (sd.length-1) q
theorem dueOf_eq {sd:List Int} (h:1≤sd.length) (q:Int):dueOf sd q=sd.drop 1++[q]:=by
 have hl:(sd.drop 1).length=sd.length-1:=List.length_drop
 have:copyW (sd.drop 1) (List.replicate sd.length (0:Int))=sd.drop 1++[0]:=by
  simp only[copyW]
  rw[List.length_replicate,List.take_of_length_le (by omega),hl,List.drop_replicate,show sd.length-(sd.length-1)=1 by omega]
  rfl
 rw[dueOf,this,List.set_append_right _ _ (by omega),hl,Nat.sub_self]
 rfl
def failR (H:List Blk):Res:={ok:=true,val:=AV.tup [AV.agg [AV.sl 2 0 0 none,AV.int .i64 0,AV.sl 3 0 0 none],AV.bool false],heap:=H++[Blk.row 0 3 KI [],Blk.row 0 3 KI []]}
def goR (H:List Blk) (a:List Int) (s:Int) (d:List Int):Res:={ok:=true,val:=AV.tup [AV.agg [AV.ro KI a,AV.int .i64 s,AV.sl 2 0 0 none],AV.bool true],heap:=H++[Blk.row 0 3 KI d]}
theorem lead_txt (F:Nat) (k w h:Int) (cells:List Int) (ms:List Mo) (rk ins:Int) (m:MM) (ci co cd:Int) (cn cp:List (List Int)) (cl:List (List Bool)) (sc:List Int) (ss:Int) (sd:List Int) (word:Int):
  runF (cx_lead F) Tryd.f20 [AV.ptr 0 0,AV.agg [AV.int .i64 ci,AV.int .i64 co,AV.int .i64 cd,AV.ro KL cn,AV.ro KL cp,AV.ro (CK.slice 4 CK.bool) cl],AV.agg [AV.ro KI sc,AV.int .i64 ss,AV.ro KI sd],AV.int .i64 word] (bodyH k w h cells ms rk ins m)=
  bif stepOk (k,w,h,cells,ms,rk,ins,m,sc,word) then bif (stepM (k,w,h,cells,ms,rk,ins,m,sc,word)).2.2 then failR (bodyH k w h cells ms rk ins m) else bif decide (0<(sd.length:Int)) then bif (stepM (k,w,h,cells,ms,rk,ins,m,sc,word)).2.1 !=nth 0 sd 0 then failR (bodyH k w h cells ms rk ins m) else
   bif decide (0≤(sd.length:Int))&&(decide ((sd.length:Int)≤(sd.length:Int))&&(decide ((sd.length:Int)*8≤140737488355328)&&decide ((sd.length:Int)≤4611686018427387904))) then bif decide (sd.length≤sd.length)&&decide (1≤sd.length) then
    bif decide (0≤ss)&&decide (ss<(cp.length:Int)) then bif decide (0≤word)&&decide (word<((nth [] cp ss.toNat).length:Int)) then
     bif decide (0≤IntKind.wrap .i64 (((copyW (sd.drop 1) (List.replicate (Int.toNat (sd.length:Int)) 0)).length:Int)-1))&&decide (IntKind.wrap .i64 (((copyW (sd.drop 1) (List.replicate (Int.toNat (sd.length:Int)) 0)).length:Int)-1)<((copyW (sd.drop 1) (List.replicate (Int.toNat (sd.length:Int)) 0)).length:Int)) then
      bif decide (Int.toNat (IntKind.wrap .i64 (((copyW (sd.drop 1) (List.replicate (Int.toNat (sd.length:Int)) 0)).length:Int)-1))<(copyW (sd.drop 1) (List.replicate (Int.toNat (sd.length:Int)) 0)).length) then
       bif decide (0≤ss)&&decide (ss<(cn.length:Int)) then bif decide (0≤word)&&decide (word<((nth [] cn ss.toNat).length:Int)) then
        goR (bodyH k w h cells ms rk ins m) (stepM (k,w,h,cells,ms,rk,ins,m,sc,word)).1 (nth 0 (nth [] cn ss.toNat) word.toNat) (List.set (copyW (sd.drop 1) (List.replicate (Int.toNat (sd.length:Int)) 0)) (Int.toNat (IntKind.wrap .i64 (((copyW (sd.drop 1) (List.replicate (Int.toNat (sd.length:Int)) 0)).length:Int)-1))) (nth 0 (nth [] cp ss.toNat) word.toNat))
       else {ok:=false,val:= .junk} else {ok:=false,val:= .junk} else {ok:=false,val:= .junk} else {ok:=false,val:= .junk} else {ok:=false,val:= .junk} else {ok:=false,val:= .junk} else {ok:=false,val:= .junk} else {ok:=false,val:= .junk} else {ok:=false,val:= .junk} else {ok:=false,val:= .junk}:=
 (lead_eq F k w h cells ms rk ins m ci co cd cn cp cl sc ss sd word).trans (by kernel_rfl)
theorem lead_run {k w h:Int} {cells:List Int} {ms:List Mo} {rk ins:Int} {m:MM} {ci co cd:Int} {cn cp:List (List Int)} {cl:List (List Bool)} {sc:List Int} {ss:Int} {sd:List Int} {word:Int}
  (hk:leadOk ((k,w,h,cells,ms,rk,ins,m),(ci,co,cd,cn,cp,cl),(sc,ss,sd),word)=true):
  runF (cx_lead 0) Tryd.f20 [AV.ptr 0 0,AV.agg [AV.int .i64 ci,AV.int .i64 co,AV.int .i64 cd,AV.ro KL cn,AV.ro KL cp,AV.ro (CK.slice 4 CK.bool) cl],AV.agg [AV.ro KI sc,AV.int .i64 ss,AV.ro KI sd],AV.int .i64 word] (bodyH k w h cells ms rk ins m)=
  bif (leadM ((k,w,h,cells,ms,rk,ins,m),(ci,co,cd,cn,cp,cl),(sc,ss,sd),word)).2.2.2 then goR (bodyH k w h cells ms rk ins m) (leadM ((k,w,h,cells,ms,rk,ins,m),(ci,co,cd,cn,cp,cl),(sc,ss,sd),word)).1 (leadM ((k,w,h,cells,ms,rk,ins,m),(ci,co,cd,cn,cp,cl),(sc,ss,sd),word)).2.1 (leadM ((k,w,h,cells,ms,rk,ins,m),(ci,co,cd,cn,cp,cl),(sc,ss,sd),word)).2.2.1
  else failR (bodyH k w h cells ms rk ins m):=by
 simp only[leadOk,idxB,Bool.and_eq_true,decide_eq_true_eq] at hk
 obtain ⟨o1,hd,⟨s1,s2,s3⟩,w1,w2,w3⟩:=hk
 have o1':stepOk (k,w,h,cells,ms,rk,ins,m,sc,word)=true:=o1
 have d1:1≤sd.length∧sd.length≤1000:=hd
 have e1:0≤ss:=s1
 have e2:ss<(cn.length:Int):=s2
 have e3:ss<(cp.length:Int):=s3
 have f1:0≤word:=w1
 have f2:word<((nth [] cn ss.toNat).length:Int):=w2
 have f3:word<((nth [] cp ss.toNat).length:Int):=w3
 rw[lead_txt,o1',Int.toNat_natCast,copyW_len,List.length_replicate,wrap_id (n:=(sd.length:Int)-1) (by omega) (by omega),show ((sd.length:Int)-1).toNat=sd.length-1 by omega]
 rw[show List.set (copyW (sd.drop 1) (List.replicate sd.length 0)) (sd.length-1) (nth 0 (nth [] cp ss.toNat) word.toNat)=_ from dueOf_eq d1.1 _]
 rw[show leadM ((k,w,h,cells,ms,rk,ins,m),(ci,co,cd,cn,cp,cl),(sc,ss,sd),word)=bif !(stepM (k,w,h,cells,ms,rk,ins,m,sc,word)).2.2&&decide ((stepM (k,w,h,cells,ms,rk,ins,m,sc,word)).2.1=nth 0 sd 0) then ((stepM (k,w,h,cells,ms,rk,ins,m,sc,word)).1,nth 0 (nth [] cn ss.toNat) word.toNat,sd.drop 1++[nth 0 (nth [] cp ss.toNat) word.toNat],true) else ([],0,[],false) from rfl]
 generalize stepM (k,w,h,cells,ms,rk,ins,m,sc,word)=S
 obtain ⟨a,t,b⟩:=S
 simp only[e1,e2,e3,f1,f2,f3,d1.1,show (0:Int)<(sd.length:Int) by omega,show (0:Int)≤(sd.length:Int) by omega,Int.le_refl,Nat.le_refl,show (sd.length:Int)*8≤140737488355328 by omega,show (sd.length:Int)≤4611686018427387904 by omega,show (0:Int)≤(sd.length:Int)-1 by omega,show (sd.length:Int)-1<(sd.length:Int) by omega,show sd.length-1<sd.length by omega,decide_true,Bool.and_self,cond_true,beq_ne]
 cases b with
 |true=>rfl
 |false=>cases decide (t=nth 0 sd 0)<;>rfl
def ctC:AV→Bool
 | .agg [c0,c1,c2,c3,c4,c5]=>isInt .i64 c0&&(isInt .i64 c1&&(isInt .i64 c2&&(isRoX (.slice 3 (.int .i64)) c3&&(isRoX (.slice 3 (.int .i64)) c4&&isRoX (.slice 4 .bool) c5))))
 |_=>false
def ctX:AV→CTy
 | .agg [c0,c1,c2,c3,c4,c5]=>(Go.Abs.asInt c0,Go.Abs.asInt c1,Go.Abs.asInt c2,asL (.slice 3 (.int .i64)) c3,asL (.slice 3 (.int .i64)) c4,asL (.slice 4 .bool) c5)
 |_=>(0,0,0,[],[],[])
def ctV (c:CTy):AV:= .agg [.int .i64 c.1, .int .i64 c.2.1, .int .i64 c.2.2.1, .ro (.slice 3 (.int .i64)) c.2.2.2.1, .ro (.slice 3 (.int .i64)) c.2.2.2.2.1, .ro (.slice 4 .bool) c.2.2.2.2.2]
theorem ctC_eq {v:AV} (h:ctC v=true):v=ctV (ctX v):=by
 unfold ctC at h
 split at h
 ·rename_i c0 c1 c2 c3 c4 c5
  simp only[Bool.and_eq_true] at h
  obtain ⟨h0,h1,h2,h3,h4,h5⟩:=h
  simp only[ctX,ctV]
  rw[←isI_eq h0,←isI_eq h1,←isI_eq h2,←isRoX_eq h3,←isRoX_eq h4,←isRoX_eq h5]
 ·cases h
def siC:AV→Bool
 | .agg [c0,c1,c2]=>isRoX (.int .i64) c0&&(isInt .i64 c1&&isRoX (.int .i64) c2)
 |_=>false
def siX:AV→Sit
 | .agg [c0,c1,c2]=>(asL (.int .i64) c0,Go.Abs.asInt c1,asL (.int .i64) c2)
 |_=>([],0,[])
def siV (s:Sit):AV:= .agg [.ro (.int .i64) s.1, .int .i64 s.2.1, .ro (.int .i64) s.2.2]
theorem siC_eq {v:AV} (h:siC v=true):v=siV (siX v):=by
 unfold siC at h
 split at h
 ·rename_i c0 c1 c2
  simp only[Bool.and_eq_true] at h
  obtain ⟨h0,h1,h2⟩:=h
  simp only[siX,siV]
  rw[←isRoX_eq h0,←isI_eq h1,←isRoX_eq h2]
 ·cases h
def bodyHx (x:BX):List Blk:=bodyH x.1 x.2.1 x.2.2.1 x.2.2.2.1 x.2.2.2.2.1 x.2.2.2.2.2.1 x.2.2.2.2.2.2.1 x.2.2.2.2.2.2.2
theorem lead_runZ (z:LeZ) (hk:leadOk z=true):runF (cx_lead 0) Tryd.f20 [AV.ptr 0 0,ctV z.2.1,siV z.2.2.1,AV.int .i64 z.2.2.2] (bodyHx z.1)=
  bif (leadM z).2.2.2 then goR (bodyHx z.1) (leadM z).1 (leadM z).2.1 (leadM z).2.2.1 else failR (bodyHx z.1):=by
 obtain ⟨⟨k,w,h,cells,ms,rk,ins,m⟩,⟨ci,co,cd,cn,cp,cl⟩,⟨sc,ss,sd⟩,word⟩:=z
 exact lead_run hk
theorem leadM_fail (z:LeZ) (h:(leadM z).2.2.2=false):leadM z=([],0,[],false):=by
 revert h
 simp only[leadM]
 cases !(stepM (zL z)).2.2&&decide ((stepM (zL z)).2.1=nth 0 z.2.2.1.2.2 0) with
 |true=>intro h;cases h
 |false=>intro _;rfl
def leadFu:Nat:=0
def leadSpec (vs:List AV) (Hi:List Blk):Res:=
 match vs with
 | [a,c,s,d]=>⟨bodyC Hi&&(isPtr0 a&&(ctC c&&(siC s&&(isInt .i64 d&&leadOk (bodyX Hi,ctX c,siX s,Go.Abs.asInt d))))),
   .tup [.agg [.ro (.int .i64) (leadM (bodyX Hi,ctX c,siX s,Go.Abs.asInt d)).1, .int .i64 (leadM (bodyX Hi,ctX c,siX s,Go.Abs.asInt d)).2.1, .ro (.int .i64) (leadM (bodyX Hi,ctX c,siX s,Go.Abs.asInt d)).2.2.1], .bool (leadM (bodyX Hi,ctX c,siX s,Go.Abs.asInt d)).2.2.2],Hi⟩
 |_=> .bad
theorem body_cut (k w h:Int) (cells:List Int) (ms:List Mo) (rk ins:Int) (m:MM):(bodyH k w h cells ms rk ins m).all (cutB (bodyH k w h cells ms rk ins m).length)=true:=rfl
theorem nth_appHi {H l:List Blk} {b:Nat} (hb:b<H.length):nth .free (H++l) b=nth .free H b:=by
 rw[nth_lt _ _ _ (by simp;omega),nth_lt _ _ _ hb,List.getElem_append_left hb]
theorem goR_frz (x:BX) (a:List Int) (t:Int) (d:List Int):frzV (goR (bodyHx x) a t d)= .tup [.agg [.ro (.int .i64) a, .int .i64 t, .ro (.int .i64) d], .bool true]:=rfl
theorem failR_frz (x:BX):frzV (failR (bodyHx x))= .tup [.agg [.ro (.int .i64) [], .int .i64 0, .ro (.int .i64) []], .bool false]:=rfl
theorem leadSpec_ok {vs:List AV} {Hi:List Blk} (h:(leadSpec vs Hi).ok=true):∃r,runF (cx_lead 0) Tryd.f20 vs Hi=r∧r.ok=true∧(valsOf r.val).all isV=true∧(leadSpec vs Hi).val=frzV r∧(leadSpec vs Hi).heap=Hi∧
  (∀b,b<Hi.length→nth .free r.heap b=nth .free Hi b)∧(∀b∈(valsOf r.val).flatMap refs,Hi.length≤b)∧Hi.all (cutB Hi.length)=true∧Hi.length=2:=by
 unfold leadSpec at h
 split at h
 ·rename_i a c s d
  simp only[Bool.and_eq_true] at h
  obtain ⟨h0,h1,h2,h3,h4,h5⟩:=h
  have e0:=bodyC_eq h0
  have hr:=lead_runZ _ h5
  rw[show bodyHx (bodyX Hi,ctX c,siX s,Go.Abs.asInt d).1=Hi from e0.symm] at hr
  have ev:[a,c,s,d]=[AV.ptr 0 0,ctV (ctX c),siV (siX s),AV.int .i64 (Go.Abs.asInt d)]:=by rw[←isPtr0_eq h1,←ctC_eq h2,←siC_eq h3,←isI_eq h4]
  have hlen:Hi.length=2:=by rw[e0];rfl
  have hcut:Hi.all (cutB Hi.length)=true:=by rw[e0];exact body_cut ..
  refine ⟨_,(congrArg (fun v=>runF (cx_lead 0) Tryd.f20 v Hi) ev).trans hr,?_⟩
  have hf:=leadM_fail (bodyX Hi,ctX c,siX s,Go.Abs.asInt d)
  simp only[leadSpec,h0,h1,h2,h3,h4]
  generalize leadM (bodyX Hi,ctX c,siX s,Go.Abs.asInt d)=q at*
  obtain ⟨qa,qs,qd,qb⟩:=q
  cases qb with
  | true=>
   refine ⟨rfl,rfl,?_,trivial,fun b hb=>nth_appHi hb,fun b hb=> ?_,hcut,hlen⟩
   ·have e:=goR_frz (bodyX Hi) qa qs qd
    rw[show bodyHx (bodyX Hi)=Hi from e0.symm] at e
    exact e.symm
   ·rw[hlen]
    simp[goR,valsOf,refs,refs1] at hb
    omega
  | false=>
   have hq:=hf rfl
   simp only[Prod.mk.injEq,and_true] at hq
   obtain ⟨rfl,rfl,rfl⟩:=hq
   refine ⟨rfl,rfl,?_,trivial,fun b hb=>nth_appHi hb,fun b hb=> ?_,hcut,hlen⟩
   ·have e:=failR_frz (bodyX Hi)
    rw[show bodyHx (bodyX Hi)=Hi from e0.symm] at e
    exact e.symm
   ·rw[hlen]
    simp[failR,valsOf,refs,refs1] at hb
    omega
 ·cases h
noncomputable def tbTBL_1:=addC 16 (tspec oFits_sh oFits_K oFits_re oFits_R oFitsOk oFitsM) tbTB
theorem tabTBL_1:Tab Tryd.prog tbTBL_1 cxMd tbKTB:=Tab.addTy (os:=[]) tabTB tabTB (KK:=oFits_K) (R:=oFits_R) (fn:=Tryd.f16) (by kernel_rfl) (by kernel_rfl) (by kernel_rfl) (by kernel_rfl) _ oFitsFu oFits_ret
noncomputable def tbTBL_2:=addC 25 (tspec form_sh form_K form_re form_R formOk formM) tbTBL_1
theorem tabTBL_2:Tab Tryd.prog tbTBL_2 cxMd tbKTB:=Tab.addTy (os:=[]) tabTBL_1 tabTB (KK:=form_K) (R:=form_R) (fn:=Tryd.f25) (by kernel_rfl) (by kernel_rfl) (by kernel_rfl) (by kernel_rfl) _ formFu form_ret
noncomputable def tbTBL_3:=addC 19 (tspec keyOf_sh keyOf_K keyOf_re keyOf_R keyOfOk keyOfM) tbTBL_2
theorem tabTBL_3:Tab Tryd.prog tbTBL_3 cxMd tbKTB:=Tab.addTy (os:=[]) tabTBL_2 tabTB (KK:=keyOf_K) (R:=keyOf_R) (fn:=Tryd.f19) (by kernel_rfl) (by kernel_rfl) (by kernel_rfl) (by kernel_rfl) _ keyOfFu keyOf_ret
noncomputable def tbTBL_4:=addC 20 leadSpec tbTBL_3
theorem tabTBL_4:Tab Tryd.prog tbTBL_4 cxMd tbKTB:=Tab.addCut tabTBL_3 tabTB (fn:=Tryd.f20) (by kernel_rfl) (by kernel_rfl) (by kernel_rfl) (by kernel_rfl) (cx_lead 0).live (fun _ _=>leadFu) fun vs Hi h=>by
 obtain ⟨r,a1,a2,a3,a4,a5,a6,a7,a8,a9⟩:=leadSpec_ok h
 exact ⟨r,by rw[a9];exact a1,a2,a3,a4,a5,a6,a7,a8⟩
noncomputable def tbTBB:=tbTBL_4
noncomputable def tbKTBB:KT:=tbKTB
theorem tabTBB:Tab Tryd.prog tbTBB cxMd tbKTBB:=tabTBL_4
end Go.Proofs.YtiglikocfjhkcaaDoor
