/- Next of both. -/
import Derived.Test.YtiglikocfjhkcaaDoorSF
import Derived.Test.YtiglikocfjhkcaaDoorProg
import Derived.KernelRfl
set_option linter.all false
set_option linter.unusedVariables false
set_option linter.unusedSimpArgs false
open Go Go.Abs Go.Proofs
namespace Go.Proofs.YtiglikocfjhkcaaDoor
noncomputable def tbSG:=tbSFB
noncomputable def tbKSG:KT:=tbKSFB
theorem tabSG:Tab Tryd.prog tbSG cxMd tbKSG:=tabSFB
noncomputable def cx_cNext (F:Nat):Cx:={P:=Tryd.prog,C:=tbSG,K:=tbKSG,mode:=cxMd,fuel:=F+8,live:=liveTab [(5,[26,25,6,13])],pin:=0,nx:=true}
def cNext_K:CK:=CK.pair KI (CK.pair (CK.slice 121 (CK.pair KI (CK.pair KI (CK.pair KI (CK.pair KI (CK.pair KI KI)))))) (CK.pair KI (CK.pair KI (CK.pair KI (CK.pair KI KI)))))
def cNext_sh:List (Option Nat):=[some 2,none,none,none,none,none]
def cNext_R:CK:=CK.int .i64
def cNext_re:List (Option Nat):=[none]
theorem cNext_eq (F:Nat) (a0_0:Int) (a0_1:List (Int×Int×Int×Int×Int×Int)) (a1 a2 a3 a4 a5:Int):runF (cx_cNext F) Tryd.f46 [AV.agg [AV.int .i64 a0_0,AV.ro (CK.pair KI (CK.pair KI (CK.pair KI (CK.pair KI (CK.pair KI KI))))) a0_1],AV.int .i64 a1,AV.int .i64 a2,AV.int .i64 a3,AV.int .i64 a4,AV.int .i64 a5] []=bif checkOk (a0_0,a0_1) then bif checkM (a0_0,a0_1) !=0 then {ok:=true,val:=AV.int .i64 0} else bif isStateOk (a0_0,a1) then bif !isStateM (a0_0,a1) then bif isStateOk (a0_0,a2) then bif !isStateM (a0_0,a2) then bif isStateOk (a0_0,a3) then bif !isStateM (a0_0,a3) then bif isStateOk (a0_0,a4) then bif !isStateM (a0_0,a4) then bif isStateOk (a0_0,a5) then bif !isStateM (a0_0,a5) then bif decide (a0_0=0) then {ok:=true,val:=AV.int .i64 0} else bif decide (a0_0=1) then {ok:=true,val:=AV.int .i64 0} else bif decide (a0_0=2) then BR else BR else bif decide (a0_0=0) then {ok:=true,val:=AV.int .i64 (next29M (0,0,0,0,a5,false))} else bif decide (a0_0=1) then {ok:=true,val:=AV.int .i64 (next29M (0,0,0,0,a5,true))} else bif decide (a0_0=2) then BR else BR else BR else bif isStateOk (a0_0,a5) then bif !isStateM (a0_0,a5) then bif decide (a0_0=0) then {ok:=true,val:=AV.int .i64 (next29M (0,0,0,a4,0,false))} else bif decide (a0_0=1) then {ok:=true,val:=AV.int .i64 (next29M (0,0,0,a4,0,true))} else bif decide (a0_0=2) then BR else BR else bif decide (a0_0=0) then {ok:=true,val:=AV.int .i64 (next29M (0,0,0,a4,a5,false))} else bif decide (a0_0=1) then {ok:=true,val:=AV.int .i64 (next29M (0,0,0,a4,a5,true))} else bif decide (a0_0=2) then BR else BR else BR else BR else bif isStateOk (a0_0,a4) then bif !isStateM (a0_0,a4) then bif isStateOk (a0_0,a5) then bif !isStateM (a0_0,a5) then bif decide (a0_0=0) then {ok:=true,val:=AV.int .i64 (next29M (0,0,a3,0,0,false))} else bif decide (a0_0=1) then {ok:=true,val:=AV.int .i64 (next29M (0,0,a3,0,0,true))} else bif decide (a0_0=2) then BR else BR else bif decide (a0_0=0) then {ok:=true,val:=AV.int .i64 (next29M (0,0,a3,0,a5,false))} else bif decide (a0_0=1) then {ok:=true,val:=AV.int .i64 (next29M (0,0,a3,0,a5,true))} else bif decide (a0_0=2) then BR else BR else BR else bif isStateOk (a0_0,a5) then bif !isStateM (a0_0,a5) then bif decide (a0_0=0) then {ok:=true,val:=AV.int .i64 (next29M (0,0,a3,a4,0,false))} else bif decide (a0_0=1) then {ok:=true,val:=AV.int .i64 (next29M (0,0,a3,a4,0,true))} else bif decide (a0_0=2) then BR else BR else bif decide (a0_0=0) then {ok:=true,val:=AV.int .i64 (next29M (0,0,a3,a4,a5,false))} else bif decide (a0_0=1) then {ok:=true,val:=AV.int .i64 (next29M (0,0,a3,a4,a5,true))} else bif decide (a0_0=2) then BR else BR else BR else BR else BR else bif isStateOk (a0_0,a3) then bif !isStateM (a0_0,a3) then bif isStateOk (a0_0,a4) then bif !isStateM (a0_0,a4) then bif isStateOk (a0_0,a5) then bif !isStateM (a0_0,a5) then bif decide (a0_0=0) then {ok:=true,val:=AV.int .i64 (next29M (0,a2,0,0,0,false))} else bif decide (a0_0=1) then {ok:=true,val:=AV.int .i64 (next29M (0,a2,0,0,0,true))} else bif decide (a0_0=2) then BR else BR else bif decide (a0_0=0) then {ok:=true,val:=AV.int .i64 (next29M (0,a2,0,0,a5,false))} else bif decide (a0_0=1) then {ok:=true,val:=AV.int .i64 (next29M (0,a2,0,0,a5,true))} else bif decide (a0_0=2) then BR else BR else BR else bif isStateOk (a0_0,a5) then bif !isStateM (a0_0,a5) then bif decide (a0_0=0) then {ok:=true,val:=AV.int .i64 (next29M (0,a2,0,a4,0,false))} else bif decide (a0_0=1) then {ok:=true,val:=AV.int .i64 (next29M (0,a2,0,a4,0,true))} else bif decide (a0_0=2) then BR else BR else bif decide (a0_0=0) then {ok:=true,val:=AV.int .i64 (next29M (0,a2,0,a4,a5,false))} else bif decide (a0_0=1) then {ok:=true,val:=AV.int .i64 (next29M (0,a2,0,a4,a5,true))} else bif decide (a0_0=2) then BR else BR else BR else BR else bif isStateOk (a0_0,a4) then bif !isStateM (a0_0,a4) then bif isStateOk (a0_0,a5) then bif !isStateM (a0_0,a5) then bif decide (a0_0=0) then {ok:=true,val:=AV.int .i64 (next29M (0,a2,a3,0,0,false))} else bif decide (a0_0=1) then {ok:=true,val:=AV.int .i64 (next29M (0,a2,a3,0,0,true))} else bif decide (a0_0=2) then BR else BR else bif decide (a0_0=0) then {ok:=true,val:=AV.int .i64 (next29M (0,a2,a3,0,a5,false))} else bif decide (a0_0=1) then {ok:=true,val:=AV.int .i64 (next29M (0,a2,a3,0,a5,true))} else bif decide (a0_0=2) then BR else BR else BR else bif isStateOk (a0_0,a5) then bif !isStateM (a0_0,a5) then bif decide (a0_0=0) then {ok:=true,val:=AV.int .i64 (next29M (0,a2,a3,a4,0,false))} else bif decide (a0_0=1) then {ok:=true,val:=AV.int .i64 (next29M (0,a2,a3,a4,0,true))} else bif decide (a0_0=2) then BR else BR else bif decide (a0_0=0) then {ok:=true,val:=AV.int .i64 (next29M (0,a2,a3,a4,a5,false))} else bif decide (a0_0=1) then {ok:=true,val:=AV.int .i64 (next29M (0,a2,a3,a4,a5,true))} else bif decide (a0_0=2) then BR else BR else BR else BR else BR else BR else bif isStateOk (a0_0,a2) then bif !isStateM (a0_0,a2) then bif isStateOk (a0_0,a3) then bif !isStateM (a0_0,a3) then bif isStateOk (a0_0,a4) then bif !isStateM (a0_0,a4) then bif isStateOk (a0_0,a5) then bif !isStateM (a0_0,a5) then bif decide (a0_0=0) then {ok:=true,val:=AV.int .i64 (next29M (a1,0,0,0,0,false))} else bif decide (a0_0=1) then {ok:=true,val:=AV.int .i64 (next29M (a1,0,0,0,0,true))} else bif decide (a0_0=2) then BR else BR else bif decide (a0_0=0) then {ok:=true,val:=AV.int .i64 (next29M (a1,0,0,0,a5,false))} else bif decide (a0_0=1) then {ok:=true,val:=AV.int .i64 (next29M (a1,0,0,0,a5,true))} else bif decide (a0_0=2) then BR else BR else BR else bif isStateOk (a0_0,a5) then bif !isStateM (a0_0,a5) then bif decide (a0_0=0) then {ok:=true,val:=AV.int .i64 (next29M (a1,0,0,a4,0,false))} else bif decide (a0_0=1) then {ok:=true,val:=AV.int .i64 (next29M (a1,0,0,a4,0,true))} else bif decide (a0_0=2) then BR else BR else bif decide (a0_0=0) then {ok:=true,val:=AV.int .i64 (next29M (a1,0,0,a4,a5,false))} else bif decide (a0_0=1) then {ok:=true,val:=AV.int .i64 (next29M (a1,0,0,a4,a5,true))} else bif decide (a0_0=2) then BR else BR else BR else BR else bif isStateOk (a0_0,a4) then bif !isStateM (a0_0,a4) then bif isStateOk (a0_0,a5) then bif !isStateM (a0_0,a5) then bif decide (a0_0=0) then {ok:=true,val:=AV.int .i64 (next29M (a1,0,a3,0,0,false))} else bif decide (a0_0=1) then {ok:=true,val:=AV.int .i64 (next29M (a1,0,a3,0,0,true))} else bif decide (a0_0=2) then BR else BR else bif decide (a0_0=0) then {ok:=true,val:=AV.int .i64 (next29M (a1,0,a3,0,a5,false))} else bif decide (a0_0=1) then {ok:=true,val:=AV.int .i64 (next29M (a1,0,a3,0,a5,true))} else bif decide (a0_0=2) then BR else BR else BR else bif isStateOk (a0_0,a5) then bif !isStateM (a0_0,a5) then bif decide (a0_0=0) then {ok:=true,val:=AV.int .i64 (next29M (a1,0,a3,a4,0,false))} else bif decide (a0_0=1) then {ok:=true,val:=AV.int .i64 (next29M (a1,0,a3,a4,0,true))} else bif decide (a0_0=2) then BR else BR else bif decide (a0_0=0) then {ok:=true,val:=AV.int .i64 (next29M (a1,0,a3,a4,a5,false))} else bif decide (a0_0=1) then {ok:=true,val:=AV.int .i64 (next29M (a1,0,a3,a4,a5,true))} else bif decide (a0_0=2) then BR else BR else BR else BR else BR else bif isStateOk (a0_0,a3) then bif !isStateM (a0_0,a3) then bif isStateOk (a0_0,a4) then bif !isStateM (a0_0,a4) then bif isStateOk (a0_0,a5) then bif !isStateM (a0_0,a5) then bif decide (a0_0=0) then {ok:=true,val:=AV.int .i64 (next29M (a1,a2,0,0,0,false))} else bif decide (a0_0=1) then {ok:=true,val:=AV.int .i64 (next29M (a1,a2,0,0,0,true))} else bif decide (a0_0=2) then BR else BR else bif decide (a0_0=0) then {ok:=true,val:=AV.int .i64 (next29M (a1,a2,0,0,a5,false))} else bif decide (a0_0=1) then {ok:=true,val:=AV.int .i64 (next29M (a1,a2,0,0,a5,true))} else bif decide (a0_0=2) then BR else BR else BR else bif isStateOk (a0_0,a5) then bif !isStateM (a0_0,a5) then bif decide (a0_0=0) then {ok:=true,val:=AV.int .i64 (next29M (a1,a2,0,a4,0,false))} else bif decide (a0_0=1) then {ok:=true,val:=AV.int .i64 (next29M (a1,a2,0,a4,0,true))} else bif decide (a0_0=2) then BR else BR else bif decide (a0_0=0) then {ok:=true,val:=AV.int .i64 (next29M (a1,a2,0,a4,a5,false))} else bif decide (a0_0=1) then {ok:=true,val:=AV.int .i64 (next29M (a1,a2,0,a4,a5,true))} else bif decide (a0_0=2) then BR else BR else BR else BR else bif isStateOk (a0_0,a4) then bif !isStateM (a0_0,a4) then bif isStateOk (a0_0,a5) then bif !isStateM (a0_0,a5) then bif decide (a0_0=0) then {ok:=true,val:=AV.int .i64 (next29M (a1,a2,a3,0,0,false))} else bif decide (a0_0=1) then {ok:=true,val:=AV.int .i64 (next29M (a1,a2,a3,0,0,true))} else bif decide (a0_0=2) then BR else BR else bif decide (a0_0=0) then {ok:=true,val:=AV.int .i64 (next29M (a1,a2,a3,0,a5,false))} else bif decide (a0_0=1) then {ok:=true,val:=AV.int .i64 (next29M (a1,a2,a3,0,a5,true))} else bif decide (a0_0=2) then BR else BR else BR else bif isStateOk (a0_0,a5) then bif !isStateM (a0_0,a5) then bif decide (a0_0=0) then {ok:=true,val:=AV.int .i64 (next29M (a1,a2,a3,a4,0,false))} else bif decide (a0_0=1) then {ok:=true,val:=AV.int .i64 (next29M (a1,a2,a3,a4,0,true))} else bif decide (a0_0=2) then BR else BR else bif decide (a0_0=0) then {ok:=true,val:=AV.int .i64 (next29M (a1,a2,a3,a4,a5,false))} else bif decide (a0_0=1) then {ok:=true,val:=AV.int .i64 (next29M (a1,a2,a3,a4,a5,true))} else bif decide (a0_0=2) then BR else BR else BR else BR else BR else BR else BR else BR:=by kernel_rfl
noncomputable def cNext_run (F:Nat) (x:CT cNext_K):Res:=runF (cx_cNext F) Tryd.f46 (groupA cNext_sh (enc cNext_K x)) []
theorem cNext_arg (F:Nat) (a0_0:Int) (a0_1:List (Int×Int×Int×Int×Int×Int)) (a1 a2 a3 a4 a5:Int):cNext_run F (a0_0,a0_1,a1,a2,a3,a4,a5)=runF (cx_cNext F) Tryd.f46 [AV.agg [AV.int .i64 a0_0,AV.ro (CK.pair KI (CK.pair KI (CK.pair KI (CK.pair KI (CK.pair KI KI))))) a0_1],AV.int .i64 a1,AV.int .i64 a2,AV.int .i64 a3,AV.int .i64 a4,AV.int .i64 a5] []:=by kernel_rfl
abbrev NX:=Int×List Six×Int×Int×Int×Int×Int
def clp (k s:Int):Int:=bif isStateM (k,s) then s else 0
def cNextOk:NX→Bool:=fun (k,_)=>decide (k=0∨k=1)
def cNextM:NX→Int:=fun (k,_,c,e,n,w,s)=>next29M (clp k c,clp k e,clp k n,clp k w,clp k s,decide (k=1))
def cNextFu:NX→Nat:=fun _=>1
theorem cNext_ret (z:NX) (h:cNextOk z=true):Ret cNext_re cNext_R (cNext_run (cNextFu z) z) (cNextM z):=by
 obtain ⟨k,cs,c,e,n,w,s⟩:=z
 have hk:k=0∨k=1:=of_decide_eq_true h
 refine Ret.of (r':=I (cNextM (k,cs,c,e,n,w,s))) ((cNext_arg ..).trans ((cNext_eq ..).trans ?_)) (Ret.int _ _)
 have o1:checkOk (k,cs)=true:=h
 have o2:∀x,isStateOk (k,x)=true:=fun _=>h
 simp only[o1,o2,cond_true,checkM,show ((0:Int) !=0)=false from rfl,cond_false,cNextM,clp]
 rcases hk with rfl|rfl
 ·cases isStateM (0,c)<;>cases isStateM (0,e)<;>cases isStateM (0,n)<;>cases isStateM (0,w)<;>cases isStateM (0,s)<;>rfl
 ·cases isStateM (1,c)<;>cases isStateM (1,e)<;>cases isStateM (1,n)<;>cases isStateM (1,w)<;>cases isStateM (1,s)<;>rfl
def rcl (k s:Int):Int:=rStateM (bif decide (k=0) then 29 else 32,s)
def rNextM:NX→Int:=fun (k,_,c,e,n,w,s)=>wiresM (rcl k c,[rcl k e,rcl k n,rcl k w,rcl k s],decide (k=1))
theorem rState_nonneg {n s:Int}:0≤rStateM (n,s):=by
 simp only[rStateM,Bool.cond_decide]
 repeat' split
 all_goals omega
noncomputable def tbSGL_1:=addC 46 (tspec cNext_sh cNext_K cNext_re cNext_R cNextOk cNextM) tbSG
theorem tabSGL_1:Tab Tryd.prog tbSGL_1 cxMd tbKSG:=Tab.addTy (os:=[]) tabSG tabSG (KK:=cNext_K) (R:=cNext_R) (fn:=Tryd.f46) (by kernel_rfl) (by kernel_rfl) (by kernel_rfl) (by kernel_rfl) _ (fun x=>cNextFu x+8) cNext_ret
noncomputable def tbSGB:=tbSGL_1
noncomputable def tbKSGB:KT:=tbKSG
theorem tabSGB:Tab Tryd.prog tbSGB cxMd tbKSGB:=tabSGL_1
theorem clp_eq (k s:Int):clp k s=rcl k s:=by
 simp only[clp,rcl,isStateM,rStateM]
 generalize (bif decide (k=0) then (29:Int) else 32)=N
 by_cases h:0≤s
 ·by_cases h2:s<N
  ·simp[h,h2,show ¬s<0 by omega,show ¬N≤s by omega]
  ·simp[h,h2,show ¬s<0 by omega,show N≤s by omega]
 ·simp[h,show s<0 by omega]
theorem rcl_lt (k s:Int):0≤rcl k s∧rcl k s<32:=by
 refine ⟨rState_nonneg,?_⟩
 simp only[rcl,rStateM,Bool.cond_decide]
 repeat' split
 all_goals omega
theorem all32 {p:Int→Bool} (h:(List.range 32).all (fun n=>p (n:Int))=true) {s:Int} (h0:0≤s) (h1:s<32):p s=true:=by
 have:=List.all_eq_true.1 h s.toNat (by simp;omega)
 rwa [show ((s.toNat:Nat):Int)=s by omega] at this
theorem bo_cases {p:Int→Int→Bool} (h:(List.range 4).all (fun d=>(List.range 32).all (fun n=>p (n:Int) (d:Int)))=true) (i:Nat) (hi:i<4) {s:Int} (h0:0≤s) (h1:s<32):p s i=true:=
 all32 (p:=fun s=>p s i) (List.all_eq_true.1 h i (by simp;omega)) h0 h1
set_option maxRecDepth 100000 in
theorem hit_eq (i:Nat) (hi:i<4) {s:Int} (h0:0≤s) (h1:s<32):(hitByM (s,i)).1=(pointsM (s,i)&&(rExcM s&&decide (rOrdM s=true)))∧(hitByM (s,i)).2=(pointsM (s,i)&&(rExcM s&&decide (rOrdM s=false))):=by
 have:=bo_cases (p:=fun s d=>(hitByM (s,d)).1==(pointsM (s,d)&&(rExcM s&&decide (rOrdM s=true)))&&((hitByM (s,d)).2==(pointsM (s,d)&&(rExcM s&&decide (rOrdM s=false))))) (by decide+kernel) i hi h0 h1
 simpa using this
theorem litO_eq (i:Nat) (hi:i<4) {s:Int} (h0:0≤s) (h1:s<32) (o:Bool):litM (s,i,o)=(rJointM s&&decide (s≥27)||o&&(rCrossM s&&crossesM (s,i))):=by
 have:=bo_cases (p:=fun s d=>litM (s,d,true)==(rJointM s&&decide (s≥27)||(true&&(rCrossM s&&crossesM (s,d))))&&(litM (s,d,false)==(rJointM s&&decide (s≥27)||(false&&(rCrossM s&&crossesM (s,d)))))) (by decide+kernel) i hi h0 h1
 rw[Bool.and_eq_true,beq_iff_eq,beq_iff_eq] at this
 cases o
 ·exact this.2
 ·exact this.1
theorem pt_eq (i:Nat) (hi:i<4) {s:Int} (h0:0≤s) (h1:s<32):(decide ((sortOfM s).1=2)&&decide ((sortOfM s).2.1=Int.tmod (IntKind.wrap .i64 ((i:Int)+2)) 4))=(rOrdM s&&pointsM (s,i)):=by
 have:=bo_cases (p:=fun s d=>(decide ((sortOfM s).1=2)&&decide ((sortOfM s).2.1=Int.tmod (IntKind.wrap .i64 (d+2)) 4))==(rOrdM s&&pointsM (s,d))) (by decide+kernel) i hi h0 h1
 simpa using this
structure St4 (a b e d:Int):Prop where
 a0:0≤a
 a1:a<32
 b0:0≤b
 b1:b<32
 e0:0≤e
 e1:e<32
 d0:0≤d
 d1:d<32
section
variable {a b e d:Int} (h:St4 a b e d)
include h
theorem hits1:(hitsM (a,b,e,d)).1=struckM ([a,b,e,d],true, -1):=by
 have ha:(hitByM (a,0)).1=(pointsM (a,0)&&(rExcM a&&decide (rOrdM a=true))):=(hit_eq 0 (by omega) h.a0 h.a1).1
 have hb:(hitByM (b,1)).1=(pointsM (b,1)&&(rExcM b&&decide (rOrdM b=true))):=(hit_eq 1 (by omega) h.b0 h.b1).1
 have he:(hitByM (e,2)).1=(pointsM (e,2)&&(rExcM e&&decide (rOrdM e=true))):=(hit_eq 2 (by omega) h.e0 h.e1).1
 have hd:(hitByM (d,3)).1=(pointsM (d,3)&&(rExcM d&&decide (rOrdM d=true))):=(hit_eq 3 (by omega) h.d0 h.d1).1
 simp only[hitsM,struckM,strk,nth,Bool.or_false]
 rw[ha,hb,he,hd]
 rfl
theorem hits2:(hitsM (a,b,e,d)).2=struckM ([a,b,e,d],false, -1):=by
 have ha:(hitByM (a,0)).2=(pointsM (a,0)&&(rExcM a&&decide (rOrdM a=false))):=(hit_eq 0 (by omega) h.a0 h.a1).2
 have hb:(hitByM (b,1)).2=(pointsM (b,1)&&(rExcM b&&decide (rOrdM b=false))):=(hit_eq 1 (by omega) h.b0 h.b1).2
 have he:(hitByM (e,2)).2=(pointsM (e,2)&&(rExcM e&&decide (rOrdM e=false))):=(hit_eq 2 (by omega) h.e0 h.e1).2
 have hd:(hitByM (d,3)).2=(pointsM (d,3)&&(rExcM d&&decide (rOrdM d=false))):=(hit_eq 3 (by omega) h.d0 h.d1).2
 simp only[hitsM,struckM,strk,nth,Bool.or_false]
 rw[ha,hb,he,hd]
 rfl
end
theorem raise_ord (di:Int) (l:List Int) (i:Nat) (hi:i<4) (h0:0≤nth 0 l i) (h1:nth 0 l i<32):raise 2 di l i=(strk l true di i||fedJ l di true i):=by
 have e1:=(hit_eq i hi h0 h1).1
 have e2:=litO_eq i hi h0 h1 true
 show (!decide ((i:Int)=di)&&(true&&(hitByM (nth 0 l i,(i:Int))).1||(false&&(hitByM (nth 0 l i,(i:Int))).2||litM (nth 0 l i,(i:Int),true))))=(!decide ((i:Int)=di)&&(pointsM (nth 0 l i,(i:Int))&&(rExcM (nth 0 l i)&&decide (rOrdM (nth 0 l i)=true)))|| !decide ((i:Int)=di)&&(rJointM (nth 0 l i)&&decide (nth 0 l i≥27)||true&&(rCrossM (nth 0 l i)&&crossesM (nth 0 l i,(i:Int)))))
 rw[e1,e2]
 generalize (pointsM (nth 0 l i,(i:Int))&&(rExcM (nth 0 l i)&&decide (rOrdM (nth 0 l i)=true)))=A
 generalize (rJointM (nth 0 l i)&&decide (nth 0 l i≥27)||true&&(rCrossM (nth 0 l i)&&crossesM (nth 0 l i,(i:Int))))=B
 generalize (hitByM (nth 0 l i,(i:Int))).2=Z
 cases decide ((i:Int)=di)<;>cases A<;>cases B<;>cases Z<;>rfl
theorem raise_spec (di:Int) (l:List Int) (i:Nat) (hi:i<4) (h0:0≤nth 0 l i) (h1:nth 0 l i<32):raise 3 di l i=(strk l false di i||fedJ l di false i):=by
 have e1:=(hit_eq i hi h0 h1).2
 have e2:=litO_eq i hi h0 h1 false
 show (!decide ((i:Int)=di)&&(false&&(hitByM (nth 0 l i,(i:Int))).1||(true&&(hitByM (nth 0 l i,(i:Int))).2||litM (nth 0 l i,(i:Int),false))))=(!decide ((i:Int)=di)&&(pointsM (nth 0 l i,(i:Int))&&(rExcM (nth 0 l i)&&decide (rOrdM (nth 0 l i)=false)))|| !decide ((i:Int)=di)&&(rJointM (nth 0 l i)&&decide (nth 0 l i≥27)||false&&(rCrossM (nth 0 l i)&&crossesM (nth 0 l i,(i:Int)))))
 rw[e1,e2]
 generalize (pointsM (nth 0 l i,(i:Int))&&(rExcM (nth 0 l i)&&decide (rOrdM (nth 0 l i)=false)))=A
 generalize (rJointM (nth 0 l i)&&decide (nth 0 l i≥27)||false&&(rCrossM (nth 0 l i)&&crossesM (nth 0 l i,(i:Int))))=B
 generalize (hitByM (nth 0 l i,(i:Int))).1=Z
 cases decide ((i:Int)=di)<;>cases A<;>cases B<;>cases Z<;>rfl
section
variable {a b e d:Int} (h:St4 a b e d)
include h
theorem any_ord (di:Int):anyR 2 di [a,b,e,d]=(struckM ([a,b,e,d],true,di)||fedM ([a,b,e,d],di,true)):=by
 simp only[anyR,struckM,fedM]
 rw[raise_ord di [a,b,e,d] 0 (by omega) h.a0 h.a1,raise_ord di [a,b,e,d] 1 (by omega) h.b0 h.b1,raise_ord di [a,b,e,d] 2 (by omega) h.e0 h.e1,raise_ord di [a,b,e,d] 3 (by omega) h.d0 h.d1]
 generalize strk [a,b,e,d] true di 0=x0
 generalize strk [a,b,e,d] true di 1=x1
 generalize strk [a,b,e,d] true di 2=x2
 generalize strk [a,b,e,d] true di 3=x3
 generalize fedJ [a,b,e,d] di true 0=y0
 generalize fedJ [a,b,e,d] di true 1=y1
 generalize fedJ [a,b,e,d] di true 2=y2
 generalize fedJ [a,b,e,d] di true 3=y3
 revert x0 x1 x2 x3 y0 y1 y2 y3;decide
theorem any_spec (di:Int):anyR 3 di [a,b,e,d]=(struckM ([a,b,e,d],false,di)||fedM ([a,b,e,d],di,false)):=by
 simp only[anyR,struckM,fedM]
 rw[raise_spec di [a,b,e,d] 0 (by omega) h.a0 h.a1,raise_spec di [a,b,e,d] 1 (by omega) h.b0 h.b1,raise_spec di [a,b,e,d] 2 (by omega) h.e0 h.e1,raise_spec di [a,b,e,d] 3 (by omega) h.d0 h.d1]
 generalize strk [a,b,e,d] false di 0=x0
 generalize strk [a,b,e,d] false di 1=x1
 generalize strk [a,b,e,d] false di 2=x2
 generalize strk [a,b,e,d] false di 3=x3
 generalize fedJ [a,b,e,d] di false 0=y0
 generalize fedJ [a,b,e,d] di false 1=y1
 generalize fedJ [a,b,e,d] di false 2=y2
 generalize fedJ [a,b,e,d] di false 3=y3
 revert x0 x1 x2 x3 y0 y1 y2 y3;decide
end
theorem ord_ne {s:Int} (h0:0≤s) (h1:s<32):((sortOfM s).1 !=2)= !rOrdM s:=by
 have:=all32 (p:=fun s=>((sortOfM s).1 !=2)== !rOrdM s) (by decide+kernel) h0 h1
 simpa using this
theorem ord_pts (i:Nat) (hi:i<4) {s:Int} (h0:0≤s) (h1:s<32) (ho:rOrdM s=true):pointsM (s,i)=decide ((sortOfM s).2.1=Int.tmod (IntKind.wrap .i64 ((i:Int)+2)) 4):=by
 have:=bo_cases (p:=fun s d=> !rOrdM s||(pointsM (s,d)==decide ((sortOfM s).2.1=Int.tmod (IntKind.wrap .i64 (d+2)) 4))) (by decide+kernel) i hi h0 h1
 rw[ho] at this
 simpa using this
theorem ord_exc {s:Int} (h0:0≤s) (h1:s<32) (ho:rOrdM s=true):rExcM s=(sortOfM s).2.2:=by
 have:=all32 (p:=fun s=> !rOrdM s||(rExcM s==(sortOfM s).2.2)) (by decide+kernel) h0 h1
 rw[ho] at this
 simpa using this
theorem jend_eq {c:Int} (h0:25≤c) (h1:c<32) (u:Bool):(bif u then IntKind.wrap .i64 (jbase (jnx c)+1) else jbase (jnx c))=rjend c u:=by
 have:=all32 (p:=fun c=>decide (c<25)||(((bif true then IntKind.wrap .i64 (jbase (jnx c)+1) else jbase (jnx c))==rjend c true)&&((bif false then IntKind.wrap .i64 (jbase (jnx c)+1) else jbase (jnx c))==rjend c false))) (by decide+kernel) (by omega:0≤c) h1
 rw[decide_eq_false (show ¬c<25 by omega),Bool.false_or,Bool.and_eq_true,beq_iff_eq,beq_iff_eq] at this
 cases u
 ·exact this.2
 ·exact this.1
theorem ptg_eq (l:List Int) (i:Nat) (hi:i<4) (h0:0≤nth 0 l i) (h1:nth 0 l i<32):ptg l i=rpt l i:=pt_eq i hi h0 h1
theorem on_eq (l:List Int) (i:Nat) (hi:i<4) (h0:0≤nth 0 l i) (h1:nth 0 l i<32):(!ptg l i||onn l i)=(!rpt l i||rExcM (nth 0 l i)):=by
 rw[ptg_eq l i hi h0 h1]
 cases hp:rpt l i with
 |false=>rfl
 |true=>
  simp only[rpt,Bool.and_eq_true] at hp
  rw[ord_exc h0 h1 hp.1];rfl
section
variable {a b e d:Int} (h:St4 a b e d)
include h
theorem some_eq:someP [a,b,e,d]=rsome [a,b,e,d]:=by
 simp only[someP,rsome]
 rw[ptg_eq [a,b,e,d] 0 (by omega) h.a0 h.a1,ptg_eq [a,b,e,d] 1 (by omega) h.b0 h.b1,ptg_eq [a,b,e,d] 2 (by omega) h.e0 h.e1,ptg_eq [a,b,e,d] 3 (by omega) h.d0 h.d1]
theorem all_eq:allP [a,b,e,d]=rall [a,b,e,d]:=by
 simp only[allP,rall]
 rw[on_eq [a,b,e,d] 0 (by omega) h.a0 h.a1,on_eq [a,b,e,d] 1 (by omega) h.b0 h.b1,on_eq [a,b,e,d] 2 (by omega) h.e0 h.e1,on_eq [a,b,e,d] 3 (by omega) h.d0 h.d1]
end
theorem axis_eq (i k:Nat) (hi:i<4) (hk:k<4) (l:List Int) (h0:0≤nth 0 l i) (h1:nth 0 l i<32) (g0:0≤nth 0 l k) (g1:nth 0 l k<32):
  acr l i k=(rOrdM (nth 0 l i)&&(rOrdM (nth 0 l k)&&(isIn (nth 0 l i) (Int.tmod (IntKind.wrap .i64 ((i:Int)+2)) 4)&& !isIn (nth 0 l k) (Int.tmod (IntKind.wrap .i64 ((k:Int)+2)) 4)))):=by
 simp only[acr,isIn]
 cases ha:rOrdM (nth 0 l i) with
 |false=>rfl
 | true=>
  cases hb:rOrdM (nth 0 l k) with
  |false=>cases pointsM (nth 0 l i,(i:Int))<;>rfl
  |true=>
   rw[ord_pts i hi h0 h1 ha,ord_pts k hk g0 g1 hb]
   rfl
section
variable {a b e d:Int} (h:St4 a b e d)
include h
theorem ax0:acr [a,b,e,d] 0 2=(rOrdM a&&(rOrdM e&&(isIn a 2&& !isIn e 0))):=axis_eq 0 2 (by omega) (by omega) [a,b,e,d] h.a0 h.a1 h.e0 h.e1
theorem ax2:acr [a,b,e,d] 2 0=(rOrdM e&&(rOrdM a&&(isIn e 0&& !isIn a 2))):=axis_eq 2 0 (by omega) (by omega) [a,b,e,d] h.e0 h.e1 h.a0 h.a1
theorem ax1:acr [a,b,e,d] 1 3=(rOrdM b&&(rOrdM d&&(isIn b 3&& !isIn d 1))):=axis_eq 1 3 (by omega) (by omega) [a,b,e,d] h.b0 h.b1 h.d0 h.d1
theorem ax3:acr [a,b,e,d] 3 1=(rOrdM d&&(rOrdM b&&(isIn d 1&& !isIn b 3))):=axis_eq 3 1 (by omega) (by omega) [a,b,e,d] h.d0 h.d1 h.b0 h.b1
theorem joined_eq' {c:Int} (h0:25≤c) (h1:c<32) (x:Bool):jointNextM (c,a,b,e,d,x)=joinedM (c,[a,b,e,d],x):=by
 have hj:jend (jnx c) [a,b,e,d]=rjend c (rsome [a,b,e,d]&&rall [a,b,e,d]):=by
  simp only[jend]
  rw[some_eq h,all_eq h,jend_eq h0 h1]
 simp only[jointNextM,joinedM,hj,hits2 h]
 cases struckM ([a,b,e,d],false, -1) with
 |true=>rfl
 | false=>
  cases x with
  |false=>rfl
  |true=>
   simp only[cAcrossM,crossM,rAcrossM,show decide ((1:Int)=0)=false from rfl,decide_true,cond_true,cond_false,ax0 h,ax1 h,ax2 h,ax3 h,ord_ne h.a0 h.a1,ord_ne h.b0 h.b1,ord_ne h.e0 h.e1,ord_ne h.d0 h.d1,Bool.not_not]
   cases oa:rOrdM a<;>cases oe:rOrdM e<;>try rfl
   cases ob:rOrdM b<;>cases od:rOrdM d<;>try (cases isIn a 2<;>cases isIn e 0<;>rfl)
   have ea:=ord_exc h.a0 h.a1 oa
   have eb:=ord_exc h.b0 h.b1 ob
   have ee:=ord_exc h.e0 h.e1 oe
   have ed:=ord_exc h.d0 h.d1 od
   rw[←ea,←eb,←ee,←ed]
   cases isIn a 2<;>cases isIn e 0<;>cases isIn b 3<;>cases isIn d 1<;>try rfl
   all_goals (simp only[nth,show Int.toNat 0=0 from rfl,show Int.toNat 1=1 from rfl,show Int.toNat 2=2 from rfl,show Int.toNat 3=3 from rfl,Bool.and_true,Bool.and_false,Bool.true_and,Bool.false_and,Bool.not_true,Bool.not_false,cond_true,cond_false,Bool.bne_true,Bool.bne_false,bne_self_eq_false];try rfl)
end
theorem ord_dir {c:Int} (h0:9≤c) (h1:c<17):(sortOfM c).1=2∧(sortOfM c).2.1=headingM c∧IntKind.wrap .i64 (IntKind.wrap .i64 (9+(sortOfM c).2.1)+4)=IntKind.wrap .i64 (13+headingM c)∧rOrdM c=true:=by
 have:=all32 (p:=fun c=>decide (c<9)||(decide (17≤c)||(decide ((sortOfM c).1=2)&&(decide ((sortOfM c).2.1=headingM c)&&(decide (IntKind.wrap .i64 (IntKind.wrap .i64 (9+(sortOfM c).2.1)+4)=IntKind.wrap .i64 (13+headingM c))&&rOrdM c))))) (by decide+kernel) (by omega:0≤c) (by omega:c<32)
 rw[decide_eq_false (show ¬c<9 by omega),decide_eq_false (show ¬17≤c by omega)] at this
 simpa using this
theorem spec_dir {c:Int} (h0:17≤c) (h1:c<25):(sortOfM c).1=3∧(sortOfM c).2.1=headingM c∧IntKind.wrap .i64 (IntKind.wrap .i64 (17+(sortOfM c).2.1)+4)=IntKind.wrap .i64 (21+headingM c)∧rOrdM c=false∧rSpecM c=true:=by
 have:=all32 (p:=fun c=>decide (c<17)||(decide (25≤c)||(decide ((sortOfM c).1=3)&&(decide ((sortOfM c).2.1=headingM c)&&(decide (IntKind.wrap .i64 (IntKind.wrap .i64 (17+(sortOfM c).2.1)+4)=IntKind.wrap .i64 (21+headingM c))&&(!rOrdM c&&rSpecM c)))))) (by decide+kernel) (by omega:0≤c) (by omega:c<32)
 rw[decide_eq_false (show ¬c<17 by omega),decide_eq_false (show ¬25≤c by omega)] at this
 simpa using this
theorem joint_sort {c:Int} (h0:25≤c) (h1:c<32):((sortOfM c).1=4∨(sortOfM c).1=5)∧rOrdM c=false∧rSpecM c=false:=by
 have:=all32 (p:=fun c=>decide (c<25)||((decide ((sortOfM c).1=4)||decide ((sortOfM c).1=5))&&(!rOrdM c&& !rSpecM c))) (by decide+kernel) (by omega:0≤c) h1
 rw[decide_eq_false (show ¬c<25 by omega)] at this
 simpa using this
theorem core {c a b e d:Int} (h:St4 a b e d) (h0:0≤c) (h1:c<32) (x:Bool):next29M (c,a,b,e,d,x)=wiresM (c,[a,b,e,d],x):=by
 simp only[next29M,wiresM,hits1 h,hits2 h]
 have key:c=0∨(1≤c∧c<9)∨(9≤c∧c<17)∨(17≤c∧c<25)∨25≤c:=by omega
 rcases key with rfl|hc|hc|hc|hc
 ·rfl
 ·have hs:(sortOfM c).1=1:=by simp[sortOfM,hc]
  rw[hs,decide_eq_false (show ¬c=0 by omega),decide_eq_true hc.2]
  rfl
 ·obtain ⟨hs,hd,hw,ho⟩:=ord_dir hc.1 hc.2
  rw[hs,decide_eq_false (show ¬c=0 by omega),decide_eq_false (show ¬c<9 by omega),ho]
  simp only[wireNextM,hs,hits2 h,wchain,l4,hw]
  rw[hd,any_ord h]
  rfl
 ·obtain ⟨hs,hd,hw,ho,hp⟩:=spec_dir hc.1 hc.2
  rw[hs,decide_eq_false (show ¬c=0 by omega),decide_eq_false (show ¬c<9 by omega),ho,hp]
  simp only[wireNextM,hs,hits1 h,wchain,l4,hw]
  rw[hd,any_spec h]
  rfl
 ·obtain ⟨hs,ho,hp⟩:=joint_sort hc h1
  rw[decide_eq_false (show ¬c=0 by omega),decide_eq_false (show ¬c<9 by omega),ho,hp,joined_eq' h hc h1]
  rcases hs with hs|hs<;>rw[hs]<;>rfl
theorem next_eq (z:NX):cNextM z=rNextM z:=by
 obtain ⟨k,cs,c,e,n,w,s⟩:=z
 simp only[cNextM,rNextM,clp_eq]
 exact core ⟨(rcl_lt k e).1,(rcl_lt k e).2,(rcl_lt k n).1,(rcl_lt k n).2,(rcl_lt k w).1,(rcl_lt k w).2,(rcl_lt k s).1,(rcl_lt k s).2⟩ (rcl_lt k c).1 (rcl_lt k c).2 _
end Go.Proofs.YtiglikocfjhkcaaDoor
