/- The laws of newBody and of what an organ meets outside. -/
import Derived.Test.YtiglikocfjhkcaaDoorSJ
import Derived.Test.YtiglikocfjhkcaaDoorProg
import Derived.KernelRfl
set_option linter.all false
set_option linter.unusedVariables false
set_option linter.unusedSimpArgs false
open Go Go.Abs Go.Proofs
namespace Go.Proofs.YtiglikocfjhkcaaDoor
noncomputable def tbSK_1:=addC 51 (inl Tryd.prog tbSJB cxMd tbKSJB Tryd.f51) tbSJB
noncomputable def tbKSK_1:KT:=addK 51 (inlK Tryd.prog tbSJB cxMd tbKSJB Tryd.f51) tbKSJB
theorem tabSK_1:Tab Tryd.prog tbSK_1 cxMd tbKSK_1:=Tab.addInl tabSJB tabSJB (fn:=Tryd.f51) (by kernel_rfl) (by kernel_rfl) (by kernel_rfl)
noncomputable def tbSK:=tbSK_1
noncomputable def tbKSK:KT:=tbKSK_1
theorem tabSK:Tab Tryd.prog tbSK cxMd tbKSK:=tabSK_1
noncomputable def cx_newBody (F:Nat):Cx:={P:=Tryd.prog,C:=tbSK,K:=tbKSK,mode:=cxMd,fuel:=F,live:=liveTab [(4,[4,18,17,16,3])],pin:=0,nx:=true}
def newBody_K:CK:=CK.pair KI (CK.pair KI (CK.pair KI (CK.pair KL (CK.slice 50 MoK))))
def newBody_sh:List (Option Nat):=[some 5]
noncomputable def newBody_L0r (F n:Nat) (s4:Int) (s16:List Mo) (s17 s18 h0_0 h0_1 h0_2:Int) (h0_3:List Int) (h0_4:List Mo) (h0_5 h0_7:Int) (h1:List ((Int×Int×Int)×Int)):Res:=Lp (cx_newBody F) (loopBy (loopsOf (cx_newBody F) (bodyOf Tryd.f17) (endK (cx_newBody F) Tryd.f17)) 4) n {T:=fr 58 [(3,AV.ptr 0 0),(4,AV.int .i64 s4),(16,AV.ro MoK s16),(17,AV.int .i64 s17),(18,AV.int .i64 s18)],H:=[Blk.cells [AV.int .i64 h0_0,AV.int .i64 h0_1,AV.int .i64 h0_2,AV.ro KI h0_3,AV.ro MoK h0_4,AV.int .i64 h0_5,AV.nils,AV.int .i64 h0_7,AV.mp 1],Blk.map true false (CK.pair KI (CK.pair KI KI)) KI h1],ok:=true}
noncomputable def newBody_L0:=Classical.choose (hideE newBody_L0r)
theorem newBody_L0_def:newBody_L0=newBody_L0r:=Classical.choose_spec (hideE newBody_L0r)
theorem newBody_L0_succ (F n:Nat) (s4:Int) (s16:List Mo) (s17 s18 h0_0 h0_1 h0_2:Int) (h0_3:List Int) (h0_4:List Mo) (h0_5 h0_7:Int) (h1:List ((Int×Int×Int)×Int)):newBody_L0 F (n+1) s4 s16 s17 s18 h0_0 h0_1 h0_2 h0_3 h0_4 h0_5 h0_7 h1=bif decide (s18<s17) then bif decide (0≤s18)&&decide (s18<(s16.length:Int)) then bif (nth (0,0,0,false) s16 (Int.toNat s18)).2.2.2 then newBody_L0 F n (IntKind.wrap .i64 (s4+1)) s16 s17 (IntKind.wrap .i64 (s18+1)) h0_0 h0_1 h0_2 h0_3 h0_4 h0_5 h0_7 (insM (CK.pair KI (CK.pair KI KI)) h1 (((nth (0,0,0,false) s16 (Int.toNat s18)).1,(nth (0,0,0,false) s16 (Int.toNat s18)).2.1,(nth (0,0,0,false) s16 (Int.toNat s18)).2.2.1):(Int×(Int×Int))) (IntKind.wrap .i64 (100+s4))) else newBody_L0 F n s4 s16 s17 (IntKind.wrap .i64 (s18+1)) h0_0 h0_1 h0_2 h0_3 h0_4 h0_5 (IntKind.wrap .i64 (h0_7+1)) (insM (CK.pair KI (CK.pair KI KI)) h1 (((nth (0,0,0,false) s16 (Int.toNat s18)).1,(nth (0,0,0,false) s16 (Int.toNat s18)).2.1,(nth (0,0,0,false) s16 (Int.toNat s18)).2.2.1):(Int×(Int×Int))) h0_7) else BR else {ok:=true,val:=AV.ptr 0 0,heap:=[Blk.cells [AV.int .i64 h0_0,AV.int .i64 h0_1,AV.int .i64 h0_2,AV.ro KI h0_3,AV.ro MoK h0_4,AV.int .i64 h0_5,AV.nils,AV.int .i64 h0_7,AV.mp 1],Blk.map true false (CK.pair KI (CK.pair KI KI)) KI h1]}:=by rewrite [newBody_L0_def];kernel_rfl
theorem newBody_eq (F:Nat) (a0_0 a0_1 a0_2:Int) (a0_3:List Int) (a0_4:List Mo):runF (cx_newBody F) Tryd.f17 [AV.agg [AV.int .i64 a0_0,AV.int .i64 a0_1,AV.int .i64 a0_2,AV.ro KI a0_3,AV.ro MoK a0_4]] []=newBody_L0 F F 0 a0_4 (a0_4.length:Int) 0 a0_0 a0_1 a0_2 a0_3 a0_4 a0_0 0 []:=by rewrite [newBody_L0_def];kernel_rfl
noncomputable def newBody_run (F:Nat) (x:CT newBody_K):Res:=runF (cx_newBody F) Tryd.f17 (groupA newBody_sh (enc newBody_K x)) []
theorem newBody_arg (F:Nat) (a0_0 a0_1 a0_2:Int) (a0_3:List Int) (a0_4:List Mo):newBody_run F (a0_0,a0_1,a0_2,a0_3,a0_4)=runF (cx_newBody F) Tryd.f17 [AV.agg [AV.int .i64 a0_0,AV.int .i64 a0_1,AV.int .i64 a0_2,AV.ro KI a0_3,AV.ro MoK a0_4]] []:=by kernel_rfl
abbrev MM:=List ((Int×Int×Int)×Int)
def ordinaryM (dir:Int) (on:Bool):Int:=bif decide (dir<0) then 0 else bif decide (dir>3) then 0 else bif on then IntKind.wrap .i64 (13+dir) else IntKind.wrap .i64 (9+dir)
def bitM (word k:Int):Bool:=decide (andI .i64 (shrI .i64 word k) 1=1)
def bodyMap:List Mo→Nat→Nat→MM→MM
 |[],_,_,m=>m
 |(x,y,d,o)::r,a,b,m=>bif o then bodyMap r (a+1) b (insM K3 m ((x,y,d):Int×Int×Int) (100+a:Int)) else bodyMap r a (b+1) (insM K3 m ((x,y,d):Int×Int×Int) (b:Int))
def bodyR (k w h:Int) (cells:List Int) (ms:List Mo) (rk ins:Int) (m:MM):Res:=
 {ok:=true,val:=AV.ptr 0 0,heap:=[Blk.cells [AV.int .i64 k,AV.int .i64 w,AV.int .i64 h,AV.ro KI cells,AV.ro MoK ms,AV.int .i64 rk,AV.nils,AV.int .i64 ins,AV.mp 1],Blk.map true false (CK.pair KI (CK.pair KI KI)) KI m]}
theorem newBody_L0_spec (F:Nat) (k w h:Int) (cells:List Int) (ms:List Mo) (rk:Int) (hx:ms.length<1000):∀(j n i a b:Nat) (m:MM),i+j=ms.length→j<n→a+b=i→
  newBody_L0 F n a ms ms.length i k w h cells ms rk b m=bodyR k w h cells ms rk ((b+cntI (ms.drop i):Nat):Int) (bodyMap (ms.drop i) a b m)
 |j,0,i,_,_,_,_,h,_=>by omega
 |0,n+1,i,a,b,m,hi,_,_=>by
  rw[newBody_L0_succ,drop_len ms (by omega)]
  simp only[show ¬((i:Int)<ms.length) by omega,decide_false,cond_false,cntI,bodyMap,Nat.add_zero]
  rfl
 | j+1,n+1,i,a,b,m,hi,hn,hab=>by
  have ih1:=fun m=>newBody_L0_spec F k w h cells ms rk hx j n (i+1) (a+1) b m (by omega) (by omega) (by omega)
  have ih2:=fun m=>newBody_L0_spec F k w h cells ms rk hx j n (i+1) a (b+1) m (by omega) (by omega) (by omega)
  rw[newBody_L0_succ,wrap_succ (i:=i) (by omega),wrap_succ (i:=a) (by omega),wrap_succ (i:=b) (by omega),drop_nth (0,0,0,false) ms (show i<ms.length by omega),Int.toNat_natCast,wrap_id (n:=100+(a:Int)) (by omega) (by omega)]
  generalize nth (0,0,0,false) ms i=q
  obtain ⟨x,y,d,o⟩:=q
  simp only[show (i:Int)<ms.length by omega,show (0:Int)≤i by omega,decide_true,Bool.and_self,cond_true]
  cases o with
  |true=>
   simp only[cond_true]
   refine (ih1 _).trans ?_
   rw[show b+cntI (ms.drop (i+1))=b+cntI ((x,y,d,true)::ms.drop (i+1)) by simp only[cntI,cond_true];omega]
   rfl
  |false=>
   simp only[cond_false]
   refine (ih2 _).trans ?_
   rw[show b+1+cntI (ms.drop (i+1))=b+cntI ((x,y,d,false)::ms.drop (i+1)) by simp only[cntI,cond_false];omega]
   rfl
def newBodyOk:Organ→Bool:=fun (_,_,_,_,ms)=>decide (ms.length<1000)
def newBodyR:Organ→Res:=fun (k,w,h,cells,ms)=>bodyR k w h cells ms k (cntI ms:Nat) (bodyMap ms 0 0 [])
def newBodyFu:Organ→Nat:=fun (_,_,_,_,ms)=>ms.length+1
theorem newBody_retR (z:Organ) (hk:newBodyOk z=true):newBody_run (newBodyFu z) z=newBodyR z∧(newBodyR z).ok=true:=by
 obtain ⟨k,w,h,cells,ms⟩:=z
 have hk':ms.length<1000:=of_decide_eq_true hk
 refine ⟨(newBody_arg ..).trans ((newBody_eq ..).trans ?_),rfl⟩
 have:=newBody_L0_spec (ms.length+1) k w h cells ms k hk' ms.length (ms.length+1) 0 0 0 [] (by omega) (by omega) rfl
 rw[List.drop_zero,Nat.zero_add] at this
 exact this
def meetsL (word x y:Int):List Mo→Nat→Int
 |[],_=>0
 |m::r,b=>bif decide ((outerM m).1=x)&&decide ((outerM m).2=y) then (bif m.2.2.2 then ordinaryM m.2.2.1 false else ordinaryM (Int.tmod (IntKind.wrap .i64 (m.2.2.1+2)) 4) (bitM word b)) else meetsL word x y r (bif m.2.2.2 then b else b+1)
noncomputable def tbSKL_1:=addC 17 (tspecR newBody_sh newBody_K newBodyOk newBodyR) tbSK
theorem tabSKL_1:Tab Tryd.prog tbSKL_1 cxMd tbKSK:=Tab.addTyR (os:=[]) tabSK tabSK (KK:=newBody_K) (fn:=Tryd.f17) (by kernel_rfl) (by kernel_rfl) (by kernel_rfl) (by kernel_rfl) _ newBodyFu newBody_retR
noncomputable def tbSKB:=tbSKL_1
noncomputable def tbKSKB:KT:=tbKSK
theorem tabSKB:Tab Tryd.prog tbSKB cxMd tbKSKB:=tabSKL_1
noncomputable def tbSL:=tbSKB
noncomputable def tbKSL:KT:=tbKSKB
theorem tabSL:Tab Tryd.prog tbSL cxMd tbKSL:=tabSKB
noncomputable def cx_outerB (F:Nat):Cx:={P:=Tryd.prog,C:=tbSL,K:=tbKSL,mode:=cxMd,fuel:=F,live:=liveTab [],pin:=0,nx:=true}
def outerB_K:CK:=CK.pair KI (CK.pair KI (CK.pair KI (CK.pair KL (CK.pair (CK.slice 50 MoK) (CK.pair KI (CK.pair (CK.slice 121 (CK.pair KI (CK.pair KI (CK.pair KI (CK.pair KI (CK.pair KI KI)))))) (CK.pair KI (CK.pair (CK.map true false (CK.pair KI (CK.pair KI KI)) KI) (CK.pair KI (CK.pair KI (CK.pair KI KI)))))))))))
def outerB_sh:List Sh:=[.ref 9, .one, .one, .one, .one]
def outerB_R:CK:=CK.pair KI CK.bool
def outerB_re:List (Option Nat):=[none,none]
theorem outerB_eq (F:Nat) (a0 a1 a2:Int) (a3:List Int) (a4:List Mo) (a5:Int) (a6:List (Int×Int×Int×Int×Int×Int)) (a7:Int) (a8:List ((Int×Int×Int)×Int)) (a9 a10 a11 a12:Int):runF (cx_outerB F) Tryd.f44 [AV.rptr [AV.int .i64 a0,AV.int .i64 a1,AV.int .i64 a2,AV.ro KI a3,AV.ro MoK a4,AV.int .i64 a5,AV.ro (CK.pair KI (CK.pair KI (CK.pair KI (CK.pair KI (CK.pair KI KI))))) a6,AV.int .i64 a7,AV.rmap true false (CK.pair KI (CK.pair KI KI)) KI a8] 0,AV.int .i64 a9,AV.int .i64 a10,AV.int .i64 a11,AV.int .i64 a12] []=bif !hasM (CK.pair KI (CK.pair KI KI)) a8 ((a9,a10,a11):(Int×(Int×Int))) then {ok:=true,val:=AV.tup [AV.int .i64 0,AV.bool false]} else bif decide (getM (CK.pair KI (CK.pair KI KI)) 0 a8 ((a9,a10,a11):(Int×(Int×Int)))≥100) then bif decide (a11<0) then {ok:=true,val:=AV.tup [AV.int .i64 0,AV.bool true]} else bif decide (a11>3) then {ok:=true,val:=AV.tup [AV.int .i64 0,AV.bool true]} else {ok:=true,val:=AV.tup [AV.int .i64 (IntKind.wrap .i64 (9+a11)),AV.bool true]} else bif decide (0≤getM (CK.pair KI (CK.pair KI KI)) 0 a8 ((a9,a10,a11):(Int×(Int×Int)))) then bif decide (Int.tmod (IntKind.wrap .i64 (a11+2)) 4<0) then {ok:=true,val:=AV.tup [AV.int .i64 0,AV.bool true]} else bif decide (Int.tmod (IntKind.wrap .i64 (a11+2)) 4>3) then {ok:=true,val:=AV.tup [AV.int .i64 0,AV.bool true]} else bif decide (andI .i64 (shrI .i64 a12 (getM (CK.pair KI (CK.pair KI KI)) 0 a8 ((a9,a10,a11):(Int×(Int×Int))))) 1=1) then {ok:=true,val:=AV.tup [AV.int .i64 (IntKind.wrap .i64 (13+Int.tmod (IntKind.wrap .i64 (a11+2)) 4)),AV.bool true]} else {ok:=true,val:=AV.tup [AV.int .i64 (IntKind.wrap .i64 (9+Int.tmod (IntKind.wrap .i64 (a11+2)) 4)),AV.bool true]} else BR:=by kernel_rfl
noncomputable def outerB_run (F:Nat) (x:CT outerB_K):Res:=runF (cx_outerB F) Tryd.f44 (groupS outerB_sh (enc outerB_K x)) []
theorem outerB_arg (F:Nat) (a0 a1 a2:Int) (a3:List Int) (a4:List Mo) (a5:Int) (a6:List (Int×Int×Int×Int×Int×Int)) (a7:Int) (a8:List ((Int×Int×Int)×Int)) (a9 a10 a11 a12:Int):outerB_run F (a0,a1,a2,a3,a4,a5,a6,a7,a8,a9,a10,a11,a12)=runF (cx_outerB F) Tryd.f44 [AV.rptr [AV.int .i64 a0,AV.int .i64 a1,AV.int .i64 a2,AV.ro KI a3,AV.ro MoK a4,AV.int .i64 a5,AV.ro (CK.pair KI (CK.pair KI (CK.pair KI (CK.pair KI (CK.pair KI KI))))) a6,AV.int .i64 a7,AV.rmap true false (CK.pair KI (CK.pair KI KI)) KI a8] 0,AV.int .i64 a9,AV.int .i64 a10,AV.int .i64 a11,AV.int .i64 a12] []:=by kernel_rfl
abbrev BZ:=Int×Int×Int×List Int×List Mo×Int×List Six×Int×MM×Int×Int×Int×Int
theorem Ret.ib (k:IntKind) (a:Int) (b:Bool):Ret [none,none] (.pair (.int k) .bool) ⟨true, .tup [.int k a, .bool b],[]⟩ (a,b):=
 ⟨rfl,rfl,rfl,rfl,by simp[roVs,valsOf,view,view1,flatA,cellsA,decOk,nth,isInt,isB,dropL,width],rfl,fun ws h=>by cases h;simp⟩
def gM (m:MM) (x y d:Int):Int:=getM K3 (V:=Int) 0 m ((x,y,d):Int×Int×Int)
def hM (m:MM) (x y d:Int):Bool:=hasM K3 (V:=Int) m ((x,y,d):Int×Int×Int)
def outerBO (m:MM) (x y d word:Int):Int×Bool:=
 bif !hM m x y d then (0,false) else bif decide (gM m x y d≥100) then (ordinaryM d false,true) else (ordinaryM (Int.tmod (IntKind.wrap .i64 (d+2)) 4) (bitM word (gM m x y d)),true)
def outerBOk:BZ→Bool:=fun (_,_,_,_,_,_,_,_,m,x,y,d,_)=>decide (0≤gM m x y d)
def outerBM:BZ→Int×Bool:=fun (_,_,_,_,_,_,_,_,m,x,y,d,word)=>outerBO m x y d word
def outerBFu:BZ→Nat:=fun _=>1
theorem outerB_ret (z:BZ) (h:outerBOk z=true):Ret outerB_re outerB_R (outerB_run (outerBFu z) z) (outerBM z):=by
 obtain ⟨k,w,hh,cells,ms,rk,rc,ins,m,x,y,d,word⟩:=z
 refine Ret.of (r':=⟨true, .tup [.int .i64 (outerBO m x y d word).1, .bool (outerBO m x y d word).2],[]⟩) ((outerB_arg ..).trans ((outerB_eq ..).trans ?_)) (Ret.ib _ _ _)
 have h':decide (0≤getM K3 (V:=Int) 0 m ((x,y,d):Int×Int×Int))=true:=h
 rw[h']
 simp only[outerBO,cond_true]
 show (bif !hM m x y d then _ else bif decide (gM m x y d≥100) then _ else _)=_
 cases hM m x y d with
 |false=>rfl
 | true=>
  cases decide (gM m x y d≥100) with
  |true=>
   simp only[Bool.not_true,cond_true,cond_false,ordinaryM]
   cases decide (d<0)<;>cases decide (d>3)<;>rfl
  |false=>
   simp only[Bool.not_true,cond_true,cond_false,ordinaryM]
   show (bif decide (Int.tmod (IntKind.wrap .i64 (d+2)) 4<0) then _ else bif decide (Int.tmod (IntKind.wrap .i64 (d+2)) 4>3) then _ else bif bitM word (gM m x y d) then _ else _)=_
   cases decide (Int.tmod (IntKind.wrap .i64 (d+2)) 4<0)<;>cases decide (Int.tmod (IntKind.wrap .i64 (d+2)) 4>3)<;>cases bitM word (gM m x y d)<;>rfl
noncomputable def tbSLL_1:=addC 44 (tspecS outerB_sh outerB_K outerB_re outerB_R outerBOk outerBM) tbSL
theorem tabSLL_1:Tab Tryd.prog tbSLL_1 cxMd tbKSL:=Tab.addTyS (os:=[]) tabSL tabSL (KK:=outerB_K) (R:=outerB_R) (fn:=Tryd.f44) (by kernel_rfl) (by kernel_rfl) (by kernel_rfl) (by kernel_rfl) _ outerBFu outerB_ret
noncomputable def tbSLB:=tbSLL_1
noncomputable def tbKSLB:KT:=tbKSL
theorem tabSLB:Tab Tryd.prog tbSLB cxMd tbKSLB:=tabSLL_1
end Go.Proofs.YtiglikocfjhkcaaDoor
