/- The laws of the document's Valid, and of directions. -/
import Derived.Test.YtiglikocfjhkcaaDoorSI
import Derived.Test.YtiglikocfjhkcaaDoorProg
import Derived.KernelRfl
set_option linter.all false
set_option linter.unusedVariables false
set_option linter.unusedSimpArgs false
open Go Go.Abs Go.Proofs
namespace Go.Proofs.YtiglikocfjhkcaaDoor
noncomputable def tbSJ:=tbSIB
noncomputable def tbKSJ:KT:=tbKSIB
theorem tabSJ:Tab Tryd.prog tbSJ cxMd tbKSJ:=tabSIB
noncomputable def cx_rV (F:Nat):Cx:={P:=Tryd.prog,C:=tbSJ,K:=tbKSJ,mode:=cxMd,fuel:=F,live:=liveTab [(5,[1,3,4]),(13,[1,7])],pin:=0,nx:=true}
def rV_K:CK:=CK.pair KI (CK.pair KI (CK.pair KI (CK.pair KL (CK.slice 50 MoK))))
def rV_sh:List (Option Nat):=[some 5]
def rV_R:CK:=CK.int .i64
def rV_re:List (Option Nat):=[none]
noncomputable def rV_L0r (F n:Nat) (s3 s4 h0_0 h0_1 h0_2:Int) (h0_3:List Int) (h0_4:List Mo):Res:=Lp (cx_rV F) (loopBy (loopsOf (cx_rV F) (bodyOf Tryd.f8) (endK (cx_rV F) Tryd.f8)) 5) n {T:=fr 88 [(1,AV.ptr 0 0),(3,AV.int .i64 s3),(4,AV.int .i64 s4)],H:=[Blk.cells [AV.int .i64 h0_0,AV.int .i64 h0_1,AV.int .i64 h0_2,AV.ro KI h0_3,AV.ro MoK h0_4]],ok:=true}
noncomputable def rV_L0:=Classical.choose (hideE rV_L0r)
theorem rV_L0_def:rV_L0=rV_L0r:=Classical.choose_spec (hideE rV_L0r)
noncomputable def rV_L1r (F n:Nat) (s7 h0_0 h0_1 h0_2:Int) (h0_3:List Int) (h0_4:List Mo):Res:=Lp (cx_rV F) (loopBy (loopsOf (cx_rV F) (bodyOf Tryd.f8) (endK (cx_rV F) Tryd.f8)) 13) n {T:=fr 88 [(1,AV.ptr 0 0),(7,AV.int .i64 s7)],H:=[Blk.cells [AV.int .i64 h0_0,AV.int .i64 h0_1,AV.int .i64 h0_2,AV.ro KI h0_3,AV.ro MoK h0_4]],ok:=true}
noncomputable def rV_L1:=Classical.choose (hideE rV_L1r)
theorem rV_L1_def:rV_L1=rV_L1r:=Classical.choose_spec (hideE rV_L1r)
theorem rV_L0_succ (F n:Nat) (s3 s4 h0_0 h0_1 h0_2:Int) (h0_3:List Int) (h0_4:List Mo):rV_L0 F (n+1) s3 s4 h0_0 h0_1 h0_2 h0_3 h0_4=bif decide (s4<(h0_3.length:Int)) then bif decide (0≤s4)&&decide (s4<(h0_3.length:Int)) then bif decide (nth 0 h0_3 (Int.toNat s4)<0) then {ok:=true,val:=AV.int .i64 50} else bif decide (0≤s4)&&decide (s4<(h0_3.length:Int)) then bif decide (nth 0 h0_3 (Int.toNat s4)≥s3) then {ok:=true,val:=AV.int .i64 50} else rV_L0 F n s3 (IntKind.wrap .i64 (s4+1)) h0_0 h0_1 h0_2 h0_3 h0_4 else BR else BR else bif mouthsOk (h0_0,h0_1,h0_2,h0_3,h0_4) then bif decide ((mouthsM (h0_0,h0_1,h0_2,h0_3,h0_4)).1>4) then {ok:=true,val:=AV.int .i64 50} else bif decide ((mouthsM (h0_0,h0_1,h0_2,h0_3,h0_4)).2>4) then {ok:=true,val:=AV.int .i64 50} else rV_L1 F F 0 h0_0 h0_1 h0_2 h0_3 h0_4 else BR:=by rewrite [rV_L0_def,rV_L1_def];kernel_rfl
theorem rV_L1_succ (F n:Nat) (s7 h0_0 h0_1 h0_2:Int) (h0_3:List Int) (h0_4:List Mo):rV_L1 F (n+1) s7 h0_0 h0_1 h0_2 h0_3 h0_4=bif decide (s7<(h0_4.length:Int)) then bif fitsOk (h0_0,h0_1,h0_2,h0_3,h0_4,s7) then bif !fitsM (h0_0,h0_1,h0_2,h0_3,h0_4,s7) then {ok:=true,val:=AV.int .i64 50} else rV_L1 F n (IntKind.wrap .i64 (s7+1)) h0_0 h0_1 h0_2 h0_3 h0_4 else BR else {ok:=true,val:=AV.int .i64 0}:=by rewrite [rV_L1_def];kernel_rfl
theorem rV_eq (F:Nat) (a0_0 a0_1 a0_2:Int) (a0_3:List Int) (a0_4:List Mo):runF (cx_rV F) Tryd.f8 [AV.agg [AV.int .i64 a0_0,AV.int .i64 a0_1,AV.int .i64 a0_2,AV.ro KI a0_3,AV.ro MoK a0_4]] []=bif decide (rStatesM a0_0=0) then {ok:=true,val:=AV.int .i64 50} else bif decide (a0_1<1) then {ok:=true,val:=AV.int .i64 50} else bif decide (a0_2<1) then {ok:=true,val:=AV.int .i64 50} else bif decide (a0_1>24) then {ok:=true,val:=AV.int .i64 50} else bif decide (a0_2>24) then {ok:=true,val:=AV.int .i64 50} else bif (a0_3.length:Int) !=IntKind.wrap .i64 (a0_1*a0_2) then {ok:=true,val:=AV.int .i64 50} else rV_L0 F F (rStatesM a0_0) 0 a0_0 a0_1 a0_2 a0_3 a0_4:=by rewrite [rV_L0_def];kernel_rfl
noncomputable def rV_run (F:Nat) (x:CT rV_K):Res:=runF (cx_rV F) Tryd.f8 (groupA rV_sh (enc rV_K x)) []
theorem rV_arg (F:Nat) (a0_0 a0_1 a0_2:Int) (a0_3:List Int) (a0_4:List Mo):rV_run F (a0_0,a0_1,a0_2,a0_3,a0_4)=runF (cx_rV F) Tryd.f8 [AV.agg [AV.int .i64 a0_0,AV.int .i64 a0_1,AV.int .i64 a0_2,AV.ro KI a0_3,AV.ro MoK a0_4]] []:=by kernel_rfl
theorem rV_L1_spec (F:Nat) (kind w h:Int) (cells:List Int) (ms:List Mo) (hlen:ms.length<9223372036854775807) (hw:1≤w∧w≤24) (hh:1≤h∧h≤24) (hc:(cells.length:Int)=w*h):∀(k n i:Nat),i+k=ms.length→k<n→
  rV_L1 F n i kind w h cells ms=⟨true, .int .i64 (bif fitsAll kind w h cells ms (ms.take i) (ms.drop i) then 0 else 50),[]⟩
 |k,0,i,_,hk=>by omega
 |0,n+1,i,hi,_=>by
  rw[rV_L1_succ,drop_len ms (by omega)]
  simp[show ¬((i:Int)<ms.length) by omega,fitsAll]
 | k+1,n+1,i,hi,hn=>by
  have ih:=rV_L1_spec F kind w h cells ms hlen hw hh hc k n (i+1) (by omega) (by omega)
  have ht:=take_nth (0,0,0,false) ms (show i<ms.length by omega)
  rw[rV_L1_succ,wrap_succ (by omega),ih,drop_nth (0,0,0,false) ms (show i<ms.length by omega),ht]
  have ho:fitsOk (kind,w,h,cells,ms,(i:Int))=true:=by
   simp only[fitsOk,decide_eq_true_eq]
   exact ⟨hw.1,hw.2,hh.1,hh.2,hc,by omega,by omega,hlen⟩
  have hM:fitsM (kind,w,h,cells,ms,(i:Int))=fitB kind w h cells ms (ms.take i) (nth (0,0,0,false) ms i):=by
   simp only[fitsM,Int.toNat_natCast]
  rw[ho,hM]
  simp only[show ((i:Int)<ms.length) by omega,decide_true,cond_true,fitsAll]
  cases fitB kind w h cells ms (ms.take i) (nth (0,0,0,false) ms i)<;>simp
theorem rV_L0_spec (F:Nat) (st kind w h:Int) (cells:List Int) (ms:List Mo) (hx:cells.length<9223372036854775807) (hm:ms.length<9223372036854775807):∀(k n i:Nat),i+k=cells.length→k<n→
  rV_L0 F n st i kind w h cells ms=bif (cells.drop i).all (cellOk st)&&decide (cntI ms≤4∧cntO ms≤4) then rV_L1 F F 0 kind w h cells ms else ⟨true, .int .i64 50,[]⟩
 |k,0,i,_,h=>by omega
 |0,n+1,i,hi,_=>by
  rw[rV_L0_succ,drop_len cells (by omega)]
  have ho:mouthsOk (kind,w,h,cells,ms)=true:=by simp only[mouthsOk,decide_eq_true_eq];exact hm
  simp only[show ¬((i:Int)<cells.length) by omega,decide_false,cond_false,ho,cond_true,mouthsM,List.all_nil,Bool.true_and]
  by_cases a1:cntI ms≤4<;>by_cases a2:cntO ms≤4
  ·simp[a1,a2,show ¬((cntI ms:Int)>4) by omega,show ¬((cntO ms:Int)>4) by omega]
  ·simp[a1,a2,show ¬((cntI ms:Int)>4) by omega,show ((cntO ms:Int)>4) by omega]
  ·simp[a1,a2,show ((cntI ms:Int)>4) by omega]
  ·simp[a1,a2,show ((cntI ms:Int)>4) by omega]
 | k+1,n+1,i,hi,hn=>by
  have ih:=rV_L0_spec F st kind w h cells ms hx hm k n (i+1) (by omega) (by omega)
  rw[rV_L0_succ,wrap_succ (by omega),ih,drop_nth 0 cells (show i<cells.length by omega),Int.toNat_natCast]
  simp only[show (i:Int)<cells.length by omega,show (0:Int)≤i by omega,decide_true,Bool.and_self,cond_true,List.all_cons,cellOk]
  by_cases c1:nth 0 cells i<0
  ·simp[c1,show ¬0≤nth 0 cells i by omega]
  ·by_cases c2:nth 0 cells i≥st
   ·simp[c1,c2,show ¬nth 0 cells i<st by omega]
   ·simp[c1,c2,show 0≤nth 0 cells i by omega,show nth 0 cells i<st by omega]
def rVOk:Organ→Bool:=organOk
abbrev rVM:Organ→Int:=organM
def rVFu:Organ→Nat:=fun (_,_,_,cells,ms)=>cells.length+ms.length+1
theorem rV_ret (z:Organ) (hk:rVOk z=true):Ret rV_re rV_R (rV_run (rVFu z) z) (rVM z):=by
 obtain ⟨kind,w,h,cells,ms⟩:=z
 simp only[rVOk,organOk,decide_eq_true_eq] at hk
 refine Ret.of ((rV_arg ..).trans ((rV_eq ..).trans ?_)) (Ret.int _ _)
 rw[show rVFu (kind,w,h,cells,ms)=cells.length+ms.length+1 from rfl]
 have l0:∀st:Int,(1≤w∧w≤24)→(1≤h∧h≤24)→(cells.length:Int)=w*h→rV_L0 (cells.length+ms.length+1) (cells.length+ms.length+1) st 0 kind w h cells ms=
   ⟨true, .int .i64 (bif cells.all (cellOk st)&&(fitsAll kind w h cells ms [] ms&&decide (cntI ms≤4∧cntO ms≤4)) then 0 else 50),[]⟩:=fun st hw hh hc=>by
  have a0:=rV_L0_spec (cells.length+ms.length+1) st kind w h cells ms hk.1 hk.2 cells.length (cells.length+ms.length+1) 0 (by omega) (by omega)
  have a1:=rV_L1_spec (cells.length+ms.length+1) kind w h cells ms hk.2 hw hh hc ms.length (cells.length+ms.length+1) 0 (by omega) (by omega)
  rw[List.take_zero,List.drop_zero] at a1
  rw[List.drop_zero] at a0
  refine Eq.trans (?_:_=_) (a0.trans ?_)
  ·rfl
  ·have a1':rV_L1 (cells.length+ms.length+1) (cells.length+ms.length+1) 0 kind w h cells ms=⟨true, .int .i64 (bif fitsAll kind w h cells ms [] ms then 0 else 50),[]⟩:=a1
   rw[a1']
   cases cells.all (cellOk st)<;>cases fitsAll kind w h cells ms [] ms<;>cases decide (cntI ms≤4∧cntO ms≤4)<;>rfl
 simp only[organM,organB,shapeB,beq_ne]
 by_cases k0:kind=0∨kind=1
 ·have hs:¬rStatesM kind=0:=by rcases k0 with rfl|rfl<;>simp[rStatesM]
  by_cases c1:w<1
  ·simp[hs,c1,show ¬(1≤w) by omega]
  ·by_cases c3:h<1
   ·simp[hs,c1,c3,show ¬(1≤h) by omega]
   ·by_cases c2:w>24
    ·simp[hs,c1,c2,c3,show ¬(w≤24) by omega]
    ·by_cases c4:h>24
     ·simp[hs,c1,c2,c3,c4,show ¬(h≤24) by omega]
     ·have g1:0≤w*h:=Int.mul_nonneg (by omega) (by omega)
      have g2:w*h≤24*h:=Int.mul_le_mul_of_nonneg_right (by omega) (by omega)
      rw[wrap_id (n:=w*h) (by omega) (by omega)]
      have d1:1≤w∧w≤24:=by omega
      have d2:1≤h∧h≤24:=by omega
      by_cases c5:(cells.length:Int)=w*h
      ·have m0:=l0 (rStatesM kind) d1 d2 c5
       simp only[hs,k0,c1,c2,c3,c4,c5,d1.1,d1.2,d2.1,d2.2,decide_true,decide_false,cond_true,cond_false,Bool.not_true,Bool.not_false,and_self,Bool.true_and]
       exact m0
      ·simp[hs,c1,c2,c3,c4,c5]
 ·have hs:rStatesM kind=0:=by
   simp only[rStatesM]
   have k1:¬kind=0:=fun h=>k0 (.inl h)
   have k2:¬kind=1:=fun h=>k0 (.inr h)
   simp[k1,k2]
  simp[hs,k0]
noncomputable def tbSJL_1:=addC 8 (tspec rV_sh rV_K rV_re rV_R rVOk rVM) tbSJ
theorem tabSJL_1:Tab Tryd.prog tbSJL_1 cxMd tbKSJ:=Tab.addTy (os:=[]) tabSJ tabSJ (KK:=rV_K) (R:=rV_R) (fn:=Tryd.f8) (by kernel_rfl) (by kernel_rfl) (by kernel_rfl) (by kernel_rfl) _ rVFu rV_ret
noncomputable def tbSJB:=tbSJL_1
noncomputable def tbKSJB:KT:=tbKSJ
theorem tabSJB:Tab Tryd.prog tbSJB cxMd tbKSJB:=tabSJL_1
end Go.Proofs.YtiglikocfjhkcaaDoor
