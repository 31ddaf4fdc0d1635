/- Contracts, situations: the laws of the small functions that Check and Prove call. -/
import Derived.Test.YtiglikocfjhkcaaDoorSU
import Derived.Test.YtiglikocfjhkcaaDoorProg
import Derived.KernelRfl
import Derived.Test.YtiglikocfjhkcaaDoorSP3
set_option linter.all false
set_option linter.unusedVariables false
set_option linter.unusedSimpArgs false
open Go Go.Abs Go.Proofs
namespace Go.Proofs.YtiglikocfjhkcaaDoor
noncomputable def tbTA:=tbSUB
noncomputable def tbKTA:KT:=tbKSUB
theorem tabTA:Tab Tryd.prog tbTA cxMd tbKTA:=tabSUB
noncomputable def cx_rVC (F:Nat):Cx:={P:=Tryd.prog,C:=tbTA,K:=tbKTA,mode:=cxMd,fuel:=F,live:=liveTab [(8,[1,5,3,4]),(13,[4,3,5,1,6])],pin:=0,nx:=true}
noncomputable def cx_oVC (F:Nat):Cx:={P:=Tryd.prog,C:=tbTA,K:=tbKTA,mode:=cxMd,fuel:=F,live:=liveTab [(5,[1,3,60,59]),(10,[99,59,60,3,4,1,100])],pin:=0,nx:=true}
noncomputable def cx_oCounts (F:Nat):Cx:={P:=Tryd.prog,C:=tbTA,K:=tbKTA,mode:=cxMd,fuel:=F,live:=liveTab [(2,[3,9,8,7,2])],pin:=0,nx:=true}
noncomputable def cx_oFirst (F:Nat):Cx:={P:=Tryd.prog,C:=tbTA,K:=tbKTA,mode:=cxMd,fuel:=F,live:=liveTab [],pin:=0,nx:=true}
noncomputable def cx_pack (F:Nat):Cx:={P:=Tryd.prog,C:=tbTA,K:=tbKTA,mode:=cxMd,fuel:=F,live:=liveTab [(3,[11,10,9,3])],pin:=0,nx:=true}
def rVC_K:CK:=CK.pair KI (CK.pair KI (CK.pair KI (CK.pair (CK.slice 22 KL) (CK.pair (CK.slice 22 KL) (CK.slice 51 (CK.slice 4 CK.bool))))))
def rVC_sh:List (Option Nat):=[some 6]
def rVC_R:CK:=CK.int .i64
def rVC_re:List (Option Nat):=[none]
noncomputable def rVC_L0r (F n:Nat) (s3 s4 s5 h0_0 h0_1 h0_2:Int) (h0_3 h0_4:List (List Int)) (h0_5:List (List Bool)):Res:=Lp (cx_rVC F) (loopBy (loopsOf (cx_rVC F) (bodyOf Tryd.f9) (endK (cx_rVC F) Tryd.f9)) 8) n {T:=fr 135 [(1,AV.ptr 0 0),(3,AV.int .i64 s3),(4,AV.int .i64 s4),(5,AV.int .i64 s5)],H:=[Blk.cells [AV.int .i64 h0_0,AV.int .i64 h0_1,AV.int .i64 h0_2,AV.ro KL h0_3,AV.ro KL h0_4,AV.ro (CK.slice 4 CK.bool) h0_5]],ok:=true}
noncomputable def rVC_L0:=Classical.choose (hideE rVC_L0r)
theorem rVC_L0_def:rVC_L0=rVC_L0r:=Classical.choose_spec (hideE rVC_L0r)
noncomputable def rVC_L1r (F m0 n:Nat) (s3 s4 s5 s6 h0_0 h0_1 h0_2:Int) (h0_3 h0_4:List (List Int)) (h0_5:List (List Bool)):Res:=Lp (cx_rVC F) (loopBy (innersOf (cx_rVC F) (loopBy (loopsOf (cx_rVC F) (bodyOf Tryd.f9) (endK (cx_rVC F) Tryd.f9)) 8) m0) 13) n {T:=fr 135 [(1,AV.ptr 0 0),(3,AV.int .i64 s3),(4,AV.int .i64 s4),(5,AV.int .i64 s5),(6,AV.int .i64 s6)],H:=[Blk.cells [AV.int .i64 h0_0,AV.int .i64 h0_1,AV.int .i64 h0_2,AV.ro KL h0_3,AV.ro KL h0_4,AV.ro (CK.slice 4 CK.bool) h0_5]],ok:=true}
noncomputable def rVC_L1:=Classical.choose (hideE rVC_L1r)
theorem rVC_L1_def:rVC_L1=rVC_L1r:=Classical.choose_spec (hideE rVC_L1r)
theorem rVC_L0_succ (F n:Nat) (s3 s4 s5 h0_0 h0_1 h0_2:Int) (h0_3 h0_4:List (List Int)) (h0_5:List (List Bool)):rVC_L0 F (n+1) s3 s4 s5 h0_0 h0_1 h0_2 h0_3 h0_4 h0_5=bif decide (s5<s3) then bif decide (0≤s5)&&decide (s5<(h0_3.length:Int)) then bif (↑(List.length (nth [] h0_3 (Int.toNat s5))):Int) !=s4 then {ok:=true,val:=AV.int .i64 51} else bif decide (0≤s5)&&decide (s5<(h0_4.length:Int)) then bif (↑(List.length (nth [] h0_4 (Int.toNat s5))):Int) !=s4 then {ok:=true,val:=AV.int .i64 51} else bif decide (0≤s5)&&decide (s5<(h0_5.length:Int)) then bif (↑(List.length (nth [] h0_5 (Int.toNat s5))):Int) !=s4 then {ok:=true,val:=AV.int .i64 51} else rVC_L1 F n F s3 s4 s5 0 h0_0 h0_1 h0_2 h0_3 h0_4 h0_5 else BR else BR else BR else {ok:=true,val:=AV.int .i64 0}:=by rewrite [rVC_L0_def,rVC_L1_def];kernel_rfl
theorem rVC_L1_succ (F m0 n:Nat) (s3 s4 s5 s6 h0_0 h0_1 h0_2:Int) (h0_3 h0_4:List (List Int)) (h0_5:List (List Bool)):rVC_L1 F m0 (n+1) s3 s4 s5 s6 h0_0 h0_1 h0_2 h0_3 h0_4 h0_5=bif decide (s6<s4) then bif decide (0≤s5)&&decide (s5<(h0_3.length:Int)) then bif decide (0≤s6)&&decide (s6<(↑(List.length (nth [] h0_3 (Int.toNat s5))):Int)) then bif decide (nth 0 (nth [] h0_3 (Int.toNat s5)) (Int.toNat s6)<0) then {ok:=true,val:=AV.int .i64 51} else bif decide (0≤s5)&&decide (s5<(h0_3.length:Int)) then bif decide (0≤s6)&&decide (s6<(↑(List.length (nth [] h0_3 (Int.toNat s5))):Int)) then bif decide (nth 0 (nth [] h0_3 (Int.toNat s5)) (Int.toNat s6)≥s3) then {ok:=true,val:=AV.int .i64 51} else bif decide (0≤s5)&&decide (s5<(h0_4.length:Int)) then bif decide (0≤s6)&&decide (s6<(↑(List.length (nth [] h0_4 (Int.toNat s5))):Int)) then bif decide (nth 0 (nth [] h0_4 (Int.toNat s5)) (Int.toNat s6)≥0) then bif decide (0≤IntKind.wrap .u64 h0_1) then bif !decide (nth 0 (nth [] h0_4 (Int.toNat s5)) (Int.toNat s6)<shlI .i64 1 (IntKind.wrap .u64 h0_1)) then {ok:=true,val:=AV.int .i64 51} else rVC_L1 F m0 n s3 s4 s5 (IntKind.wrap .i64 (s6+1)) h0_0 h0_1 h0_2 h0_3 h0_4 h0_5 else BR else {ok:=true,val:=AV.int .i64 51} else BR else BR else BR else BR else BR else BR else rVC_L0 F m0 s3 s4 (IntKind.wrap .i64 (s5+1)) h0_0 h0_1 h0_2 h0_3 h0_4 h0_5:=by rewrite [rVC_L0_def,rVC_L1_def];kernel_rfl
theorem rVC_eq (F:Nat) (a0_0 a0_1 a0_2:Int) (a0_3 a0_4:List (List Int)) (a0_5:List (List Bool)):runF (cx_rVC F) Tryd.f9 [AV.agg [AV.int .i64 a0_0,AV.int .i64 a0_1,AV.int .i64 a0_2,AV.ro KL a0_3,AV.ro KL a0_4,AV.ro (CK.slice 4 CK.bool) a0_5]] []=bif decide (a0_0<0) then {ok:=true,val:=AV.int .i64 51} else bif decide (a0_0>4) then {ok:=true,val:=AV.int .i64 51} else bif decide (a0_1<0) then {ok:=true,val:=AV.int .i64 51} else bif decide (a0_1>4) then {ok:=true,val:=AV.int .i64 51} else bif decide (a0_2<1) then {ok:=true,val:=AV.int .i64 51} else bif decide (a0_2>64) then {ok:=true,val:=AV.int .i64 51} else bif decide ((a0_3.length:Int)<1) then {ok:=true,val:=AV.int .i64 51} else bif decide ((a0_3.length:Int)>32) then {ok:=true,val:=AV.int .i64 51} else bif (a0_4.length:Int) !=(a0_3.length:Int) then {ok:=true,val:=AV.int .i64 51} else bif (a0_5.length:Int) !=(a0_3.length:Int) then {ok:=true,val:=AV.int .i64 51} else bif decide (0≤IntKind.wrap .u64 a0_0) then rVC_L0 F F (a0_3.length:Int) (shlI .i64 1 (IntKind.wrap .u64 a0_0)) 0 a0_0 a0_1 a0_2 a0_3 a0_4 a0_5 else BR:=by rewrite [rVC_L0_def];kernel_rfl
noncomputable def rVC_run (F:Nat) (x:CT rVC_K):Res:=runF (cx_rVC F) Tryd.f9 (groupA rVC_sh (enc rVC_K x)) []
theorem rVC_arg (F:Nat) (a0_0 a0_1 a0_2:Int) (a0_3 a0_4:List (List Int)) (a0_5:List (List Bool)):rVC_run F (a0_0,a0_1,a0_2,a0_3,a0_4,a0_5)=runF (cx_rVC F) Tryd.f9 [AV.agg [AV.int .i64 a0_0,AV.int .i64 a0_1,AV.int .i64 a0_2,AV.ro KL a0_3,AV.ro KL a0_4,AV.ro (CK.slice 4 CK.bool) a0_5]] []:=by kernel_rfl
def oVC_K:CK:=CK.pair KI (CK.pair KI (CK.pair KI (CK.pair (CK.slice 22 KL) (CK.pair (CK.slice 22 KL) (CK.slice 51 (CK.slice 4 CK.bool))))))
def oVC_sh:List (Option Nat):=[some 6]
def oVC_R:CK:=CK.int .i64
def oVC_re:List (Option Nat):=[none]
noncomputable def oVC_L0r (F n:Nat) (s3 s59 s60 h0_0 h0_1 h0_2:Int) (h0_3 h0_4:List (List Int)) (h0_5:List (List Bool)):Res:=Lp (cx_oVC F) (loopBy (loopsOf (cx_oVC F) (bodyOf Tryd.f26) (endK (cx_oVC F) Tryd.f26)) 5) n {T:=fr 151 [(1,AV.ptr 0 0),(3,AV.int .i64 s3),(59,AV.int .i64 s59),(60,AV.int .i64 s60)],H:=[Blk.cells [AV.int .i64 h0_0,AV.int .i64 h0_1,AV.int .i64 h0_2,AV.ro KL h0_3,AV.ro KL h0_4,AV.ro (CK.slice 4 CK.bool) h0_5]],ok:=true}
noncomputable def oVC_L0:=Classical.choose (hideE oVC_L0r)
theorem oVC_L0_def:oVC_L0=oVC_L0r:=Classical.choose_spec (hideE oVC_L0r)
noncomputable def oVC_L1r (F m0 n:Nat) (s3 s4 s59 s60 s99 s100 h0_0 h0_1 h0_2:Int) (h0_3 h0_4:List (List Int)) (h0_5:List (List Bool)):Res:=Lp (cx_oVC F) (loopBy (innersOf (cx_oVC F) (loopBy (loopsOf (cx_oVC F) (bodyOf Tryd.f26) (endK (cx_oVC F) Tryd.f26)) 5) m0) 10) n {T:=fr 151 [(1,AV.ptr 0 0),(3,AV.int .i64 s3),(4,AV.int .i64 s4),(59,AV.int .i64 s59),(60,AV.int .i64 s60),(99,AV.int .i64 s99),(100,AV.int .i64 s100)],H:=[Blk.cells [AV.int .i64 h0_0,AV.int .i64 h0_1,AV.int .i64 h0_2,AV.ro KL h0_3,AV.ro KL h0_4,AV.ro (CK.slice 4 CK.bool) h0_5]],ok:=true}
noncomputable def oVC_L1:=Classical.choose (hideE oVC_L1r)
theorem oVC_L1_def:oVC_L1=oVC_L1r:=Classical.choose_spec (hideE oVC_L1r)
theorem oVC_L0_succ (F n:Nat) (s3 s59 s60 h0_0 h0_1 h0_2:Int) (h0_3 h0_4:List (List Int)) (h0_5:List (List Bool)):oVC_L0 F (n+1) s3 s59 s60 h0_0 h0_1 h0_2 h0_3 h0_4 h0_5=bif decide (s60<s59) then bif decide (0≤s60)&&decide (s60<(h0_3.length:Int)) then bif decide (0≤h0_0) then bif (↑(List.length (nth [] h0_3 (Int.toNat s60))):Int) !=shlI .i64 1 h0_0 then {ok:=true,val:=AV.int .i64 51} else bif decide (0≤s60)&&decide (s60<(h0_4.length:Int)) then bif decide (0≤h0_0) then bif (↑(List.length (nth [] h0_4 (Int.toNat s60))):Int) !=shlI .i64 1 h0_0 then {ok:=true,val:=AV.int .i64 51} else bif decide (0≤s60)&&decide (s60<(h0_5.length:Int)) then bif decide (0≤h0_0) then bif (↑(List.length (nth [] h0_5 (Int.toNat s60))):Int) !=shlI .i64 1 h0_0 then {ok:=true,val:=AV.int .i64 51} else bif decide (0≤h0_0) then oVC_L1 F n F s3 s60 s59 s60 (shlI .i64 1 h0_0) 0 h0_0 h0_1 h0_2 h0_3 h0_4 h0_5 else BR else BR else BR else BR else BR else BR else BR else {ok:=true,val:=AV.int .i64 0}:=by rewrite [oVC_L0_def,oVC_L1_def];kernel_rfl
theorem oVC_L1_succ (F m0 n:Nat) (s3 s4 s59 s60 s99 s100 h0_0 h0_1 h0_2:Int) (h0_3 h0_4:List (List Int)) (h0_5:List (List Bool)):oVC_L1 F m0 (n+1) s3 s4 s59 s60 s99 s100 h0_0 h0_1 h0_2 h0_3 h0_4 h0_5=bif decide (s100<s99) then bif decide (0≤s4)&&decide (s4<(h0_3.length:Int)) then bif decide (0≤s100)&&decide (s100<(↑(List.length (nth [] h0_3 (Int.toNat s4))):Int)) then bif decide (nth 0 (nth [] h0_3 (Int.toNat s4)) (Int.toNat s100)<0) then {ok:=true,val:=AV.int .i64 51} else bif decide (0≤s4)&&decide (s4<(h0_3.length:Int)) then bif decide (0≤s100)&&decide (s100<(↑(List.length (nth [] h0_3 (Int.toNat s4))):Int)) then bif decide (nth 0 (nth [] h0_3 (Int.toNat s4)) (Int.toNat s100)≥s3) then {ok:=true,val:=AV.int .i64 51} else bif decide (0≤s4)&&decide (s4<(h0_4.length:Int)) then bif decide (0≤s100)&&decide (s100<(↑(List.length (nth [] h0_4 (Int.toNat s4))):Int)) then bif decide (nth 0 (nth [] h0_4 (Int.toNat s4)) (Int.toNat s100)<0) then {ok:=true,val:=AV.int .i64 51} else bif decide (0≤s4)&&decide (s4<(h0_4.length:Int)) then bif decide (0≤s100)&&decide (s100<(↑(List.length (nth [] h0_4 (Int.toNat s4))):Int)) then bif decide (0≤h0_1) then bif decide (nth 0 (nth [] h0_4 (Int.toNat s4)) (Int.toNat s100)≥shlI .i64 1 h0_1) then {ok:=true,val:=AV.int .i64 51} else oVC_L1 F m0 n s3 s4 s59 s60 s99 (IntKind.wrap .i64 (s100+1)) h0_0 h0_1 h0_2 h0_3 h0_4 h0_5 else BR else BR else BR else BR else BR else BR else BR else BR else BR else oVC_L0 F m0 s3 s59 (IntKind.wrap .i64 (s60+1)) h0_0 h0_1 h0_2 h0_3 h0_4 h0_5:=by rewrite [oVC_L0_def,oVC_L1_def];kernel_rfl
theorem oVC_eq (F:Nat) (a0_0 a0_1 a0_2:Int) (a0_3 a0_4:List (List Int)) (a0_5:List (List Bool)):runF (cx_oVC F) Tryd.f26 [AV.agg [AV.int .i64 a0_0,AV.int .i64 a0_1,AV.int .i64 a0_2,AV.ro KL a0_3,AV.ro KL a0_4,AV.ro (CK.slice 4 CK.bool) a0_5]] []=bif decide (a0_0<0) then {ok:=true,val:=AV.int .i64 51} else bif decide (a0_0>4) then {ok:=true,val:=AV.int .i64 51} else bif decide (a0_1<0) then {ok:=true,val:=AV.int .i64 51} else bif decide (a0_1>4) then {ok:=true,val:=AV.int .i64 51} else bif decide (a0_2<1) then {ok:=true,val:=AV.int .i64 51} else bif decide (a0_2>64) then {ok:=true,val:=AV.int .i64 51} else bif decide ((a0_3.length:Int)<1) then {ok:=true,val:=AV.int .i64 51} else bif decide ((a0_3.length:Int)>32) then {ok:=true,val:=AV.int .i64 51} else bif (a0_4.length:Int) !=(a0_3.length:Int) then {ok:=true,val:=AV.int .i64 51} else bif (a0_5.length:Int) !=(a0_3.length:Int) then {ok:=true,val:=AV.int .i64 51} else oVC_L0 F F (a0_3.length:Int) (a0_3.length:Int) 0 a0_0 a0_1 a0_2 a0_3 a0_4 a0_5:=by rewrite [oVC_L0_def];kernel_rfl
noncomputable def oVC_run (F:Nat) (x:CT oVC_K):Res:=runF (cx_oVC F) Tryd.f26 (groupA oVC_sh (enc oVC_K x)) []
theorem oVC_arg (F:Nat) (a0_0 a0_1 a0_2:Int) (a0_3 a0_4:List (List Int)) (a0_5:List (List Bool)):oVC_run F (a0_0,a0_1,a0_2,a0_3,a0_4,a0_5)=runF (cx_oVC F) Tryd.f26 [AV.agg [AV.int .i64 a0_0,AV.int .i64 a0_1,AV.int .i64 a0_2,AV.ro KL a0_3,AV.ro KL a0_4,AV.ro (CK.slice 4 CK.bool) a0_5]] []:=by kernel_rfl
def oCounts_K:CK:=CK.pair KI (CK.pair KI (CK.pair KI (CK.pair KL (CK.slice 50 MoK))))
def oCounts_sh:List (Option Nat):=[some 5]
def oCounts_R:CK:=CK.pair KI KI
def oCounts_re:List (Option Nat):=[none,none]
noncomputable def oCounts_L0r (F n:Nat) (s2 s3:Int) (s7:List Mo) (s8 s9:Int):Res:=Lp (cx_oCounts F) (loopBy (loopsOf (cx_oCounts F) (bodyOf Tryd.f35) (endK (cx_oCounts F) Tryd.f35)) 2) n {T:=fr 22 [(2,AV.int .i64 s2),(3,AV.int .i64 s3),(7,AV.ro MoK s7),(8,AV.int .i64 s8),(9,AV.int .i64 s9)],H:=[],ok:=true}
noncomputable def oCounts_L0:=Classical.choose (hideE oCounts_L0r)
theorem oCounts_L0_def:oCounts_L0=oCounts_L0r:=Classical.choose_spec (hideE oCounts_L0r)
theorem oCounts_L0_succ (F n:Nat) (s2 s3:Int) (s7:List Mo) (s8 s9:Int):oCounts_L0 F (n+1) s2 s3 s7 s8 s9=bif decide (s9<s8) then bif decide (0≤s9)&&decide (s9<(s7.length:Int)) then bif (nth (0,0,0,false) s7 (Int.toNat s9)).2.2.2 then oCounts_L0 F n s2 (IntKind.wrap .i64 (s3+1)) s7 s8 (IntKind.wrap .i64 (s9+1)) else oCounts_L0 F n (IntKind.wrap .i64 (s2+1)) s3 s7 s8 (IntKind.wrap .i64 (s9+1)) else BR else {ok:=true,val:=AV.tup [AV.int .i64 s2,AV.int .i64 s3]}:=by rewrite [oCounts_L0_def];kernel_rfl
theorem oCounts_eq (F:Nat) (a0_0 a0_1 a0_2:Int) (a0_3:List Int) (a0_4:List Mo):runF (cx_oCounts F) Tryd.f35 [AV.agg [AV.int .i64 a0_0,AV.int .i64 a0_1,AV.int .i64 a0_2,AV.ro KI a0_3,AV.ro MoK a0_4]] []=oCounts_L0 F F 0 0 a0_4 (a0_4.length:Int) 0:=by rewrite [oCounts_L0_def];kernel_rfl
noncomputable def oCounts_run (F:Nat) (x:CT oCounts_K):Res:=runF (cx_oCounts F) Tryd.f35 (groupA oCounts_sh (enc oCounts_K x)) []
theorem oCounts_arg (F:Nat) (a0_0 a0_1 a0_2:Int) (a0_3:List Int) (a0_4:List Mo):oCounts_run F (a0_0,a0_1,a0_2,a0_3,a0_4)=runF (cx_oCounts F) Tryd.f35 [AV.agg [AV.int .i64 a0_0,AV.int .i64 a0_1,AV.int .i64 a0_2,AV.ro KI a0_3,AV.ro MoK a0_4]] []:=by kernel_rfl
def oFirst_K:CK:=CK.pair KI (CK.pair KI (CK.pair KI (CK.pair KL (CK.pair (CK.slice 50 MoK) (CK.pair KI (CK.pair KI (CK.pair KI (CK.pair (CK.slice 22 KL) (CK.pair (CK.slice 22 KL) (CK.slice 51 (CK.slice 4 CK.bool)))))))))))
def oFirst_sh:List (Option Nat):=[some 5,some 6]
def oFirst_R:CK:=CK.pair KL (CK.pair KI KL)
def oFirst_re:List (Option Nat):=[some 3]
theorem oFirst_eq (F:Nat) (a0_0 a0_1 a0_2:Int) (a0_3:List Int) (a0_4:List Mo) (a1_0 a1_1 a1_2:Int) (a1_3 a1_4:List (List Int)) (a1_5:List (List Bool)):runF (cx_oFirst F) Tryd.f18 [AV.agg [AV.int .i64 a0_0,AV.int .i64 a0_1,AV.int .i64 a0_2,AV.ro KI a0_3,AV.ro MoK a0_4],AV.agg [AV.int .i64 a1_0,AV.int .i64 a1_1,AV.int .i64 a1_2,AV.ro KL a1_3,AV.ro KL a1_4,AV.ro (CK.slice 4 CK.bool) a1_5]] []=bif decide (Nat.mul (List.length a0_3) 8≤140737488355328) then bif decide (0≤a1_2)&&(decide (a1_2≤a1_2)&&(decide (a1_2*8≤140737488355328)&&decide (a1_2≤4611686018427387904))) then {ok:=true,val:=AV.agg [AV.sl 0 0 0 none,AV.int .i64 0,AV.sl 1 0 0 none],heap:=[Blk.row 0 3 KI a0_3,Blk.row 0 3 KI ((List.replicate (Int.toNat a1_2) (0:Int)):List Int)]} else BR else BR:=by kernel_rfl
noncomputable def oFirst_run (F:Nat) (x:CT oFirst_K):Res:=runF (cx_oFirst F) Tryd.f18 (groupA oFirst_sh (enc oFirst_K x)) []
theorem oFirst_arg (F:Nat) (a0_0 a0_1 a0_2:Int) (a0_3:List Int) (a0_4:List Mo) (a1_0 a1_1 a1_2:Int) (a1_3 a1_4:List (List Int)) (a1_5:List (List Bool)):oFirst_run F (a0_0,a0_1,a0_2,a0_3,a0_4,a1_0,a1_1,a1_2,a1_3,a1_4,a1_5)=runF (cx_oFirst F) Tryd.f18 [AV.agg [AV.int .i64 a0_0,AV.int .i64 a0_1,AV.int .i64 a0_2,AV.ro KI a0_3,AV.ro MoK a0_4],AV.agg [AV.int .i64 a1_0,AV.int .i64 a1_1,AV.int .i64 a1_2,AV.ro KL a1_3,AV.ro KL a1_4,AV.ro (CK.slice 4 CK.bool) a1_5]] []:=by kernel_rfl
def pack_K:CK:=CK.slice 3 KI
def pack_sh:List (Option Nat):=[none]
def pack_R:CK:=CK.str
def pack_re:List (Option Nat):=[none]
noncomputable def pack_L0r (F n:Nat) (s9:List Int) (s10 s11:Int) (h0:List Int):Res:=Lp (cx_pack F) (loopBy (loopsOf (cx_pack F) (bodyOf Tryd.f36) (endK (cx_pack F) Tryd.f36)) 3) n {T:=fr 24 [(3,AV.sl 0 0 0 none),(9,AV.ro KI s9),(10,AV.int .i64 s10),(11,AV.int .i64 s11)],H:=[Blk.row 0 5 (CK.int .u8) h0],ok:=true}
noncomputable def pack_L0:=Classical.choose (hideE pack_L0r)
theorem pack_L0_def:pack_L0=pack_L0r:=Classical.choose_spec (hideE pack_L0r)
theorem pack_L0_succ (F n:Nat) (s9:List Int) (s10 s11:Int) (h0:List Int):pack_L0 F (n+1) s9 s10 s11 h0=bif decide (s11<s10) then bif decide (0≤s11)&&decide (s11<(s9.length:Int)) then bif decide (0≤s11)&&decide (s11<(h0.length:Int)) then bif decide (Int.toNat s11<List.length h0) then pack_L0 F n s9 s10 (IntKind.wrap .i64 (s11+1)) (List.set h0 (Int.toNat s11) (IntKind.wrap .u8 (nth 0 s9 (Int.toNat s11)))) else BR else BR else BR else {ok:=true,val:=AV.str (bytesS h0)}:=by rewrite [pack_L0_def];kernel_rfl
theorem pack_eq (F:Nat) (a0:List Int):runF (cx_pack F) Tryd.f36 [AV.ro KI a0] []=bif decide (0≤(a0.length:Int))&&(decide ((a0.length:Int)≤(a0.length:Int))&&(decide ((a0.length:Int)*1≤140737488355328)&&decide ((a0.length:Int)≤4611686018427387904))) then pack_L0 F F a0 (a0.length:Int) 0 (List.replicate (Int.toNat (a0.length:Int)) (0:Int)) else BR:=by rewrite [pack_L0_def];kernel_rfl
noncomputable def pack_run (F:Nat) (x:CT pack_K):Res:=runF (cx_pack F) Tryd.f36 (groupA pack_sh (enc pack_K x)) []
theorem pack_arg (F:Nat) (a0:List Int):pack_run F (a0)=runF (cx_pack F) Tryd.f36 [AV.ro KI a0] []:=by kernel_rfl
def okWord (bits a:Int):Bool:=decide (0≤a)&&decide (a<2^bits.toNat)
def wordsOk (n outs:Int) (nx pt:List Int):Nat→Nat→Bool
 |0,_=>true
 |k+1,a=>decide (0≤nth 0 nx a)&&(decide (nth 0 nx a<n)&&(okWord outs (nth 0 pt a)&&wordsOk n outs nx pt k (a+1)))
def rowsOk (w:Nat) (n outs:Int) (next put:List (List Int)) (lets:List (List Bool)):Nat→Nat→Bool
 |0,_=>true
 |k+1,q=>decide ((nth [] next q).length=w∧(nth [] put q).length=w∧(nth [] lets q).length=w)&&(wordsOk n outs (nth [] next q) (nth [] put q) w 0&&rowsOk w n outs next put lets k (q+1))
def contractOk (ins outs delay:Int) (next put:List (List Int)) (lets:List (List Bool)):Bool:=
 decide (0≤ins∧ins≤4∧0≤outs∧outs≤4∧1≤delay∧delay≤64∧1≤next.length∧next.length≤32∧put.length=next.length∧lets.length=next.length)&&
  rowsOk (2^ins.toNat) next.length outs next put lets next.length 0
theorem rVC_L1_spec (F m:Nat) (n ins outs delay:Int) (next put:List (List Int)) (lets:List (List Bool)) (w q:Nat) (ho:0≤outs∧outs≤4) (hq:q<next.length) (hp:q<put.length) (hw:w≤1000) (hnq:next.length≤1000)
  (h1:(nth [] next q).length=w) (h2:(nth [] put q).length=w):∀(k f a:Nat),a+k=w→k<f→
  rVC_L1 F m f n w q a ins outs delay next put lets=bif wordsOk n outs (nth [] next q) (nth [] put q) k a then rVC_L0 F m n w ((q+1:Nat):Int) ins outs delay next put lets else ⟨true, .int .i64 51,[]⟩
 |k,0,a,_,h=>by omega
 |0,f+1,a,ha,_=>by
  rw[rVC_L1_succ,wrap_succ (i:=q) (by omega)]
  simp[show ¬((a:Int)<w) by omega,wordsOk]
 | k +1,f+1,a,ha,hf=>by
  have ih:=rVC_L1_spec F m n ins outs delay next put lets w q ho hq hp hw hnq h1 h2 k f (a+1) (by omega) (by omega)
  rw[rVC_L1_succ,wrap_succ (by omega),wrapu_id ho.1 (by omega),ih,shl_one ho.1 (by omega)]
  have g1:(a:Int)<w:=by omega
  have g2:(q:Int)<next.length:=by omega
  have g3:(q:Int)<put.length:=by omega
  have g4:(a:Int)<(nth [] next q).length:=by omega
  have g5:(a:Int)<(nth [] put q).length:=by omega
  simp only[Int.toNat_natCast,g1,g2,g3,g4,g5,Int.natCast_nonneg,ho.1,decide_true,Bool.true_and,cond_true,wordsOk,okWord]
  by_cases c1:nth 0 (nth [] next q) a<0
  ·simp[c1,show ¬0≤nth 0 (nth [] next q) a by omega]
  ·by_cases c2:nth 0 (nth [] next q) a<n
   ·by_cases c3:nth 0 (nth [] put q) a≥0
    ·by_cases c4:nth 0 (nth [] put q) a<2^outs.toNat
     ·simp[c1,c2,c3,c4,show 0≤nth 0 (nth [] next q) a by omega,show ¬n≤nth 0 (nth [] next q) a by omega]
     ·simp[c1,c2,c3,c4,show 0≤nth 0 (nth [] next q) a by omega,show ¬n≤nth 0 (nth [] next q) a by omega]
    ·simp[c1,c2,c3,show 0≤nth 0 (nth [] next q) a by omega,show ¬n≤nth 0 (nth [] next q) a by omega,show ¬0≤nth 0 (nth [] put q) a by omega]
   ·simp[c1,c2,show n≤nth 0 (nth [] next q) a by omega]
theorem rVC_L0_spec (F:Nat) (ins outs delay:Int) (next put:List (List Int)) (lets:List (List Bool)) (w:Nat) (ho:0≤outs∧outs≤4) (hp:put.length=next.length) (hl:lets.length=next.length) (hw:w≤1000) (hnq:next.length≤1000) (hF:w<F):∀(k f q:Nat),q+k=next.length→k<f→
  rVC_L0 F f next.length w q ins outs delay next put lets=⟨true, .int .i64 (bif rowsOk w next.length outs next put lets k q then 0 else 51),[]⟩
 |k,0,q,_,h=>by omega
 |0,f+1,q,hq,_=>by
  rw[rVC_L0_succ]
  simp[show ¬((q:Int)<next.length) by omega,rowsOk]
 | k +1,f+1,q,hq,hf=>by
  have ih:=rVC_L0_spec F ins outs delay next put lets w ho hp hl hw hnq hF k f (q+1) (by omega) (by omega)
  rw[rVC_L0_succ]
  have g2:(q:Int)<next.length:=by omega
  have g3:(q:Int)<put.length:=by omega
  have g4:(q:Int)<lets.length:=by omega
  simp only[Int.toNat_natCast,g2,g3,g4,Int.natCast_nonneg,decide_true,Bool.true_and,cond_true,rowsOk,beq_ne,Int.natCast_inj]
  by_cases c1:(nth [] next q).length=w
  ·by_cases c2:(nth [] put q).length=w
   ·by_cases c3:(nth [] lets q).length=w
    ·have:=rVC_L1_spec F f next.length ins outs delay next put lets w q ho (by omega) (by omega) hw hnq c1 c2 w F 0 (by omega) hF
     rw[show ((0:Nat):Int)=0 from rfl] at this
     rw[this,ih]
     simp only[c1,c2,c3,decide_true,Bool.not_true,cond_false,and_self,Bool.true_and]
     cases wordsOk next.length outs (nth [] next q) (nth [] put q) w 0<;>simp
    ·simp[c1,c2,c3]
   ·simp[c1,c2]
  ·simp[c1]
abbrev CTy:=Int×Int×Int×List (List Int)×List (List Int)×List (List Bool)
def validM:Int×Int×Int×List (List Int)×List (List Int)×List (List Bool)→Int:=fun (ins,outs,delay,next,put,lets)=>bif contractOk ins outs delay next put lets then 0 else 51
theorem pow_le16 {b:Int} (h:0≤b∧b≤4):(2^b.toNat:Nat)≤16:=by
 have:=Nat.pow_le_pow_right (n:=2) (by omega) (show b.toNat≤4 by omega)
 omega
def rVCM:CTy→Int:=validM
def rVCFu:CTy→Nat:=fun _=>100
theorem rVC_ret (z:CTy) (_:true=true):Ret rVC_re rVC_R (rVC_run (rVCFu z) z) (rVCM z):=by
 obtain ⟨ins,outs,delay,next,put,lets⟩:=z
 refine Ret.of (r':=⟨true, .int .i64 (bif contractOk ins outs delay next put lets then 0 else 51),[]⟩) ((rVC_arg ..).trans ((rVC_eq ..).trans ?_)) (Ret.int _ _)
 show _=_
 by_cases hc:0≤ins∧ins≤4∧0≤outs∧outs≤4∧1≤delay∧delay≤64∧1≤next.length∧next.length≤32∧put.length=next.length∧lets.length=next.length
 ·obtain ⟨c1,c2,c3,c4,c5,c6,c7,c8,c9,c10⟩:=hc
  have hw:=pow_le16 ⟨c1,c2⟩
  rw[show rVCFu (ins,outs,delay,next,put,lets)=100 from rfl]
  have:=rVC_L0_spec 100 ins outs delay next put lets (2^ins.toNat) ⟨c3,c4⟩ c9 c10 (by omega) (by omega) (by omega) next.length 100 0 (by omega) (by omega)
  rw[wrapu_id c1 (by omega),shl_one c1 (by omega)]
  rw[show ((0:Nat):Int)=0 from rfl,show ((2^ins.toNat:Nat):Int)=2^ins.toNat from by simp] at this
  rw[this]
  simp[contractOk,c1,c2,c3,c4,c5,c6,c7,c8,c9,c10,beq_ne,show ¬ins<0 by omega,show ¬ins>4 by omega,show ¬outs<0 by omega,show ¬outs>4 by omega,show ¬delay<1 by omega,show ¬delay>64 by omega,show ¬(next.length:Int)<1 by omega,show ¬(next.length:Int)>32 by omega]
 ·simp only[contractOk,hc,decide_false,Bool.false_and,cond_false]
  by_cases a0:ins<0
  ·rw[decide_eq_true a0];rfl
  rw[decide_eq_false a0,cond_false]
  by_cases a1:ins>4
  ·rw[decide_eq_true a1];rfl
  rw[decide_eq_false a1,cond_false]
  by_cases a2:outs<0
  ·rw[decide_eq_true a2];rfl
  rw[decide_eq_false a2,cond_false]
  by_cases a3:outs>4
  ·rw[decide_eq_true a3];rfl
  rw[decide_eq_false a3,cond_false]
  by_cases a4:delay<1
  ·rw[decide_eq_true a4];rfl
  rw[decide_eq_false a4,cond_false]
  by_cases a5:delay>64
  ·rw[decide_eq_true a5];rfl
  rw[decide_eq_false a5,cond_false]
  by_cases a6:(next.length:Int)<1
  ·rw[decide_eq_true a6];rfl
  rw[decide_eq_false a6,cond_false]
  by_cases a7:(next.length:Int)>32
  ·rw[decide_eq_true a7];rfl
  rw[decide_eq_false a7,cond_false]
  by_cases a8:(put.length:Int)=next.length
  ·by_cases a9:(lets.length:Int)=next.length
   ·exact absurd ⟨by omega,by omega,by omega,by omega,by omega,by omega,by omega,by omega,by omega,by omega⟩ hc
   ·rw[beq_ne,decide_eq_true a8,beq_ne,decide_eq_false a9];rfl
  ·rw[beq_ne,decide_eq_false a8];rfl
theorem oVC_L1_spec (F m:Nat) (n ins outs delay:Int) (next put:List (List Int)) (lets:List (List Bool)) (w q:Nat) (ho:0≤outs∧outs≤4) (hq:q<next.length) (hp:q<put.length) (hw:w≤1000) (hnq:next.length≤1000)
  (h1:(nth [] next q).length=w) (h2:(nth [] put q).length=w):∀(k f a:Nat),a+k=w→k<f→
  oVC_L1 F m f n q n q w a ins outs delay next put lets=bif wordsOk n outs (nth [] next q) (nth [] put q) k a then oVC_L0 F m n n ((q+1:Nat):Int) ins outs delay next put lets else ⟨true, .int .i64 51,[]⟩
 |k,0,a,_,h=>by omega
 |0,f+1,a,ha,_=>by
  rw[oVC_L1_succ,wrap_succ (i:=q) (by omega)]
  simp[show ¬((a:Int)<w) by omega,wordsOk]
 | k +1,f+1,a,ha,hf=>by
  have ih:=oVC_L1_spec F m n ins outs delay next put lets w q ho hq hp hw hnq h1 h2 k f (a+1) (by omega) (by omega)
  rw[oVC_L1_succ,wrap_succ (by omega),ih,shl_one ho.1 (by omega)]
  have g1:(a:Int)<w:=by omega
  have g2:(q:Int)<next.length:=by omega
  have g3:(q:Int)<put.length:=by omega
  have g4:(a:Int)<(nth [] next q).length:=by omega
  have g5:(a:Int)<(nth [] put q).length:=by omega
  simp only[Int.toNat_natCast,g1,g2,g3,g4,g5,Int.natCast_nonneg,ho.1,decide_true,Bool.true_and,cond_true,wordsOk,okWord]
  by_cases c1:nth 0 (nth [] next q) a<0
  ·simp[c1,show ¬0≤nth 0 (nth [] next q) a by omega]
  ·by_cases c2:nth 0 (nth [] next q) a<n
   ·by_cases c3:nth 0 (nth [] put q) a<0
    ·simp[c1,c2,c3,show 0≤nth 0 (nth [] next q) a by omega,show ¬n≤nth 0 (nth [] next q) a by omega,show ¬0≤nth 0 (nth [] put q) a by omega]
    ·by_cases c4:nth 0 (nth [] put q) a<2^outs.toNat
     ·simp[c1,c2,c3,c4,show 0≤nth 0 (nth [] put q) a by omega,show ¬2^outs.toNat≤nth 0 (nth [] put q) a by omega,show 0≤nth 0 (nth [] next q) a by omega,show ¬n≤nth 0 (nth [] next q) a by omega]
     ·simp[c1,c2,c3,c4,show 2^outs.toNat≤nth 0 (nth [] put q) a by omega,show 0≤nth 0 (nth [] next q) a by omega,show ¬n≤nth 0 (nth [] next q) a by omega]
   ·simp[c1,c2,show n≤nth 0 (nth [] next q) a by omega]
theorem oVC_L0_spec (F:Nat) (ins outs delay:Int) (next put:List (List Int)) (lets:List (List Bool)) (hi:0≤ins∧ins≤4) (ho:0≤outs∧outs≤4) (hp:put.length=next.length) (hl:lets.length=next.length) (hnq:next.length≤1000) (hF:16<F):∀(k f q:Nat),q+k=next.length→k<f→
  oVC_L0 F f next.length next.length q ins outs delay next put lets=⟨true, .int .i64 (bif rowsOk (2^ins.toNat) next.length outs next put lets k q then 0 else 51),[]⟩
 |k,0,q,_,h=>by omega
 |0,f+1,q,hq,_=>by
  rw[oVC_L0_succ]
  simp[show ¬((q:Int)<next.length) by omega,rowsOk]
 | k +1,f+1,q,hq,hf=>by
  have ih:=oVC_L0_spec F ins outs delay next put lets hi ho hp hl hnq hF k f (q+1) (by omega) (by omega)
  have hw:=pow_le16 hi
  rw[oVC_L0_succ,shl_one hi.1 (by omega),show (2:Int)^ins.toNat=((2^ins.toNat:Nat):Int) from by simp]
  generalize 2^ins.toNat=w at*
  have g2:(q:Int)<next.length:=by omega
  have g3:(q:Int)<put.length:=by omega
  have g4:(q:Int)<lets.length:=by omega
  simp only[Int.toNat_natCast,g2,g3,g4,hi.1,Int.natCast_nonneg,decide_true,Bool.true_and,cond_true,rowsOk,beq_ne,Int.natCast_inj]
  by_cases c1:(nth [] next q).length=w
  ·by_cases c2:(nth [] put q).length=w
   ·by_cases c3:(nth [] lets q).length=w
    ·have:=oVC_L1_spec F f next.length ins outs delay next put lets w q ho (by omega) (by omega) (by omega) hnq c1 c2 w F 0 (by omega) (by omega)
     rw[show ((0:Nat):Int)=0 from rfl] at this
     rw[this,ih]
     simp only[c1,c2,c3,decide_true,Bool.not_true,cond_false,and_self,Bool.true_and]
     cases wordsOk next.length outs (nth [] next q) (nth [] put q) w 0<;>simp
    ·simp[c1,c2,c3]
   ·simp[c1,c2]
  ·simp[c1]
def oVCM:CTy→Int:=validM
def oVCFu:CTy→Nat:=fun _=>100
theorem oVC_ret (z:CTy) (_:true=true):Ret oVC_re oVC_R (oVC_run (oVCFu z) z) (oVCM z):=by
 obtain ⟨ins,outs,delay,next,put,lets⟩:=z
 refine Ret.of (r':=⟨true, .int .i64 (bif contractOk ins outs delay next put lets then 0 else 51),[]⟩) ((oVC_arg ..).trans ((oVC_eq ..).trans ?_)) (Ret.int _ _)
 show _=_
 by_cases hc:0≤ins∧ins≤4∧0≤outs∧outs≤4∧1≤delay∧delay≤64∧1≤next.length∧next.length≤32∧put.length=next.length∧lets.length=next.length
 ·obtain ⟨c1,c2,c3,c4,c5,c6,c7,c8,c9,c10⟩:=hc
  have hw:=pow_le16 ⟨c1,c2⟩
  rw[show oVCFu (ins,outs,delay,next,put,lets)=100 from rfl]
  have:=oVC_L0_spec 100 ins outs delay next put lets ⟨c1,c2⟩ ⟨c3,c4⟩ c9 c10 (by omega) (by omega) next.length 100 0 (by omega) (by omega)
  rw[show ((0:Nat):Int)=0 from rfl] at this
  rw[this]
  simp[contractOk,c1,c2,c3,c4,c5,c6,c7,c8,c9,c10,beq_ne,show ¬ins<0 by omega,show ¬ins>4 by omega,show ¬outs<0 by omega,show ¬outs>4 by omega,show ¬delay<1 by omega,show ¬delay>64 by omega,show ¬(next.length:Int)<1 by omega,show ¬(next.length:Int)>32 by omega]
 ·simp only[contractOk,hc,decide_false,Bool.false_and,cond_false]
  by_cases a0:ins<0
  ·rw[decide_eq_true a0];rfl
  rw[decide_eq_false a0,cond_false]
  by_cases a1:ins>4
  ·rw[decide_eq_true a1];rfl
  rw[decide_eq_false a1,cond_false]
  by_cases a2:outs<0
  ·rw[decide_eq_true a2];rfl
  rw[decide_eq_false a2,cond_false]
  by_cases a3:outs>4
  ·rw[decide_eq_true a3];rfl
  rw[decide_eq_false a3,cond_false]
  by_cases a4:delay<1
  ·rw[decide_eq_true a4];rfl
  rw[decide_eq_false a4,cond_false]
  by_cases a5:delay>64
  ·rw[decide_eq_true a5];rfl
  rw[decide_eq_false a5,cond_false]
  by_cases a6:(next.length:Int)<1
  ·rw[decide_eq_true a6];rfl
  rw[decide_eq_false a6,cond_false]
  by_cases a7:(next.length:Int)>32
  ·rw[decide_eq_true a7];rfl
  rw[decide_eq_false a7,cond_false]
  by_cases a8:(put.length:Int)=next.length
  ·by_cases a9:(lets.length:Int)=next.length
   ·exact absurd ⟨by omega,by omega,by omega,by omega,by omega,by omega,by omega,by omega,by omega,by omega⟩ hc
   ·rw[beq_ne,decide_eq_true a8,beq_ne,decide_eq_false a9];rfl
  ·rw[beq_ne,decide_eq_false a8];rfl
def oCountsOk:Organ→Bool:=fun (_,_,_,_,ms)=>decide (ms.length<big)
def oCountsM:Organ→Int×Int:=fun (_,_,_,_,ms)=>((cntI ms:Int),(cntO ms:Int))
def oCountsFu:Organ→Nat:=fun (_,_,_,_,ms)=>ms.length+1
theorem oCounts_L0_spec (F:Nat) (ms:List Mo) (hx:ms.length<big):∀(k n i a b:Nat),i+k=ms.length→k<n→a+b=i→
  oCounts_L0 F n a b ms ms.length i={ok:=true,val:=AV.tup [AV.int .i64 ((a+cntI (ms.drop i):Nat):Int),AV.int .i64 ((b+cntO (ms.drop i):Nat):Int)]}
 |k,0,i,_,_,_,h,_=>by omega
 |0,n+1,i,a,b,hi,_,_=>by
  rw[oCounts_L0_succ,drop_len ms (by omega)]
  simp only[show ¬((i:Int)<ms.length) by omega,decide_false,cond_false,cntI,cntO,Nat.add_zero]
 | k+1,n+1,i,a,b,hi,hn,hab=>by
  have ih1:=oCounts_L0_spec F ms hx k n (i+1) (a+1) b (by omega) (by omega) (by omega)
  have ih2:=oCounts_L0_spec F ms hx k n (i+1) a (b+1) (by omega) (by omega) (by omega)
  have hb:ms.length<9223372036854775807:=hx
  rw[oCounts_L0_succ,wrap_succ (i:=i) (by omega),wrap_succ (i:=a) (by omega),wrap_succ (i:=b) (by omega),ih1,ih2,drop_nth (0,0,0,false) ms (show i<ms.length by omega),Int.toNat_natCast]
  simp only[show (i:Int)<ms.length by omega,show (0:Int)≤i by omega,decide_true,Bool.and_self,cond_true,cntI,cntO]
  cases (nth (0,0,0,false) ms i).2.2.2
  ·simp only[cond_false]
   rw[show a+1+cntI (ms.drop (i+1))=a+(1+cntI (ms.drop (i+1))) by omega,show b+cntO (ms.drop (i+1))=b+(0+cntO (ms.drop (i+1))) by omega]
  ·simp only[cond_true]
   rw[show a+cntI (ms.drop (i+1))=a+(0+cntI (ms.drop (i+1))) by omega,show b+1+cntO (ms.drop (i+1))=b+(1+cntO (ms.drop (i+1))) by omega]
theorem oCounts_ret (z:Organ) (hk:oCountsOk z=true):Ret oCounts_re oCounts_R (oCounts_run (oCountsFu z) z) (oCountsM z):=by
 obtain ⟨k,w,h,c,ms⟩:=z
 have hk':ms.length<big:=of_decide_eq_true hk
 have:=oCounts_L0_spec (ms.length+1) ms hk' ms.length (ms.length+1) 0 0 0 (by omega) (by omega) (by omega)
 rw[List.drop_zero,Nat.zero_add,Nat.zero_add] at this
 exact Ret.of ((oCounts_arg ..).trans ((oCounts_eq ..).trans this)) (Ret.int2 _ _ _ _)
abbrev Sit:=List Int×Int×List Int
def mix (c n h x:Int):Int:=xorI .u64 (IntKind.wrap .u64 (xorI .u64 h (IntKind.wrap .u64 x)*c)) (shrI .u64 (IntKind.wrap .u64 (xorI .u64 h (IntKind.wrap .u64 x)*c)) n)
def h0 (s:Int):Int:=IntKind.wrap .u64 (IntKind.wrap .u64 (IntKind.wrap .i64 (s+1))*11400714819323198485)
def hashM:Sit→Int:=fun (a,s,d)=>a.foldl (mix 10723151780598845931 29) (d.foldl (mix 13787848793156543929 31) (h0 s))
abbrev FiZ:=Int×Int×Int×List Int×List Mo×Int×Int×Int×List (List Int)×List (List Int)×List (List Bool)
def firstOk:FiZ→Bool:=fun (_,_,_,c,_,_,_,delay,_)=>decide (c.length≤1000∧0≤delay∧delay≤1000)
def firstM:FiZ→Sit:=fun (_,_,_,c,_,_,_,delay,_)=>(c,0,List.replicate delay.toNat 0)
def sitR (a:List Int) (s:Int) (d:List Int):Res:={ok:=true,val:=AV.agg [AV.sl 0 0 0 none,AV.int .i64 s,AV.sl 1 0 0 none],heap:=[Blk.row 0 3 KI a,Blk.row 0 3 KI d]}
theorem Ret.sit {a:List Int} {s:Int} {d:List Int}:Ret oFirst_re oFirst_R (sitR a s d) ((a,s,d):Sit):=by
 have hh:roVs (sitR a s d)=[.agg [.ro (.int .i64) a, .int .i64 s, .ro (.int .i64) d]]:=rfl
 refine ⟨rfl,rfl,?_,?_,?_,?_,fun ws h=>by cases h⟩
 ·rw[hh];rfl
 ·rw[hh];rfl
 ·rw[hh];simp[oFirst_R,flatA,cellsA,decOk,nth,isRo,isInt,isB,dropL,width]
 ·rw[hh]
  exact (congrArg (fun (x:List Int)=>((x,s,asL (.int .i64) (.ro (.int .i64) d)):Sit)) (asL_ro (.int .i64) a)).trans (congrArg (fun (x:List Int)=>((a,s,x):Sit)) (asL_ro (.int .i64) d))
def oFirstOk:FiZ→Bool:=firstOk
def oFirstM:FiZ→Sit:=firstM
def oFirstFu:FiZ→Nat:=fun _=>1
theorem oFirst_ret (z:FiZ) (hk:oFirstOk z=true):Ret oFirst_re oFirst_R (oFirst_run (oFirstFu z) z) (oFirstM z):=by
 obtain ⟨k,w,h,c,ms,i,o,dl,n,p,l⟩:=z
 have hk':c.length≤1000∧0≤dl∧dl≤1000:=of_decide_eq_true hk
 refine Ret.of (r':=sitR c 0 (List.replicate dl.toNat 0)) ((oFirst_arg ..).trans ((oFirst_eq ..).trans ?_)) Ret.sit
 rw[decide_eq_true (show Nat.mul c.length 8≤140737488355328 from by show c.length*8≤_;omega)]
 simp only[hk'.2.1,Int.le_refl,show dl*8≤140737488355328 by omega,show dl≤4611686018427387904 by omega,decide_true,Bool.and_self,cond_true]
 rfl
theorem Ret.str (s:List UInt8):Ret [none] .str ⟨true, .str s,[]⟩ s:=⟨rfl,rfl,rfl,rfl,rfl,rfl,fun _ h=>by cases h⟩
def packOk:List Int→Bool:=fun l=>decide (l.length≤1000)
def packF (l:List Int) (i:Nat):Int:=IntKind.wrap .u8 (nth 0 l i)
def packM:List Int→List UInt8:=fun l=>bytesS (upTo (packF l) l.length)
def packFu:List Int→Nat:=fun l=>l.length+1
theorem pack_L0_spec (F:Nat) (l:List Int) (hx:l.length≤1000):∀(k n i:Nat) (b:List Int),i+k=l.length→k<n→b.length=l.length→
  pack_L0 F n l l.length i b={ok:=true,val:=AV.str (bytesS (setAll (packF l) k i b))}
 |k,0,i,_,_,h,_=>by omega
 |0,n+1,i,b,hi,_,_=>by
  rw[pack_L0_succ]
  simp only[show ¬((i:Int)<l.length) by omega,decide_false,cond_false,setAll]
 |k+1,n+1,i,b,hi,hn,hb=>by
  have ih:=pack_L0_spec F l hx k n (i+1) (b.set i (packF l i)) (by omega) (by omega) (by rw[List.length_set];exact hb)
  rw[pack_L0_succ,wrap_succ (i:=i) (by omega),Int.toNat_natCast]
  simp only[show (i:Int)<l.length by omega,show (i:Int)<b.length by omega,show i<b.length by omega,show (0:Int)≤i by omega,decide_true,Bool.and_self,cond_true]
  exact ih
theorem pack_ret (l:List Int) (hk:packOk l=true):Ret pack_re pack_R (pack_run (packFu l) l) (packM l):=by
 have hk':l.length≤1000:=of_decide_eq_true hk
 refine Ret.of (r':={ok:=true,val:=AV.str (packM l)}) ((pack_arg ..).trans ((pack_eq ..).trans ?_)) (Ret.str _)
 have:=pack_L0_spec (l.length+1) l hk' l.length (l.length+1) 0 (List.replicate l.length 0) (by omega) (by omega) (by simp)
 have e:=setAll_upTo (packF l) l.length 0
 rw[Nat.zero_add] at e
 rw[show setAll (packF l) l.length 0 (List.replicate l.length 0)=upTo (packF l) l.length from e] at this
 simp only[show (0:Int)≤(l.length:Int) by omega,Int.le_refl,show (l.length:Int)*1≤140737488355328 by omega,show (l.length:Int)≤4611686018427387904 by omega,decide_true,Bool.and_self,cond_true,Int.toNat_natCast]
 exact this
noncomputable def tbTAL_1:=addC 9 (tspec rVC_sh rVC_K rVC_re rVC_R (fun _=>true) rVCM) tbTA
theorem tabTAL_1:Tab Tryd.prog tbTAL_1 cxMd tbKTA:=Tab.addTy (os:=[]) tabTA tabTA (KK:=rVC_K) (R:=rVC_R) (fn:=Tryd.f9) (by kernel_rfl) (by kernel_rfl) (by kernel_rfl) (by kernel_rfl) _ rVCFu rVC_ret
noncomputable def tbTAL_2:=addC 26 (tspec oVC_sh oVC_K oVC_re oVC_R (fun _=>true) oVCM) tbTAL_1
theorem tabTAL_2:Tab Tryd.prog tbTAL_2 cxMd tbKTA:=Tab.addTy (os:=[]) tabTAL_1 tabTA (KK:=oVC_K) (R:=oVC_R) (fn:=Tryd.f26) (by kernel_rfl) (by kernel_rfl) (by kernel_rfl) (by kernel_rfl) _ oVCFu oVC_ret
noncomputable def tbTAL_3:=addC 35 (tspec oCounts_sh oCounts_K oCounts_re oCounts_R oCountsOk oCountsM) tbTAL_2
theorem tabTAL_3:Tab Tryd.prog tbTAL_3 cxMd tbKTA:=Tab.addTy (os:=[]) tabTAL_2 tabTA (KK:=oCounts_K) (R:=oCounts_R) (fn:=Tryd.f35) (by kernel_rfl) (by kernel_rfl) (by kernel_rfl) (by kernel_rfl) _ oCountsFu oCounts_ret
noncomputable def tbTAL_4:=addC 18 (tspec oFirst_sh oFirst_K oFirst_re oFirst_R oFirstOk oFirstM) tbTAL_3
theorem tabTAL_4:Tab Tryd.prog tbTAL_4 cxMd tbKTA:=Tab.addTy (os:=[]) tabTAL_3 tabTA (KK:=oFirst_K) (R:=oFirst_R) (fn:=Tryd.f18) (by kernel_rfl) (by kernel_rfl) (by kernel_rfl) (by kernel_rfl) _ oFirstFu oFirst_ret
noncomputable def tbTAL_5:=addC 36 (tspec pack_sh pack_K pack_re pack_R packOk packM) tbTAL_4
theorem tabTAL_5:Tab Tryd.prog tbTAL_5 cxMd tbKTA:=Tab.addTy (os:=[]) tabTAL_4 tabTA (KK:=pack_K) (R:=pack_R) (fn:=Tryd.f36) (by kernel_rfl) (by kernel_rfl) (by kernel_rfl) (by kernel_rfl) _ packFu pack_ret
noncomputable def tbTAB:=tbTAL_5
noncomputable def tbKTAB:KT:=tbKTA
theorem tabTAB:Tab Tryd.prog tbTAB cxMd tbKTAB:=tabTAL_5
end Go.Proofs.YtiglikocfjhkcaaDoor
