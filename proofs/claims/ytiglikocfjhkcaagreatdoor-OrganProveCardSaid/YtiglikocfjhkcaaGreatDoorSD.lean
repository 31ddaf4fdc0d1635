/- Wires and joints: what they become. -/
import Derived.Test.YtiglikocfjhkcaaGreatDoorSC
import Derived.Test.YtiglikocfjhkcaaGreatDoorProg
import Derived.KernelRfl
set_option linter.all false
set_option linter.unusedVariables false
set_option linter.unusedSimpArgs false
open Go Go.Abs Go.Proofs
namespace Go.Proofs.YtiglikocfjhkcaaGreatDoor
noncomputable def tbSD:=tbSCB
noncomputable def tbKSD:KT:=tbKSCB
theorem tabSD:Tab Tryz.prog tbSD cxMd tbKSD:=tabSCB
noncomputable def cx_struck (F:Nat):Cx:={P:=Tryz.prog,C:=tbSD,K:=tbKSD,mode:=cxMd,fuel:=F,live:=liveTab [(2,[2,0,1,7])],pin:=0,nx:=true}
noncomputable def cx_fed (F:Nat):Cx:={P:=Tryz.prog,C:=tbSD,K:=tbKSD,mode:=cxMd,fuel:=F,live:=liveTab [(2,[7,1,2,0])],pin:=0,nx:=true}
noncomputable def cx_rAcross (F:Nat):Cx:={P:=Tryz.prog,C:=tbSD,K:=tbKSD,mode:=cxMd,fuel:=F,live:=liveTab [(2,[1,0,5])],pin:=0,nx:=true}
noncomputable def cx_wireNext (F:Nat):Cx:={P:=Tryz.prog,C:=tbSD,K:=tbKSD,mode:=cxMd,fuel:=F,live:=liveTab [(9,[37,36,6,10,5])],pin:=0,nx:=true}
noncomputable def cx_jointNext (F:Nat):Cx:={P:=Tryz.prog,C:=tbSD,K:=tbKSD,mode:=cxMd,fuel:=F,live:=liveTab [(19,[13,14,54,12,53])],pin:=0,nx:=true}
def struck_K:CK:=CK.pair KL (CK.pair CK.bool KI)
def struck_sh:List (Option Nat):=[none,none,none]
def struck_R:CK:=CK.bool
def struck_re:List (Option Nat):=[none]
noncomputable def struck_L0r (F n:Nat) (s0:List Int) (s1:Bool) (s2 s7:Int):Res:=Lp (cx_struck F) (loopBy (loopsOf (cx_struck F) (bodyOf Tryz.f107) (endK (cx_struck F) Tryz.f107)) 2) n {T:=fr 39 [(0,AV.ro KI s0),(1,AV.bool s1),(2,AV.int .i64 s2),(7,AV.int .i64 s7)],H:=[],ok:=true}
noncomputable def struck_L0:=Classical.choose (hideE struck_L0r)
theorem struck_L0_def:struck_L0=struck_L0r:=Classical.choose_spec (hideE struck_L0r)
theorem struck_L0_succ (F n:Nat) (s0:List Int) (s1:Bool) (s2 s7:Int):struck_L0 F (n+1) s0 s1 s2 s7=bif decide (s7<4) then bif s7 !=s2 then bif decide (0≤s7)&&decide (s7<(s0.length:Int)) then bif pointsM (nth 0 s0 (Int.toNat s7),s7) then bif decide (0≤s7)&&decide (s7<(s0.length:Int)) then bif rExcM (nth 0 s0 (Int.toNat s7)) then bif decide (0≤s7)&&decide (s7<(s0.length:Int)) then bif decide (rOrdM (nth 0 s0 (Int.toNat s7))=s1) then {ok:=true,val:=AV.bool true} else struck_L0 F n s0 s1 s2 (IntKind.wrap .i64 (s7+1)) else BR else struck_L0 F n s0 s1 s2 (IntKind.wrap .i64 (s7+1)) else BR else struck_L0 F n s0 s1 s2 (IntKind.wrap .i64 (s7+1)) else BR else struck_L0 F n s0 s1 s2 (IntKind.wrap .i64 (s7+1)) else {ok:=true,val:=AV.bool false}:=by rewrite [struck_L0_def];kernel_rfl
theorem struck_eq (F:Nat) (a0:List Int) (a1:Bool) (a2:Int):runF (cx_struck F) Tryz.f107 [AV.ro KI a0,AV.bool a1,AV.int .i64 a2] []=struck_L0 F F a0 a1 a2 0:=by rewrite [struck_L0_def];kernel_rfl
noncomputable def struck_run (F:Nat) (x:CT struck_K):Res:=runF (cx_struck F) Tryz.f107 (groupA struck_sh (enc struck_K x)) []
theorem struck_arg (F:Nat) (a0:List Int) (a1:Bool) (a2:Int):struck_run F (a0,a1,a2)=runF (cx_struck F) Tryz.f107 [AV.ro KI a0,AV.bool a1,AV.int .i64 a2] []:=by kernel_rfl
def fed_K:CK:=CK.pair KL (CK.pair KI CK.bool)
def fed_sh:List (Option Nat):=[none,none,none]
def fed_R:CK:=CK.bool
def fed_re:List (Option Nat):=[none]
noncomputable def fed_L0r (F n:Nat) (s0:List Int) (s1:Int) (s2:Bool) (s7:Int):Res:=Lp (cx_fed F) (loopBy (loopsOf (cx_fed F) (bodyOf Tryz.f109) (endK (cx_fed F) Tryz.f109)) 2) n {T:=fr 43 [(0,AV.ro KI s0),(1,AV.int .i64 s1),(2,AV.bool s2),(7,AV.int .i64 s7)],H:=[],ok:=true}
noncomputable def fed_L0:=Classical.choose (hideE fed_L0r)
theorem fed_L0_def:fed_L0=fed_L0r:=Classical.choose_spec (hideE fed_L0r)
theorem fed_L0_succ (F n:Nat) (s0:List Int) (s1:Int) (s2:Bool) (s7:Int):fed_L0 F (n+1) s0 s1 s2 s7=bif decide (s7<4) then bif decide (s7=s1) then fed_L0 F n s0 s1 s2 (IntKind.wrap .i64 (s7+1)) else bif decide (0≤s7)&&decide (s7<(s0.length:Int)) then bif rJointM (nth 0 s0 (Int.toNat s7)) then bif decide (0≤s7)&&decide (s7<(s0.length:Int)) then bif decide (nth 0 s0 (Int.toNat s7)≥27) then {ok:=true,val:=AV.bool true} else bif s2 then bif decide (0≤s7)&&decide (s7<(s0.length:Int)) then bif rCrossM (nth 0 s0 (Int.toNat s7)) then bif decide (0≤s7)&&decide (s7<(s0.length:Int)) then bif crossesM (nth 0 s0 (Int.toNat s7),s7) then {ok:=true,val:=AV.bool true} else fed_L0 F n s0 s1 s2 (IntKind.wrap .i64 (s7+1)) else BR else fed_L0 F n s0 s1 s2 (IntKind.wrap .i64 (s7+1)) else BR else fed_L0 F n s0 s1 s2 (IntKind.wrap .i64 (s7+1)) else BR else bif s2 then bif decide (0≤s7)&&decide (s7<(s0.length:Int)) then bif rCrossM (nth 0 s0 (Int.toNat s7)) then bif decide (0≤s7)&&decide (s7<(s0.length:Int)) then bif crossesM (nth 0 s0 (Int.toNat s7),s7) then {ok:=true,val:=AV.bool true} else fed_L0 F n s0 s1 s2 (IntKind.wrap .i64 (s7+1)) else BR else fed_L0 F n s0 s1 s2 (IntKind.wrap .i64 (s7+1)) else BR else fed_L0 F n s0 s1 s2 (IntKind.wrap .i64 (s7+1)) else BR else {ok:=true,val:=AV.bool false}:=by rewrite [fed_L0_def];kernel_rfl
theorem fed_eq (F:Nat) (a0:List Int) (a1:Int) (a2:Bool):runF (cx_fed F) Tryz.f109 [AV.ro KI a0,AV.int .i64 a1,AV.bool a2] []=fed_L0 F F a0 a1 a2 0:=by rewrite [fed_L0_def];kernel_rfl
noncomputable def fed_run (F:Nat) (x:CT fed_K):Res:=runF (cx_fed F) Tryz.f109 (groupA fed_sh (enc fed_K x)) []
theorem fed_arg (F:Nat) (a0:List Int) (a1:Int) (a2:Bool):fed_run F (a0,a1,a2)=runF (cx_fed F) Tryz.f109 [AV.ro KI a0,AV.int .i64 a1,AV.bool a2] []:=by kernel_rfl
def rAcross_K:CK:=CK.pair KL KI
def rAcross_sh:List (Option Nat):=[none,none]
def rAcross_R:CK:=CK.int .i64
def rAcross_re:List (Option Nat):=[none]
noncomputable def rAcross_L0r (F n:Nat) (s0:List Int) (s1 s5:Int):Res:=Lp (cx_rAcross F) (loopBy (loopsOf (cx_rAcross F) (bodyOf Tryz.f140) (endK (cx_rAcross F) Tryz.f140)) 2) n {T:=fr 51 [(0,AV.ro KI s0),(1,AV.int .i64 s1),(5,AV.int .i64 s5)],H:=[],ok:=true}
noncomputable def rAcross_L0:=Classical.choose (hideE rAcross_L0r)
theorem rAcross_L0_def:rAcross_L0=rAcross_L0r:=Classical.choose_spec (hideE rAcross_L0r)
theorem rAcross_L0_succ (F n:Nat) (s0:List Int) (s1 s5:Int):rAcross_L0 F (n+1) s0 s1 s5=bif decide (s5<2) then bif decide (0≤IntKind.wrap .i64 (s1+IntKind.wrap .i64 (2*s5)))&&decide (IntKind.wrap .i64 (s1+IntKind.wrap .i64 (2*s5))<(s0.length:Int)) then bif rOrdM (nth 0 s0 (Int.toNat (IntKind.wrap .i64 (s1+IntKind.wrap .i64 (2*s5))))) then bif decide (0≤IntKind.wrap .i64 (s1+IntKind.wrap .i64 (2*s5)))&&decide (IntKind.wrap .i64 (s1+IntKind.wrap .i64 (2*s5))<(s0.length:Int)) then bif pointsM (nth 0 s0 (Int.toNat (IntKind.wrap .i64 (s1+IntKind.wrap .i64 (2*s5)))),IntKind.wrap .i64 (s1+IntKind.wrap .i64 (2*s5))) then bif decide (0≤IntKind.wrap .i64 (IntKind.wrap .i64 (s1+2)-IntKind.wrap .i64 (2*s5)))&&decide (IntKind.wrap .i64 (IntKind.wrap .i64 (s1+2)-IntKind.wrap .i64 (2*s5))<(s0.length:Int)) then bif rOrdM (nth 0 s0 (Int.toNat (IntKind.wrap .i64 (IntKind.wrap .i64 (s1+2)-IntKind.wrap .i64 (2*s5))))) then bif decide (0≤IntKind.wrap .i64 (IntKind.wrap .i64 (s1+2)-IntKind.wrap .i64 (2*s5)))&&decide (IntKind.wrap .i64 (IntKind.wrap .i64 (s1+2)-IntKind.wrap .i64 (2*s5))<(s0.length:Int)) then bif !pointsM (nth 0 s0 (Int.toNat (IntKind.wrap .i64 (IntKind.wrap .i64 (s1+2)-IntKind.wrap .i64 (2*s5)))),IntKind.wrap .i64 (IntKind.wrap .i64 (s1+2)-IntKind.wrap .i64 (2*s5))) then {ok:=true,val:=AV.int .i64 (IntKind.wrap .i64 (s1+IntKind.wrap .i64 (2*s5)))} else rAcross_L0 F n s0 s1 (IntKind.wrap .i64 (s5+1)) else BR else rAcross_L0 F n s0 s1 (IntKind.wrap .i64 (s5+1)) else BR else rAcross_L0 F n s0 s1 (IntKind.wrap .i64 (s5+1)) else BR else rAcross_L0 F n s0 s1 (IntKind.wrap .i64 (s5+1)) else BR else {ok:=true,val:=AV.int .i64 (-1)}:=by rewrite [rAcross_L0_def];kernel_rfl
theorem rAcross_eq (F:Nat) (a0:List Int) (a1:Int):runF (cx_rAcross F) Tryz.f140 [AV.ro KI a0,AV.int .i64 a1] []=rAcross_L0 F F a0 a1 0:=by rewrite [rAcross_L0_def];kernel_rfl
noncomputable def rAcross_run (F:Nat) (x:CT rAcross_K):Res:=runF (cx_rAcross F) Tryz.f140 (groupA rAcross_sh (enc rAcross_K x)) []
theorem rAcross_arg (F:Nat) (a0:List Int) (a1:Int):rAcross_run F (a0,a1)=runF (cx_rAcross F) Tryz.f140 [AV.ro KI a0,AV.int .i64 a1] []:=by kernel_rfl
def wireNext_K:CK:=CK.pair KI (CK.pair KI (CK.pair KI (CK.pair KI KI)))
def wireNext_sh:List (Option Nat):=[none,some 4]
def wireNext_R:CK:=CK.int .i64
def wireNext_re:List (Option Nat):=[none]
noncomputable def wireNext_L0r (F n:Nat) (s5 s6 s10 s36_0 s36_1 s36_2 s36_3 s37:Int):Res:=Lp (cx_wireNext F) (loopBy (loopsOf (cx_wireNext F) (bodyOf Tryz.f116) (endK (cx_wireNext F) Tryz.f116)) 9) n {T:=fr 73 [(5,AV.int .i64 s5),(6,AV.int .i64 s6),(10,AV.int .i64 s10),(36,AV.agg [AV.int .i64 s36_0,AV.int .i64 s36_1,AV.int .i64 s36_2,AV.int .i64 s36_3]),(37,AV.int .i64 s37)],H:=[],ok:=true}
noncomputable def wireNext_L0:=Classical.choose (hideE wireNext_L0r)
theorem wireNext_L0_def:wireNext_L0=wireNext_L0r:=Classical.choose_spec (hideE wireNext_L0r)
theorem wireNext_L0_succ (F n:Nat) (s5 s6 s10 s36_0 s36_1 s36_2 s36_3 s37:Int):wireNext_L0 F (n+1) s5 s6 s10 s36_0 s36_1 s36_2 s36_3 s37=bif decide (s37<4) then bif decide (0≤s37)&&decide (s37<4) then bif decide (s37=s6) then wireNext_L0 F n s5 s6 s10 s36_0 s36_1 s36_2 s36_3 (IntKind.wrap .i64 (s37+1)) else bif decide (s5=2) then bif (hitByM (nth 0 [s36_0,s36_1,s36_2,s36_3] (Int.toNat s37),s37)).1 then {ok:=true,val:=AV.int .i64 (IntKind.wrap .i64 (s10+4))} else bif decide (s5=3) then bif (hitByM (nth 0 [s36_0,s36_1,s36_2,s36_3] (Int.toNat s37),s37)).2 then {ok:=true,val:=AV.int .i64 (IntKind.wrap .i64 (s10+4))} else bif litM (nth 0 [s36_0,s36_1,s36_2,s36_3] (Int.toNat s37),s37,decide (s5=2)) then {ok:=true,val:=AV.int .i64 (IntKind.wrap .i64 (s10+4))} else wireNext_L0 F n s5 s6 s10 s36_0 s36_1 s36_2 s36_3 (IntKind.wrap .i64 (s37+1)) else bif litM (nth 0 [s36_0,s36_1,s36_2,s36_3] (Int.toNat s37),s37,decide (s5=2)) then {ok:=true,val:=AV.int .i64 (IntKind.wrap .i64 (s10+4))} else wireNext_L0 F n s5 s6 s10 s36_0 s36_1 s36_2 s36_3 (IntKind.wrap .i64 (s37+1)) else bif decide (s5=3) then bif (hitByM (nth 0 [s36_0,s36_1,s36_2,s36_3] (Int.toNat s37),s37)).2 then {ok:=true,val:=AV.int .i64 (IntKind.wrap .i64 (s10+4))} else bif litM (nth 0 [s36_0,s36_1,s36_2,s36_3] (Int.toNat s37),s37,decide (s5=2)) then {ok:=true,val:=AV.int .i64 (IntKind.wrap .i64 (s10+4))} else wireNext_L0 F n s5 s6 s10 s36_0 s36_1 s36_2 s36_3 (IntKind.wrap .i64 (s37+1)) else bif litM (nth 0 [s36_0,s36_1,s36_2,s36_3] (Int.toNat s37),s37,decide (s5=2)) then {ok:=true,val:=AV.int .i64 (IntKind.wrap .i64 (s10+4))} else wireNext_L0 F n s5 s6 s10 s36_0 s36_1 s36_2 s36_3 (IntKind.wrap .i64 (s37+1)) else BR else {ok:=true,val:=AV.int .i64 s10}:=by rewrite [wireNext_L0_def];kernel_rfl
theorem wireNext_eq (F:Nat) (a0 a1_0 a1_1 a1_2 a1_3:Int):runF (cx_wireNext F) Tryz.f116 [AV.int .i64 a0,AV.agg [AV.int .i64 a1_0,AV.int .i64 a1_1,AV.int .i64 a1_2,AV.int .i64 a1_3]] []=bif decide ((sortOfM a0).1=3) then bif (hitsM (a1_0,a1_1,a1_2,a1_3)).1 then {ok:=true,val:=AV.int .i64 0} else wireNext_L0 F F (sortOfM a0).1 (sortOfM a0).2.1 (IntKind.wrap .i64 (17+(sortOfM a0).2.1)) a1_0 a1_1 a1_2 a1_3 0 else bif (hitsM (a1_0,a1_1,a1_2,a1_3)).2 then {ok:=true,val:=AV.int .i64 0} else wireNext_L0 F F (sortOfM a0).1 (sortOfM a0).2.1 (IntKind.wrap .i64 (9+(sortOfM a0).2.1)) a1_0 a1_1 a1_2 a1_3 0:=by rewrite [wireNext_L0_def];kernel_rfl
noncomputable def wireNext_run (F:Nat) (x:CT wireNext_K):Res:=runF (cx_wireNext F) Tryz.f116 (groupA wireNext_sh (enc wireNext_K x)) []
theorem wireNext_arg (F:Nat) (a0 a1_0 a1_1 a1_2 a1_3:Int):wireNext_run F (a0,a1_0,a1_1,a1_2,a1_3)=runF (cx_wireNext F) Tryz.f116 [AV.int .i64 a0,AV.agg [AV.int .i64 a1_0,AV.int .i64 a1_1,AV.int .i64 a1_2,AV.int .i64 a1_3]] []:=by kernel_rfl
def jointNext_K:CK:=CK.pair KI (CK.pair KI MoK)
def jointNext_sh:List (Option Nat):=[none,some 4,none]
def jointNext_R:CK:=CK.int .i64
def jointNext_re:List (Option Nat):=[none]
noncomputable def jointNext_L0r (F n:Nat) (s12 s13 s14 s53_0 s53_1 s53_2 s53_3 s54:Int):Res:=Lp (cx_jointNext F) (loopBy (loopsOf (cx_jointNext F) (bodyOf Tryz.f117) (endK (cx_jointNext F) Tryz.f117)) 19) n {T:=fr 91 [(12,AV.int .i64 s12),(13,AV.int .i64 s13),(14,AV.int .i64 s14),(53,AV.agg [AV.int .i64 s53_0,AV.int .i64 s53_1,AV.int .i64 s53_2,AV.int .i64 s53_3]),(54,AV.int .i64 s54)],H:=[],ok:=true}
noncomputable def jointNext_L0:=Classical.choose (hideE jointNext_L0r)
theorem jointNext_L0_def:jointNext_L0=jointNext_L0r:=Classical.choose_spec (hideE jointNext_L0r)
theorem jointNext_L0_succ (F n:Nat) (s12 s13 s14 s53_0 s53_1 s53_2 s53_3 s54:Int):jointNext_L0 F (n+1) s12 s13 s14 s53_0 s53_1 s53_2 s53_3 s54=bif decide (s54<4) then bif decide (0≤s54)&&decide (s54<4) then bif decide ((sortOfM (nth 0 [s53_0,s53_1,s53_2,s53_3] (Int.toNat s54))).1=2) then bif decide ((sortOfM (nth 0 [s53_0,s53_1,s53_2,s53_3] (Int.toNat s54))).2.1=Int.tmod (IntKind.wrap .i64 (s54+2)) 4) then bif (sortOfM (nth 0 [s53_0,s53_1,s53_2,s53_3] (Int.toNat s54))).2.2 then jointNext_L0 F n s12 (IntKind.wrap .i64 (s13+1)) (IntKind.wrap .i64 (s14+1)) s53_0 s53_1 s53_2 s53_3 (IntKind.wrap .i64 (s54+1)) else jointNext_L0 F n s12 (IntKind.wrap .i64 (s13+1)) s14 s53_0 s53_1 s53_2 s53_3 (IntKind.wrap .i64 (s54+1)) else jointNext_L0 F n s12 s13 s14 s53_0 s53_1 s53_2 s53_3 (IntKind.wrap .i64 (s54+1)) else jointNext_L0 F n s12 s13 s14 s53_0 s53_1 s53_2 s53_3 (IntKind.wrap .i64 (s54+1)) else BR else bif decide (s13>0) then bif decide (s13=s14) then {ok:=true,val:=AV.int .i64 (IntKind.wrap .i64 (IntKind.wrap .i64 (25+IntKind.wrap .i64 (2*s12))+1))} else {ok:=true,val:=AV.int .i64 (IntKind.wrap .i64 (25+IntKind.wrap .i64 (2*s12)))} else {ok:=true,val:=AV.int .i64 (IntKind.wrap .i64 (25+IntKind.wrap .i64 (2*s12)))}:=by rewrite [jointNext_L0_def];kernel_rfl
theorem jointNext_eq (F:Nat) (a0 a1_0 a1_1 a1_2 a1_3:Int) (a2:Bool):runF (cx_jointNext F) Tryz.f117 [AV.int .i64 a0,AV.agg [AV.int .i64 a1_0,AV.int .i64 a1_1,AV.int .i64 a1_2,AV.int .i64 a1_3],AV.bool a2] []=bif (hitsM (a1_0,a1_1,a1_2,a1_3)).2 then {ok:=true,val:=AV.int .i64 0} else bif a2 then bif (cAcrossM (a1_0,a1_1,a1_2,a1_3)).1 then bif (cAcrossM (a1_0,a1_1,a1_2,a1_3)).2.1 then bif (cAcrossM (a1_0,a1_1,a1_2,a1_3)).2.2 then {ok:=true,val:=AV.int .i64 31} else bif (cAcrossM (a1_0,a1_1,a1_2,a1_3)).2.1 then {ok:=true,val:=AV.int .i64 29} else bif (cAcrossM (a1_0,a1_1,a1_2,a1_3)).2.2 then {ok:=true,val:=AV.int .i64 30} else {ok:=true,val:=AV.int .i64 25} else bif (cAcrossM (a1_0,a1_1,a1_2,a1_3)).2.1 then {ok:=true,val:=AV.int .i64 29} else bif (cAcrossM (a1_0,a1_1,a1_2,a1_3)).2.2 then {ok:=true,val:=AV.int .i64 30} else {ok:=true,val:=AV.int .i64 25} else bif decide (a0≥25) then bif decide (a0<29) then jointNext_L0 F F (Int.tmod (IntKind.wrap .i64 (a0-25)) 2) 0 0 a1_0 a1_1 a1_2 a1_3 0 else jointNext_L0 F F 0 0 0 a1_0 a1_1 a1_2 a1_3 0 else jointNext_L0 F F 0 0 0 a1_0 a1_1 a1_2 a1_3 0 else bif decide (a0≥25) then bif decide (a0<29) then jointNext_L0 F F (Int.tmod (IntKind.wrap .i64 (a0-25)) 2) 0 0 a1_0 a1_1 a1_2 a1_3 0 else jointNext_L0 F F 0 0 0 a1_0 a1_1 a1_2 a1_3 0 else jointNext_L0 F F 0 0 0 a1_0 a1_1 a1_2 a1_3 0:=by rewrite [jointNext_L0_def];kernel_rfl
noncomputable def jointNext_run (F:Nat) (x:CT jointNext_K):Res:=runF (cx_jointNext F) Tryz.f117 (groupA jointNext_sh (enc jointNext_K x)) []
theorem jointNext_arg (F:Nat) (a0 a1_0 a1_1 a1_2 a1_3:Int) (a2:Bool):jointNext_run F (a0,a1_0,a1_1,a1_2,a1_3,a2)=runF (cx_jointNext F) Tryz.f117 [AV.int .i64 a0,AV.agg [AV.int .i64 a1_0,AV.int .i64 a1_1,AV.int .i64 a1_2,AV.int .i64 a1_3],AV.bool a2] []:=by kernel_rfl
theorem cc {α:Type} (p q:Bool) (A C:α):(bif p then bif q then A else C else C)=bif (p&&q) then A else C:=by cases p<;>cases q<;>rfl
theorem orL (a b:Bool):(bif a then ({ok:=true,val:=AV.bool true}:Res) else {ok:=true,val:=AV.bool b})={ok:=true,val:=AV.bool (a||b)}:=by cases a<;>rfl
theorem raiseL {α:Type} (D o h p q l:Bool) (E R:α):
  (bif D then R else bif o then bif h then E else (bif p then bif q then E else (bif l then E else R) else (bif l then E else R)) else (bif p then bif q then E else (bif l then E else R) else (bif l then E else R)))=bif (!D&&(o&&h||(p&&q||l))) then E else R:=by
 cases D<;>cases o<;>cases h<;>cases p<;>cases q<;>cases l<;>rfl
theorem fedL {α:Type} (D j g o c k:Bool) (E R:α):(bif D then R else bif j then bif g then E else (bif o then bif c then bif k then E else R else R else R) else (bif o then bif c then bif k then E else R else R else R))=bif (!D&&(j&&g||o&&(c&&k))) then E else R:=by
 cases D<;>cases j<;>cases g<;>cases o<;>cases c<;>cases k<;>rfl
theorem lt4 {i:Nat} (h:i<4):decide ((i:Int)<4)=true:=decide_eq_true (by omega)
theorem in4 {i:Nat} (h:i<4):(decide (0≤(i:Int))&&decide ((i:Int)<((4:Nat):Int)))=true:=by rw[Bool.and_eq_true];exact ⟨decide_eq_true (by omega),decide_eq_true (by omega)⟩
theorem ge0 {i:Nat}:decide (0≤(i:Int))=true:=decide_eq_true (by omega)
def strk (l:List Int) (o:Bool) (but:Int) (i:Nat):Bool:=((i:Int) !=but)&&(pointsM (nth 0 l i,i)&&(rExcM (nth 0 l i)&&decide (rOrdM (nth 0 l i)=o)))
def struckM:List Int×Bool×Int→Bool:=fun (l,o,but)=>strk l o but 0||(strk l o but 1||(strk l o but 2||(strk l o but 3||false)))
def struckOk:List Int×Bool×Int→Bool:=fun (l,_,_)=>decide (l.length=4)
def struckFu:List Int×Bool×Int→Nat:=fun _=>6
theorem struck_step {F n:Nat} {l:List Int} {o:Bool} {but:Int} (hl:l.length=4) (i:Nat) (hi:i<4):struck_L0 F (n+1) l o but (i:Int)=bif strk l o but i then {ok:=true,val:= .bool true} else struck_L0 F n l o but ((i+1:Nat):Int):=by
 rw[struck_L0_succ,hl,lt4 hi,in4 hi,wrap_succ (by omega),Int.toNat_natCast]
 simp only[cond_true,cc,strk]
theorem struck_end {F n:Nat} {l:List Int} {o:Bool} {but:Int}:struck_L0 F (n+1) l o but ((4:Nat):Int)={ok:=true,val:= .bool false}:=by
 rw[struck_L0_succ];rfl
theorem struck_ret (z:List Int×Bool×Int) (h:struckOk z=true):Ret struck_re struck_R (struck_run (struckFu z) z) (struckM z):=by
 obtain ⟨l,o,but⟩:=z
 have hl:l.length=4:=of_decide_eq_true h
 refine Ret.of ((struck_arg ..).trans ((struck_eq ..).trans ?_)) (Ret.bool _)
 show struck_L0 6 6 l o but ((0:Nat):Int)=_
 rw[struck_step hl 0 (by omega),struck_step hl 1 (by omega),struck_step hl 2 (by omega),struck_step hl 3 (by omega),struck_end,orL,orL,orL,orL]
 rfl
def fedJ (l:List Int) (but:Int) (o:Bool) (i:Nat):Bool:= !decide ((i:Int)=but)&&(rJointM (nth 0 l i)&&decide (nth 0 l i≥27)||o&&(rCrossM (nth 0 l i)&&crossesM (nth 0 l i,i)))
def fedM:List Int×Int×Bool→Bool:=fun (l,but,o)=>fedJ l but o 0||(fedJ l but o 1||(fedJ l but o 2||(fedJ l but o 3||false)))
def fedOk:List Int×Int×Bool→Bool:=fun (l,_,_)=>decide (l.length=4)
def fedFu:List Int×Int×Bool→Nat:=fun _=>6
theorem fed_step {F n:Nat} {l:List Int} {o:Bool} {but:Int} (hl:l.length=4) (i:Nat) (hi:i<4):fed_L0 F (n+1) l but o (i:Int)=bif fedJ l but o i then {ok:=true,val:= .bool true} else fed_L0 F n l but o ((i+1:Nat):Int):=by
 rw[fed_L0_succ,hl,lt4 hi,in4 hi,wrap_succ (by omega),Int.toNat_natCast]
 simp only[cond_true,fedL,fedJ]
theorem fed_end {F n:Nat} {l:List Int} {o:Bool} {but:Int}:fed_L0 F (n+1) l but o ((4:Nat):Int)={ok:=true,val:= .bool false}:=by
 rw[fed_L0_succ];rfl
theorem fed_ret (z:List Int×Int×Bool) (h:fedOk z=true):Ret fed_re fed_R (fed_run (fedFu z) z) (fedM z):=by
 obtain ⟨l,but,o⟩:=z
 have hl:l.length=4:=of_decide_eq_true h
 refine Ret.of ((fed_arg ..).trans ((fed_eq ..).trans ?_)) (Ret.bool _)
 show fed_L0 6 6 l but o ((0:Nat):Int)=_
 rw[fed_step hl 0 (by omega),fed_step hl 1 (by omega),fed_step hl 2 (by omega),fed_step hl 3 (by omega),fed_end,orL,orL,orL,orL]
 rfl
def acr (l:List Int) (i k:Nat):Bool:=rOrdM (nth 0 l i)&&(pointsM (nth 0 l i,i)&&(rOrdM (nth 0 l k)&& !pointsM (nth 0 l k,k)))
def rAcrossM:List Int×Int→Int:=fun (l,ax)=>bif decide (ax=0) then (bif acr l 0 2 then 0 else bif acr l 2 0 then 2 else-1) else (bif acr l 1 3 then 1 else bif acr l 3 1 then 3 else-1)
def rAcrossOk:List Int×Int→Bool:=fun (l,ax)=>decide (l.length=4∧(ax=0∨ax=1))
def rAcrossFu:List Int×Int→Nat:=fun _=>4
theorem rAcross_step {F n:Nat} {l:List Int} {ax:Int} (hl:l.length=4) (i:Int) (hi:i<2) (d o:Nat) (hd:d<4) (ho:o<4) (e1:IntKind.wrap .i64 (ax+IntKind.wrap .i64 (2*i))=d) (e2:IntKind.wrap .i64 (IntKind.wrap .i64 (ax+2)-IntKind.wrap .i64 (2*i))=o):
  rAcross_L0 F (n+1) l ax i=bif acr l d o then {ok:=true,val:= .int .i64 d} else rAcross_L0 F n l ax (IntKind.wrap .i64 (i+1)):=by
 rw[rAcross_L0_succ,hl,decide_eq_true hi,e1,e2,in4 hd,in4 ho,Int.toNat_natCast,Int.toNat_natCast]
 simp only[cond_true,cc,acr]
theorem rAcross_end {F n:Nat} {l:List Int} {ax:Int}:rAcross_L0 F (n+1) l ax 2={ok:=true,val:= .int .i64 (-1)}:=by
 rw[rAcross_L0_succ];rfl
theorem rAcross_ret (z:List Int×Int) (h:rAcrossOk z=true):Ret rAcross_re rAcross_R (rAcross_run (rAcrossFu z) z) (rAcrossM z):=by
 obtain ⟨l,ax⟩:=z
 obtain ⟨hl,hax⟩:l.length=4∧(ax=0∨ax=1):=of_decide_eq_true h
 refine Ret.of ((rAcross_arg ..).trans ((rAcross_eq ..).trans ?_)) (Ret.int _ _)
 show rAcross_L0 4 4 l ax 0=_
 rcases hax with rfl|rfl
 ·rw[rAcross_step hl 0 (by omega) 0 2 (by omega) (by omega) rfl rfl,show IntKind.wrap .i64 ((0:Int)+1)=1 from rfl,rAcross_step hl 1 (by omega) 2 0 (by omega) (by omega) rfl rfl,show IntKind.wrap .i64 ((1:Int)+1)=2 from rfl,rAcross_end]
  simp only[rAcrossM,decide_true,cond_true]
  cases acr l 0 2<;>cases acr l 2 0<;>rfl
 ·rw[rAcross_step hl 0 (by omega) 1 3 (by omega) (by omega) rfl rfl,show IntKind.wrap .i64 ((0:Int)+1)=1 from rfl,rAcross_step hl 1 (by omega) 3 1 (by omega) (by omega) rfl rfl,show IntKind.wrap .i64 ((1:Int)+1)=2 from rfl,rAcross_end]
  simp only[rAcrossM,show decide ((1:Int)=0)=false from rfl,cond_false]
  cases acr l 1 3<;>cases acr l 3 1<;>rfl
def l4 (a:I4):List Int:=[a.1,a.2.1,a.2.2.1,a.2.2.2]
def raise (so di:Int) (l:List Int) (i:Nat):Bool:= !decide ((i:Int)=di)&&(decide (so=2)&&(hitByM (nth 0 l i,i)).1||(decide (so=3)&&(hitByM (nth 0 l i,i)).2||litM (nth 0 l i,i,decide (so=2))))
def anyR (so di:Int) (l:List Int):Bool:=raise so di l 0||(raise so di l 1||(raise so di l 2||raise so di l 3))
def wchain (so di q:Int) (l:List Int):Int:=bif anyR so di l then IntKind.wrap .i64 (q+4) else q
def wireNextM:Int×I4→Int:=fun (c,a)=>
 bif decide ((sortOfM c).1=3) then (bif (hitsM a).1 then 0 else wchain (sortOfM c).1 (sortOfM c).2.1 (IntKind.wrap .i64 (17+(sortOfM c).2.1)) (l4 a))
 else (bif (hitsM a).2 then 0 else wchain (sortOfM c).1 (sortOfM c).2.1 (IntKind.wrap .i64 (9+(sortOfM c).2.1)) (l4 a))
def wireNextFu:Int×I4→Nat:=fun _=>6
abbrev I (n:Int):Res:={ok:=true,val:=AV.int .i64 n}
theorem wire_step {F n:Nat} {so di q a b e d:Int} (i:Nat) (hi:i<4):wireNext_L0 F (n+1) so di q a b e d (i:Int)=bif raise so di [a,b,e,d] i then I (IntKind.wrap .i64 (q+4)) else wireNext_L0 F n so di q a b e d ((i+1:Nat):Int):=by
 rw[wireNext_L0_succ,lt4 hi,ge0,wrap_succ (by omega),Int.toNat_natCast]
 simp only[cond_true,Bool.and_self]
 exact raiseL ..
theorem wire_end {F n:Nat} {so di q a b e d:Int}:wireNext_L0 F (n+1) so di q a b e d ((4:Nat):Int)=I q:=by
 rw[wireNext_L0_succ];rfl
theorem wire_loop {so di q a b e d:Int}:wireNext_L0 6 6 so di q a b e d 0=I (wchain so di q [a,b,e,d]):=by
 show wireNext_L0 6 6 so di q a b e d ((0:Nat):Int)=_
 rw[wire_step 0 (by omega),wire_step 1 (by omega),wire_step 2 (by omega),wire_step 3 (by omega),wire_end]
 simp only[wchain,anyR]
 cases raise so di [a,b,e,d] 0<;>cases raise so di [a,b,e,d] 1<;>cases raise so di [a,b,e,d] 2<;>cases raise so di [a,b,e,d] 3<;>rfl
theorem wireNext_ret (z:Int×I4) (_:true=true):Ret wireNext_re wireNext_R (wireNext_run (wireNextFu z) z) (wireNextM z):=by
 obtain ⟨c,a,b,e,d⟩:=z
 refine Ret.of (r':=I (wireNextM (c,a,b,e,d))) ((wireNext_arg ..).trans ((wireNext_eq ..).trans ?_)) (Ret.int _ _)
 show (bif _ then bif _ then _ else wireNext_L0 6 6 _ _ _ _ _ _ _ 0 else bif _ then _ else wireNext_L0 6 6 _ _ _ _ _ _ _ 0)=_
 rw[wire_loop,wire_loop]
 simp only[wireNextM,l4]
 cases decide ((sortOfM c).1=3)<;>cases (hitsM (a,b,e,d)).1<;>cases (hitsM (a,b,e,d)).2<;>rfl
def ptg (l:List Int) (i:Nat):Bool:=decide ((sortOfM (nth 0 l i)).1=2)&&decide ((sortOfM (nth 0 l i)).2.1=Int.tmod (IntKind.wrap .i64 ((i:Int)+2)) 4)
def onn (l:List Int) (i:Nat):Bool:=(sortOfM (nth 0 l i)).2.2
def someP (l:List Int):Bool:=ptg l 0||(ptg l 1||(ptg l 2||ptg l 3))
def allP (l:List Int):Bool:=(!ptg l 0||onn l 0)&&((!ptg l 1||onn l 1)&&((!ptg l 2||onn l 2)&&(!ptg l 3||onn l 3)))
def jbase (nx:Int):Int:=IntKind.wrap .i64 (25+IntKind.wrap .i64 (2*nx))
def jend (nx:Int) (l:List Int):Int:=bif someP l&&allP l then IntKind.wrap .i64 (jbase nx+1) else jbase nx
def jnx (c:Int):Int:=bif decide (c≥25)&&decide (c<29) then Int.tmod (IntKind.wrap .i64 (c-25)) 2 else 0
def jointNextM:Int×Int×Int×Int×Int×Bool→Int:=fun (c,a,b,e,d,x)=>
 bif (hitsM (a,b,e,d)).2 then 0 else bif x&&(cAcrossM (a,b,e,d)).1 then (bif (cAcrossM (a,b,e,d)).2.1 then (bif (cAcrossM (a,b,e,d)).2.2 then 31 else 29) else (bif (cAcrossM (a,b,e,d)).2.2 then 30 else 25)) else jend (jnx c) [a,b,e,d]
def jointNextFu:Int×Int×Int×Int×Int×Bool→Nat:=fun _=>6
theorem joint_step {F n:Nat} {nx a b e d:Int} (u v:Nat) (hu:u≤4) (hv:v≤4) (i:Nat) (hi:i<4):jointNext_L0 F (n+1) nx (u:Int) (v:Int) a b e d (i:Int)=
  jointNext_L0 F n nx ((u+(bif ptg [a,b,e,d] i then 1 else 0):Nat):Int) ((v+(bif ptg [a,b,e,d] i&&onn [a,b,e,d] i then 1 else 0):Nat):Int) a b e d ((i+1:Nat):Int):=by
 rw[jointNext_L0_succ,lt4 hi,ge0,wrap_succ (by omega),wrap_succ (by omega),wrap_succ (by omega),Int.toNat_natCast]
 simp only[cond_true,Bool.and_self,cc]
 show (bif ptg [a,b,e,d] i then (bif onn [a,b,e,d] i then _ else _) else _)=_
 cases ptg [a,b,e,d] i<;>cases onn [a,b,e,d] i<;>rfl
theorem joint_end {F n:Nat} {nx a b e d:Int} (u v:Nat):jointNext_L0 F (n+1) nx (u:Int) (v:Int) a b e d ((4:Nat):Int)=I (bif decide (u>0)&&decide (u=v) then IntKind.wrap .i64 (jbase nx+1) else jbase nx):=by
 rw[jointNext_L0_succ]
 have e1:decide ((u:Int)>0)=decide (u>0):=by simp
 have e2:decide ((u:Int)=(v:Int))=decide (u=v):=by rw[decide_eq_decide];omega
 rw[e1,e2]
 cases decide (u>0)<;>cases decide (u=v)<;>rfl
theorem joint_loop {nx a b e d:Int}:jointNext_L0 6 6 nx 0 0 a b e d 0=I (jend nx [a,b,e,d]):=by
 show jointNext_L0 6 6 nx ((0:Nat):Int) ((0:Nat):Int) a b e d ((0:Nat):Int)=_
 rw[joint_step 0 0 (by omega) (by omega) 0 (by omega)]
 simp only[jend,someP,allP]
 cases h0:ptg [a,b,e,d] 0<;>cases g0:onn [a,b,e,d] 0<;>simp only[Bool.and_true,Bool.and_false,Bool.true_and,Bool.false_and,cond_true,cond_false]<;>rw[joint_step _ _ (by omega) (by omega) 1 (by omega)]<;>
 cases h1:ptg [a,b,e,d] 1<;>cases g1:onn [a,b,e,d] 1<;>simp only[Bool.and_true,Bool.and_false,Bool.true_and,Bool.false_and,cond_true,cond_false]<;>rw[joint_step _ _ (by omega) (by omega) 2 (by omega)]<;>
 cases h2:ptg [a,b,e,d] 2<;>cases g2:onn [a,b,e,d] 2<;>simp only[Bool.and_true,Bool.and_false,Bool.true_and,Bool.false_and,cond_true,cond_false]<;>rw[joint_step _ _ (by omega) (by omega) 3 (by omega)]<;>
 cases h3:ptg [a,b,e,d] 3<;>cases g3:onn [a,b,e,d] 3<;>simp only[Bool.and_true,Bool.and_false,Bool.true_and,Bool.false_and,cond_true,cond_false]<;>rw[joint_end]<;>rfl
theorem jointNext_ret (z:Int×Int×Int×Int×Int×Bool) (_:true=true):Ret jointNext_re jointNext_R (jointNext_run (jointNextFu z) z) (jointNextM z):=by
 obtain ⟨c,a,b,e,d,x⟩:=z
 refine Ret.of (r':=I (jointNextM (c,a,b,e,d,x))) ((jointNext_arg ..).trans ((jointNext_eq ..).trans ?_)) (Ret.int _ _)
 simp only[jointNextFu]
 rw[joint_loop,joint_loop]
 simp only[jointNextM,jnx]
 cases (hitsM (a,b,e,d)).2<;>cases x<;>cases (cAcrossM (a,b,e,d)).1<;>cases (cAcrossM (a,b,e,d)).2.1<;>cases (cAcrossM (a,b,e,d)).2.2<;>cases decide (c≥25)<;>cases decide (c<29)<;>rfl
noncomputable def tbSDL_1:=addC 107 (tspec struck_sh struck_K struck_re struck_R struckOk struckM) tbSD
theorem tabSDL_1:Tab Tryz.prog tbSDL_1 cxMd tbKSD:=Tab.addTy (os:=[]) tabSD tabSD (KK:=struck_K) (R:=struck_R) (fn:=Tryz.f107) (by kernel_rfl) (by kernel_rfl) (by kernel_rfl) (by kernel_rfl) _ struckFu struck_ret
noncomputable def tbSDL_2:=addC 109 (tspec fed_sh fed_K fed_re fed_R fedOk fedM) tbSDL_1
theorem tabSDL_2:Tab Tryz.prog tbSDL_2 cxMd tbKSD:=Tab.addTy (os:=[]) tabSDL_1 tabSD (KK:=fed_K) (R:=fed_R) (fn:=Tryz.f109) (by kernel_rfl) (by kernel_rfl) (by kernel_rfl) (by kernel_rfl) _ fedFu fed_ret
noncomputable def tbSDL_3:=addC 140 (tspec rAcross_sh rAcross_K rAcross_re rAcross_R rAcrossOk rAcrossM) tbSDL_2
theorem tabSDL_3:Tab Tryz.prog tbSDL_3 cxMd tbKSD:=Tab.addTy (os:=[]) tabSDL_2 tabSD (KK:=rAcross_K) (R:=rAcross_R) (fn:=Tryz.f140) (by kernel_rfl) (by kernel_rfl) (by kernel_rfl) (by kernel_rfl) _ rAcrossFu rAcross_ret
noncomputable def tbSDL_4:=addC 116 (tspec wireNext_sh wireNext_K wireNext_re wireNext_R (fun _=>true) wireNextM) tbSDL_3
theorem tabSDL_4:Tab Tryz.prog tbSDL_4 cxMd tbKSD:=Tab.addTy (os:=[]) tabSDL_3 tabSD (KK:=wireNext_K) (R:=wireNext_R) (fn:=Tryz.f116) (by kernel_rfl) (by kernel_rfl) (by kernel_rfl) (by kernel_rfl) _ wireNextFu wireNext_ret
noncomputable def tbSDL_5:=addC 117 (tspec jointNext_sh jointNext_K jointNext_re jointNext_R (fun _=>true) jointNextM) tbSDL_4
theorem tabSDL_5:Tab Tryz.prog tbSDL_5 cxMd tbKSD:=Tab.addTy (os:=[]) tabSDL_4 tabSD (KK:=jointNext_K) (R:=jointNext_R) (fn:=Tryz.f117) (by kernel_rfl) (by kernel_rfl) (by kernel_rfl) (by kernel_rfl) _ jointNextFu jointNext_ret
noncomputable def tbSDB:=tbSDL_5
noncomputable def tbKSDB:KT:=tbKSD
theorem tabSDB:Tab Tryz.prog tbSDB cxMd tbKSDB:=tabSDL_5
end Go.Proofs.YtiglikocfjhkcaaGreatDoor
