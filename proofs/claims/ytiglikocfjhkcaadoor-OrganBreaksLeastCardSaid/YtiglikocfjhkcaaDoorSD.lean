/- Wires and joints: what they become. -/
import Derived.Test.YtiglikocfjhkcaaDoorSC
import Derived.Test.YtiglikocfjhkcaaDoorProg
import Derived.KernelRfl
set_option linter.all false
set_option linter.unusedVariables false
set_option linter.unusedSimpArgs false
open Go Go.Abs Go.Proofs
namespace Go.Proofs.YtiglikocfjhkcaaDoor
noncomputable def tbSD:=tbSCB
noncomputable def tbKSD:KT:=tbKSCB
theorem tabSD:Tab Tryd.prog tbSD cxMd tbKSD:=tabSCB
noncomputable def cx_wireNext (F:Nat):Cx:={P:=Tryd.prog,C:=tbSD,K:=tbKSD,mode:=cxMd,fuel:=F,live:=liveTab [(9,[37,36,6,10,5])],pin:=0,nx:=true}
noncomputable def cx_jointNext (F:Nat):Cx:={P:=Tryd.prog,C:=tbSD,K:=tbKSD,mode:=cxMd,fuel:=F,live:=liveTab [(19,[13,14,54,12,53])],pin:=0,nx:=true}
def wireNext_K:CK:=CK.pair KI (CK.pair KI (CK.pair KI (CK.pair KI KI)))
def wireNext_sh:List (Option Nat):=[none,some 4]
def wireNext_R:CK:=CK.int .i64
def wireNext_re:List (Option Nat):=[none]
noncomputable def wireNext_L0r (F n:Nat) (s5 s6 s10 s36_0 s36_1 s36_2 s36_3 s37:Int):Res:=Lp (cx_wireNext F) (loopBy (loopsOf (cx_wireNext F) (bodyOf Tryd.f71) (endK (cx_wireNext F) Tryd.f71)) 9) n {T:=fr 73 [(5,AV.int .i64 s5),(6,AV.int .i64 s6),(10,AV.int .i64 s10),(36,AV.agg [AV.int .i64 s36_0,AV.int .i64 s36_1,AV.int .i64 s36_2,AV.int .i64 s36_3]),(37,AV.int .i64 s37)],H:=[],ok:=true}
noncomputable def wireNext_L0:=Classical.choose (hideE wireNext_L0r)
theorem wireNext_L0_def:wireNext_L0=wireNext_L0r:=Classical.choose_spec (hideE wireNext_L0r)
theorem wireNext_L0_succ (F n:Nat) (s5 s6 s10 s36_0 s36_1 s36_2 s36_3 s37:Int):wireNext_L0 F (n+1) s5 s6 s10 s36_0 s36_1 s36_2 s36_3 s37=bif decide (s37<4) then bif decide (0≤s37)&&decide (s37<4) then bif decide (s37=s6) then wireNext_L0 F n s5 s6 s10 s36_0 s36_1 s36_2 s36_3 (IntKind.wrap .i64 (s37+1)) else bif decide (s5=2) then bif (hitByM (nth 0 [s36_0,s36_1,s36_2,s36_3] (Int.toNat s37),s37)).1 then {ok:=true,val:=AV.int .i64 (IntKind.wrap .i64 (s10+4))} else bif decide (s5=3) then bif (hitByM (nth 0 [s36_0,s36_1,s36_2,s36_3] (Int.toNat s37),s37)).2 then {ok:=true,val:=AV.int .i64 (IntKind.wrap .i64 (s10+4))} else bif litM (nth 0 [s36_0,s36_1,s36_2,s36_3] (Int.toNat s37),s37,decide (s5=2)) then {ok:=true,val:=AV.int .i64 (IntKind.wrap .i64 (s10+4))} else wireNext_L0 F n s5 s6 s10 s36_0 s36_1 s36_2 s36_3 (IntKind.wrap .i64 (s37+1)) else bif litM (nth 0 [s36_0,s36_1,s36_2,s36_3] (Int.toNat s37),s37,decide (s5=2)) then {ok:=true,val:=AV.int .i64 (IntKind.wrap .i64 (s10+4))} else wireNext_L0 F n s5 s6 s10 s36_0 s36_1 s36_2 s36_3 (IntKind.wrap .i64 (s37+1)) else bif decide (s5=3) then bif (hitByM (nth 0 [s36_0,s36_1,s36_2,s36_3] (Int.toNat s37),s37)).2 then {ok:=true,val:=AV.int .i64 (IntKind.wrap .i64 (s10+4))} else bif litM (nth 0 [s36_0,s36_1,s36_2,s36_3] (Int.toNat s37),s37,decide (s5=2)) then {ok:=true,val:=AV.int .i64 (IntKind.wrap .i64 (s10+4))} else wireNext_L0 F n s5 s6 s10 s36_0 s36_1 s36_2 s36_3 (IntKind.wrap .i64 (s37+1)) else bif litM (nth 0 [s36_0,s36_1,s36_2,s36_3] (Int.toNat s37),s37,decide (s5=2)) then {ok:=true,val:=AV.int .i64 (IntKind.wrap .i64 (s10+4))} else wireNext_L0 F n s5 s6 s10 s36_0 s36_1 s36_2 s36_3 (IntKind.wrap .i64 (s37+1)) else BR else {ok:=true,val:=AV.int .i64 s10}:=by rewrite [wireNext_L0_def];kernel_rfl
theorem wireNext_eq (F:Nat) (a0 a1_0 a1_1 a1_2 a1_3:Int):runF (cx_wireNext F) Tryd.f71 [AV.int .i64 a0,AV.agg [AV.int .i64 a1_0,AV.int .i64 a1_1,AV.int .i64 a1_2,AV.int .i64 a1_3]] []=bif decide ((sortOfM a0).1=3) then bif (hitsM (a1_0,a1_1,a1_2,a1_3)).1 then {ok:=true,val:=AV.int .i64 0} else wireNext_L0 F F (sortOfM a0).1 (sortOfM a0).2.1 (IntKind.wrap .i64 (17+(sortOfM a0).2.1)) a1_0 a1_1 a1_2 a1_3 0 else bif (hitsM (a1_0,a1_1,a1_2,a1_3)).2 then {ok:=true,val:=AV.int .i64 0} else wireNext_L0 F F (sortOfM a0).1 (sortOfM a0).2.1 (IntKind.wrap .i64 (9+(sortOfM a0).2.1)) a1_0 a1_1 a1_2 a1_3 0:=by rewrite [wireNext_L0_def];kernel_rfl
noncomputable def wireNext_run (F:Nat) (x:CT wireNext_K):Res:=runF (cx_wireNext F) Tryd.f71 (groupA wireNext_sh (enc wireNext_K x)) []
theorem wireNext_arg (F:Nat) (a0 a1_0 a1_1 a1_2 a1_3:Int):wireNext_run F (a0,a1_0,a1_1,a1_2,a1_3)=runF (cx_wireNext F) Tryd.f71 [AV.int .i64 a0,AV.agg [AV.int .i64 a1_0,AV.int .i64 a1_1,AV.int .i64 a1_2,AV.int .i64 a1_3]] []:=by kernel_rfl
def jointNext_K:CK:=CK.pair KI (CK.pair KI MoK)
def jointNext_sh:List (Option Nat):=[none,some 4,none]
def jointNext_R:CK:=CK.int .i64
def jointNext_re:List (Option Nat):=[none]
noncomputable def jointNext_L0r (F n:Nat) (s12 s13 s14 s53_0 s53_1 s53_2 s53_3 s54:Int):Res:=Lp (cx_jointNext F) (loopBy (loopsOf (cx_jointNext F) (bodyOf Tryd.f72) (endK (cx_jointNext F) Tryd.f72)) 19) n {T:=fr 91 [(12,AV.int .i64 s12),(13,AV.int .i64 s13),(14,AV.int .i64 s14),(53,AV.agg [AV.int .i64 s53_0,AV.int .i64 s53_1,AV.int .i64 s53_2,AV.int .i64 s53_3]),(54,AV.int .i64 s54)],H:=[],ok:=true}
noncomputable def jointNext_L0:=Classical.choose (hideE jointNext_L0r)
theorem jointNext_L0_def:jointNext_L0=jointNext_L0r:=Classical.choose_spec (hideE jointNext_L0r)
theorem jointNext_L0_succ (F n:Nat) (s12 s13 s14 s53_0 s53_1 s53_2 s53_3 s54:Int):jointNext_L0 F (n+1) s12 s13 s14 s53_0 s53_1 s53_2 s53_3 s54=bif decide (s54<4) then bif decide (0≤s54)&&decide (s54<4) then bif decide ((sortOfM (nth 0 [s53_0,s53_1,s53_2,s53_3] (Int.toNat s54))).1=2) then bif decide ((sortOfM (nth 0 [s53_0,s53_1,s53_2,s53_3] (Int.toNat s54))).2.1=Int.tmod (IntKind.wrap .i64 (s54+2)) 4) then bif (sortOfM (nth 0 [s53_0,s53_1,s53_2,s53_3] (Int.toNat s54))).2.2 then jointNext_L0 F n s12 (IntKind.wrap .i64 (s13+1)) (IntKind.wrap .i64 (s14+1)) s53_0 s53_1 s53_2 s53_3 (IntKind.wrap .i64 (s54+1)) else jointNext_L0 F n s12 (IntKind.wrap .i64 (s13+1)) s14 s53_0 s53_1 s53_2 s53_3 (IntKind.wrap .i64 (s54+1)) else jointNext_L0 F n s12 s13 s14 s53_0 s53_1 s53_2 s53_3 (IntKind.wrap .i64 (s54+1)) else jointNext_L0 F n s12 s13 s14 s53_0 s53_1 s53_2 s53_3 (IntKind.wrap .i64 (s54+1)) else BR else bif decide (s13>0) then bif decide (s13=s14) then {ok:=true,val:=AV.int .i64 (IntKind.wrap .i64 (IntKind.wrap .i64 (25+IntKind.wrap .i64 (2*s12))+1))} else {ok:=true,val:=AV.int .i64 (IntKind.wrap .i64 (25+IntKind.wrap .i64 (2*s12)))} else {ok:=true,val:=AV.int .i64 (IntKind.wrap .i64 (25+IntKind.wrap .i64 (2*s12)))}:=by rewrite [jointNext_L0_def];kernel_rfl
theorem jointNext_eq (F:Nat) (a0 a1_0 a1_1 a1_2 a1_3:Int) (a2:Bool):runF (cx_jointNext F) Tryd.f72 [AV.int .i64 a0,AV.agg [AV.int .i64 a1_0,AV.int .i64 a1_1,AV.int .i64 a1_2,AV.int .i64 a1_3],AV.bool a2] []=bif (hitsM (a1_0,a1_1,a1_2,a1_3)).2 then {ok:=true,val:=AV.int .i64 0} else bif a2 then bif (cAcrossM (a1_0,a1_1,a1_2,a1_3)).1 then bif (cAcrossM (a1_0,a1_1,a1_2,a1_3)).2.1 then bif (cAcrossM (a1_0,a1_1,a1_2,a1_3)).2.2 then {ok:=true,val:=AV.int .i64 31} else bif (cAcrossM (a1_0,a1_1,a1_2,a1_3)).2.1 then {ok:=true,val:=AV.int .i64 29} else bif (cAcrossM (a1_0,a1_1,a1_2,a1_3)).2.2 then {ok:=true,val:=AV.int .i64 30} else {ok:=true,val:=AV.int .i64 25} else bif (cAcrossM (a1_0,a1_1,a1_2,a1_3)).2.1 then {ok:=true,val:=AV.int .i64 29} else bif (cAcrossM (a1_0,a1_1,a1_2,a1_3)).2.2 then {ok:=true,val:=AV.int .i64 30} else {ok:=true,val:=AV.int .i64 25} else bif decide (a0≥25) then bif decide (a0<29) then jointNext_L0 F F (Int.tmod (IntKind.wrap .i64 (a0-25)) 2) 0 0 a1_0 a1_1 a1_2 a1_3 0 else jointNext_L0 F F 0 0 0 a1_0 a1_1 a1_2 a1_3 0 else jointNext_L0 F F 0 0 0 a1_0 a1_1 a1_2 a1_3 0 else bif decide (a0≥25) then bif decide (a0<29) then jointNext_L0 F F (Int.tmod (IntKind.wrap .i64 (a0-25)) 2) 0 0 a1_0 a1_1 a1_2 a1_3 0 else jointNext_L0 F F 0 0 0 a1_0 a1_1 a1_2 a1_3 0 else jointNext_L0 F F 0 0 0 a1_0 a1_1 a1_2 a1_3 0:=by rewrite [jointNext_L0_def];kernel_rfl
noncomputable def jointNext_run (F:Nat) (x:CT jointNext_K):Res:=runF (cx_jointNext F) Tryd.f72 (groupA jointNext_sh (enc jointNext_K x)) []
theorem jointNext_arg (F:Nat) (a0 a1_0 a1_1 a1_2 a1_3:Int) (a2:Bool):jointNext_run F (a0,a1_0,a1_1,a1_2,a1_3,a2)=runF (cx_jointNext F) Tryd.f72 [AV.int .i64 a0,AV.agg [AV.int .i64 a1_0,AV.int .i64 a1_1,AV.int .i64 a1_2,AV.int .i64 a1_3],AV.bool a2] []:=by kernel_rfl
theorem cc {α:Type} (p q:Bool) (A C:α):(bif p then bif q then A else C else C)=bif (p&&q) then A else C:=by cases p<;>cases q<;>rfl
theorem raiseL {α:Type} (D o h p q l:Bool) (E R:α):
  (bif D then R else bif o then bif h then E else (bif p then bif q then E else (bif l then E else R) else (bif l then E else R)) else (bif p then bif q then E else (bif l then E else R) else (bif l then E else R)))=bif (!D&&(o&&h||(p&&q||l))) then E else R:=by
 cases D<;>cases o<;>cases h<;>cases p<;>cases q<;>cases l<;>rfl
theorem lt4 {i:Nat} (h:i<4):decide ((i:Int)<4)=true:=decide_eq_true (by omega)
theorem ge0 {i:Nat}:decide (0≤(i:Int))=true:=decide_eq_true (by omega)
def strk (l:List Int) (o:Bool) (but:Int) (i:Nat):Bool:=((i:Int) !=but)&&(pointsM (nth 0 l i,i)&&(rExcM (nth 0 l i)&&decide (rOrdM (nth 0 l i)=o)))
def struckM:List Int×Bool×Int→Bool:=fun (l,o,but)=>strk l o but 0||(strk l o but 1||(strk l o but 2||(strk l o but 3||false)))
def fedJ (l:List Int) (but:Int) (o:Bool) (i:Nat):Bool:= !decide ((i:Int)=but)&&(rJointM (nth 0 l i)&&decide (nth 0 l i≥27)||o&&(rCrossM (nth 0 l i)&&crossesM (nth 0 l i,i)))
def fedM:List Int×Int×Bool→Bool:=fun (l,but,o)=>fedJ l but o 0||(fedJ l but o 1||(fedJ l but o 2||(fedJ l but o 3||false)))
def acr (l:List Int) (i k:Nat):Bool:=rOrdM (nth 0 l i)&&(pointsM (nth 0 l i,i)&&(rOrdM (nth 0 l k)&& !pointsM (nth 0 l k,k)))
def rAcrossM:List Int×Int→Int:=fun (l,ax)=>bif decide (ax=0) then (bif acr l 0 2 then 0 else bif acr l 2 0 then 2 else-1) else (bif acr l 1 3 then 1 else bif acr l 3 1 then 3 else-1)
def l4 (a:I4):List Int:=[a.1,a.2.1,a.2.2.1,a.2.2.2]
def raise (so di:Int) (l:List Int) (i:Nat):Bool:= !decide ((i:Int)=di)&&(decide (so=2)&&(hitByM (nth 0 l i,i)).1||(decide (so=3)&&(hitByM (nth 0 l i,i)).2||litM (nth 0 l i,i,decide (so=2))))
def anyR (so di:Int) (l:List Int):Bool:=raise so di l 0||(raise so di l 1||(raise so di l 2||raise so di l 3))
def wchain (so di q:Int) (l:List Int):Int:=bif anyR so di l then IntKind.wrap .i64 (q+4) else q
def wireNextM:Int×I4→Int:=fun (c,a)=>
 bif decide ((sortOfM c).1=3) then (bif (hitsM a).1 then 0 else wchain (sortOfM c).1 (sortOfM c).2.1 (IntKind.wrap .i64 (17+(sortOfM c).2.1)) (l4 a))
 else (bif (hitsM a).2 then 0 else wchain (sortOfM c).1 (sortOfM c).2.1 (IntKind.wrap .i64 (9+(sortOfM c).2.1)) (l4 a))
def wireNextFu:Int×I4→Nat:=fun _=>6
abbrev I (n:Int):Res:={ok:=true,val:=AV.int .i64 n}
theorem wire_step {F n:Nat} {so di q a b e d:Int} (i:Nat) (hi:i<4):wireNext_L0 F (n+1) so di q a b e d (i:Int)=bif raise so di [a,b,e,d] i then I (IntKind.wrap .i64 (q+4)) else wireNext_L0 F n so di q a b e d ((i+1:Nat):Int):=by
 rw[wireNext_L0_succ,lt4 hi,ge0,wrap_succ (by omega),Int.toNat_natCast]
 simp only[cond_true,Bool.and_self]
 exact raiseL ..
theorem wire_end {F n:Nat} {so di q a b e d:Int}:wireNext_L0 F (n+1) so di q a b e d ((4:Nat):Int)=I q:=by
 rw[wireNext_L0_succ];rfl
theorem wire_loop {so di q a b e d:Int}:wireNext_L0 6 6 so di q a b e d 0=I (wchain so di q [a,b,e,d]):=by
 show wireNext_L0 6 6 so di q a b e d ((0:Nat):Int)=_
 rw[wire_step 0 (by omega),wire_step 1 (by omega),wire_step 2 (by omega),wire_step 3 (by omega),wire_end]
 simp only[wchain,anyR]
 cases raise so di [a,b,e,d] 0<;>cases raise so di [a,b,e,d] 1<;>cases raise so di [a,b,e,d] 2<;>cases raise so di [a,b,e,d] 3<;>rfl
theorem wireNext_ret (z:Int×I4) (_:true=true):Ret wireNext_re wireNext_R (wireNext_run (wireNextFu z) z) (wireNextM z):=by
 obtain ⟨c,a,b,e,d⟩:=z
 refine Ret.of (r':=I (wireNextM (c,a,b,e,d))) ((wireNext_arg ..).trans ((wireNext_eq ..).trans ?_)) (Ret.int _ _)
 show (bif _ then bif _ then _ else wireNext_L0 6 6 _ _ _ _ _ _ _ 0 else bif _ then _ else wireNext_L0 6 6 _ _ _ _ _ _ _ 0)=_
 rw[wire_loop,wire_loop]
 simp only[wireNextM,l4]
 cases decide ((sortOfM c).1=3)<;>cases (hitsM (a,b,e,d)).1<;>cases (hitsM (a,b,e,d)).2<;>rfl
def ptg (l:List Int) (i:Nat):Bool:=decide ((sortOfM (nth 0 l i)).1=2)&&decide ((sortOfM (nth 0 l i)).2.1=Int.tmod (IntKind.wrap .i64 ((i:Int)+2)) 4)
def onn (l:List Int) (i:Nat):Bool:=(sortOfM (nth 0 l i)).2.2
def someP (l:List Int):Bool:=ptg l 0||(ptg l 1||(ptg l 2||ptg l 3))
def allP (l:List Int):Bool:=(!ptg l 0||onn l 0)&&((!ptg l 1||onn l 1)&&((!ptg l 2||onn l 2)&&(!ptg l 3||onn l 3)))
def jbase (nx:Int):Int:=IntKind.wrap .i64 (25+IntKind.wrap .i64 (2*nx))
def jend (nx:Int) (l:List Int):Int:=bif someP l&&allP l then IntKind.wrap .i64 (jbase nx+1) else jbase nx
def jnx (c:Int):Int:=bif decide (c≥25)&&decide (c<29) then Int.tmod (IntKind.wrap .i64 (c-25)) 2 else 0
def jointNextM:Int×Int×Int×Int×Int×Bool→Int:=fun (c,a,b,e,d,x)=>
 bif (hitsM (a,b,e,d)).2 then 0 else bif x&&(cAcrossM (a,b,e,d)).1 then (bif (cAcrossM (a,b,e,d)).2.1 then (bif (cAcrossM (a,b,e,d)).2.2 then 31 else 29) else (bif (cAcrossM (a,b,e,d)).2.2 then 30 else 25)) else jend (jnx c) [a,b,e,d]
def jointNextFu:Int×Int×Int×Int×Int×Bool→Nat:=fun _=>6
theorem joint_step {F n:Nat} {nx a b e d:Int} (u v:Nat) (hu:u≤4) (hv:v≤4) (i:Nat) (hi:i<4):jointNext_L0 F (n+1) nx (u:Int) (v:Int) a b e d (i:Int)=
  jointNext_L0 F n nx ((u+(bif ptg [a,b,e,d] i then 1 else 0):Nat):Int) ((v+(bif ptg [a,b,e,d] i&&onn [a,b,e,d] i then 1 else 0):Nat):Int) a b e d ((i+1:Nat):Int):=by
 rw[jointNext_L0_succ,lt4 hi,ge0,wrap_succ (by omega),wrap_succ (by omega),wrap_succ (by omega),Int.toNat_natCast]
 simp only[cond_true,Bool.and_self,cc]
 show (bif ptg [a,b,e,d] i then (bif onn [a,b,e,d] i then _ else _) else _)=_
 cases ptg [a,b,e,d] i<;>cases onn [a,b,e,d] i<;>rfl
theorem joint_end {F n:Nat} {nx a b e d:Int} (u v:Nat):jointNext_L0 F (n+1) nx (u:Int) (v:Int) a b e d ((4:Nat):Int)=I (bif decide (u>0)&&decide (u=v) then IntKind.wrap .i64 (jbase nx+1) else jbase nx):=by
 rw[jointNext_L0_succ]
 have e1:decide ((u:Int)>0)=decide (u>0):=by simp
 have e2:decide ((u:Int)=(v:Int))=decide (u=v):=by rw[decide_eq_decide];omega
 rw[e1,e2]
 cases decide (u>0)<;>cases decide (u=v)<;>rfl
theorem joint_loop {nx a b e d:Int}:jointNext_L0 6 6 nx 0 0 a b e d 0=I (jend nx [a,b,e,d]):=by
 show jointNext_L0 6 6 nx ((0:Nat):Int) ((0:Nat):Int) a b e d ((0:Nat):Int)=_
 rw[joint_step 0 0 (by omega) (by omega) 0 (by omega)]
 simp only[jend,someP,allP]
 cases h0:ptg [a,b,e,d] 0<;>cases g0:onn [a,b,e,d] 0<;>simp only[Bool.and_true,Bool.and_false,Bool.true_and,Bool.false_and,cond_true,cond_false]<;>rw[joint_step _ _ (by omega) (by omega) 1 (by omega)]<;>
 cases h1:ptg [a,b,e,d] 1<;>cases g1:onn [a,b,e,d] 1<;>simp only[Bool.and_true,Bool.and_false,Bool.true_and,Bool.false_and,cond_true,cond_false]<;>rw[joint_step _ _ (by omega) (by omega) 2 (by omega)]<;>
 cases h2:ptg [a,b,e,d] 2<;>cases g2:onn [a,b,e,d] 2<;>simp only[Bool.and_true,Bool.and_false,Bool.true_and,Bool.false_and,cond_true,cond_false]<;>rw[joint_step _ _ (by omega) (by omega) 3 (by omega)]<;>
 cases h3:ptg [a,b,e,d] 3<;>cases g3:onn [a,b,e,d] 3<;>simp only[Bool.and_true,Bool.and_false,Bool.true_and,Bool.false_and,cond_true,cond_false]<;>rw[joint_end]<;>rfl
theorem jointNext_ret (z:Int×Int×Int×Int×Int×Bool) (_:true=true):Ret jointNext_re jointNext_R (jointNext_run (jointNextFu z) z) (jointNextM z):=by
 obtain ⟨c,a,b,e,d,x⟩:=z
 refine Ret.of (r':=I (jointNextM (c,a,b,e,d,x))) ((jointNext_arg ..).trans ((jointNext_eq ..).trans ?_)) (Ret.int _ _)
 simp only[jointNextFu]
 rw[joint_loop,joint_loop]
 simp only[jointNextM,jnx]
 cases (hitsM (a,b,e,d)).2<;>cases x<;>cases (cAcrossM (a,b,e,d)).1<;>cases (cAcrossM (a,b,e,d)).2.1<;>cases (cAcrossM (a,b,e,d)).2.2<;>cases decide (c≥25)<;>cases decide (c<29)<;>rfl
noncomputable def tbSDL_1:=addC 71 (tspec wireNext_sh wireNext_K wireNext_re wireNext_R (fun _=>true) wireNextM) tbSD
theorem tabSDL_1:Tab Tryd.prog tbSDL_1 cxMd tbKSD:=Tab.addTy (os:=[]) tabSD tabSD (KK:=wireNext_K) (R:=wireNext_R) (fn:=Tryd.f71) (by kernel_rfl) (by kernel_rfl) (by kernel_rfl) (by kernel_rfl) _ wireNextFu wireNext_ret
noncomputable def tbSDL_2:=addC 72 (tspec jointNext_sh jointNext_K jointNext_re jointNext_R (fun _=>true) jointNextM) tbSDL_1
theorem tabSDL_2:Tab Tryd.prog tbSDL_2 cxMd tbKSD:=Tab.addTy (os:=[]) tabSDL_1 tabSD (KK:=jointNext_K) (R:=jointNext_R) (fn:=Tryd.f72) (by kernel_rfl) (by kernel_rfl) (by kernel_rfl) (by kernel_rfl) _ jointNextFu jointNext_ret
noncomputable def tbSDB:=tbSDL_2
noncomputable def tbKSDB:KT:=tbKSD
theorem tabSDB:Tab Tryd.prog tbSDB cxMd tbKSDB:=tabSDL_2
end Go.Proofs.YtiglikocfjhkcaaDoor
