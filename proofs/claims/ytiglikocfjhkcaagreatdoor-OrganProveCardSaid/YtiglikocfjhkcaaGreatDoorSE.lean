/- Cells of the wires' spaces; rules. -/
import Derived.Test.YtiglikocfjhkcaaGreatDoorSD
import Derived.Test.YtiglikocfjhkcaaGreatDoorProg
import Derived.KernelRfl
set_option linter.all false
set_option linter.unusedVariables false
set_option linter.unusedSimpArgs false
open Go Go.Abs Go.Proofs
namespace Go.Proofs.YtiglikocfjhkcaaGreatDoor
noncomputable def tbSE:=tbSDB
noncomputable def tbKSE:KT:=tbKSDB
theorem tabSE:Tab Tryz.prog tbSE cxMd tbKSE:=tabSDB
noncomputable def cx_next29 (F:Nat):Cx:={P:=Tryz.prog,C:=tbSE,K:=tbKSE,mode:=cxMd,fuel:=F,live:=liveTab [],pin:=0,nx:=true}
noncomputable def cx_rGrown (F:Nat):Cx:={P:=Tryz.prog,C:=tbSE,K:=tbKSE,mode:=cxMd,fuel:=F,live:=liveTab [],pin:=0,nx:=true}
noncomputable def cx_joined (F:Nat):Cx:={P:=Tryz.prog,C:=tbSE,K:=tbKSE,mode:=cxMd,fuel:=F,live:=liveTab [(15,[10,11,12,0,1])],pin:=0,nx:=true}
noncomputable def cx_check (F:Nat):Cx:={P:=Tryz.prog,C:=tbSE,K:=tbKSE,mode:=cxMd,fuel:=F,live:=liveTab [(11,[22,21,1,20]),(14,[22,21,1,20,4,36,37])],pin:=0,nx:=true}
noncomputable def cx_rCheck (F:Nat):Cx:={P:=Tryz.prog,C:=tbSE,K:=tbKSE,mode:=cxMd,fuel:=F,live:=liveTab [(8,[1,3])],pin:=0,nx:=true}
def next29_K:CK:=CK.pair KI (CK.pair KI MoK)
def next29_sh:List (Option Nat):=[none,some 4,none]
def next29_R:CK:=CK.int .i64
def next29_re:List (Option Nat):=[none]
theorem next29_eq (F:Nat) (a0 a1_0 a1_1 a1_2 a1_3:Int) (a2:Bool):runF (cx_next29 F) Tryz.f89 [AV.int .i64 a0,AV.agg [AV.int .i64 a1_0,AV.int .i64 a1_1,AV.int .i64 a1_2,AV.int .i64 a1_3],AV.bool a2] []=bif decide ((sortOfM a0).1=0) then bif (hitsM (a1_0,a1_1,a1_2,a1_3)).1 then {ok:=true,val:=AV.int .i64 1} else bif (hitsM (a1_0,a1_1,a1_2,a1_3)).2 then {ok:=true,val:=AV.int .i64 1} else {ok:=true,val:=AV.int .i64 0} else bif decide ((sortOfM a0).1=1) then bif (hitsM (a1_0,a1_1,a1_2,a1_3)).1 then bif growOk (a0,true) then {ok:=true,val:=AV.int .i64 (growM (a0,true))} else BR else bif growOk (a0,(hitsM (a1_0,a1_1,a1_2,a1_3)).2) then {ok:=true,val:=AV.int .i64 (growM (a0,(hitsM (a1_0,a1_1,a1_2,a1_3)).2))} else BR else bif decide ((sortOfM a0).1=2) then bif decide ((sortOfM a0).1=2) then {ok:=true,val:=AV.int .i64 (wireNextM (a0,a1_0,a1_1,a1_2,a1_3))} else {ok:=true,val:=AV.int .i64 (jointNextM (a0,a1_0,a1_1,a1_2,a1_3,a2))} else bif decide ((sortOfM a0).1=3) then {ok:=true,val:=AV.int .i64 (wireNextM (a0,a1_0,a1_1,a1_2,a1_3))} else {ok:=true,val:=AV.int .i64 (jointNextM (a0,a1_0,a1_1,a1_2,a1_3,a2))}:=by kernel_rfl
noncomputable def next29_run (F:Nat) (x:CT next29_K):Res:=runF (cx_next29 F) Tryz.f89 (groupA next29_sh (enc next29_K x)) []
theorem next29_arg (F:Nat) (a0 a1_0 a1_1 a1_2 a1_3:Int) (a2:Bool):next29_run F (a0,a1_0,a1_1,a1_2,a1_3,a2)=runF (cx_next29 F) Tryz.f89 [AV.int .i64 a0,AV.agg [AV.int .i64 a1_0,AV.int .i64 a1_1,AV.int .i64 a1_2,AV.int .i64 a1_3],AV.bool a2] []:=by kernel_rfl
def rGrown_K:CK:=CK.pair KI CK.bool
def rGrown_sh:List (Option Nat):=[none,none]
def rGrown_R:CK:=CK.int .i64
def rGrown_re:List (Option Nat):=[none]
theorem rGrown_eq (F:Nat) (a0:Int) (a1:Bool):runF (cx_rGrown F) Tryz.f108 [AV.int .i64 a0,AV.bool a1] []=bif a1 then bif decide (0≤a0)&&decide (a0<9) then bif decide (Int.toNat a0<9) then {ok:=true,val:=AV.int .i64 (nth 0 [0,3,5,7,11,17,19,25,10] (Int.toNat a0))} else BR else BR else bif decide (0≤a0)&&decide (a0<9) then bif decide (Int.toNat a0<9) then {ok:=true,val:=AV.int .i64 (nth 0 [0,2,4,6,8,12,18,20,9] (Int.toNat a0))} else BR else BR:=by kernel_rfl
noncomputable def rGrown_run (F:Nat) (x:CT rGrown_K):Res:=runF (cx_rGrown F) Tryz.f108 (groupA rGrown_sh (enc rGrown_K x)) []
theorem rGrown_arg (F:Nat) (a0:Int) (a1:Bool):rGrown_run F (a0,a1)=runF (cx_rGrown F) Tryz.f108 [AV.int .i64 a0,AV.bool a1] []:=by kernel_rfl
def joined_K:CK:=CK.pair KI (CK.pair KL CK.bool)
def joined_sh:List (Option Nat):=[none,none,none]
def joined_R:CK:=CK.int .i64
def joined_re:List (Option Nat):=[none]
noncomputable def joined_L0r (F n:Nat) (s0:Int) (s1:List Int) (s10 s11:Bool) (s12:Int):Res:=Lp (cx_joined F) (loopBy (loopsOf (cx_joined F) (bodyOf Tryz.f110) (endK (cx_joined F) Tryz.f110)) 15) n {T:=fr 87 [(0,AV.int .i64 s0),(1,AV.ro KI s1),(10,AV.bool s10),(11,AV.bool s11),(12,AV.int .i64 s12)],H:=[],ok:=true}
noncomputable def joined_L0:=Classical.choose (hideE joined_L0r)
theorem joined_L0_def:joined_L0=joined_L0r:=Classical.choose_spec (hideE joined_L0r)
theorem joined_L0_succ (F n:Nat) (s0:Int) (s1:List Int) (s10 s11:Bool) (s12:Int):joined_L0 F (n+1) s0 s1 s10 s11 s12=bif decide (s12<4) then bif decide (0≤s12)&&decide (s12<(s1.length:Int)) then bif rOrdM (nth 0 s1 (Int.toNat s12)) then bif decide (0≤s12)&&decide (s12<(s1.length:Int)) then bif pointsM (nth 0 s1 (Int.toNat s12),s12) then bif s11 then bif decide (0≤s12)&&decide (s12<(s1.length:Int)) then joined_L0 F n s0 s1 true (rExcM (nth 0 s1 (Int.toNat s12))) (IntKind.wrap .i64 (s12+1)) else BR else joined_L0 F n s0 s1 true false (IntKind.wrap .i64 (s12+1)) else joined_L0 F n s0 s1 s10 s11 (IntKind.wrap .i64 (s12+1)) else BR else joined_L0 F n s0 s1 s10 s11 (IntKind.wrap .i64 (s12+1)) else BR else bif s10 then bif s11 then bif rCrossM s0 then {ok:=true,val:=AV.int .i64 26} else {ok:=true,val:=AV.int .i64 (IntKind.wrap .i64 (IntKind.wrap .i64 (25+IntKind.wrap .i64 (Int.tmod (IntKind.wrap .i64 (s0-25)) 2*2))+1))} else bif rCrossM s0 then {ok:=true,val:=AV.int .i64 25} else {ok:=true,val:=AV.int .i64 (IntKind.wrap .i64 (IntKind.wrap .i64 (25+IntKind.wrap .i64 (Int.tmod (IntKind.wrap .i64 (s0-25)) 2*2))+0))} else bif rCrossM s0 then {ok:=true,val:=AV.int .i64 25} else {ok:=true,val:=AV.int .i64 (IntKind.wrap .i64 (IntKind.wrap .i64 (25+IntKind.wrap .i64 (Int.tmod (IntKind.wrap .i64 (s0-25)) 2*2))+0))}:=by rewrite [joined_L0_def];kernel_rfl
theorem joined_eq (F:Nat) (a0:Int) (a1:List Int) (a2:Bool):runF (cx_joined F) Tryz.f110 [AV.int .i64 a0,AV.ro KI a1,AV.bool a2] []=bif struckOk (a1,false, -1) then bif struckM (a1,false, -1) then {ok:=true,val:=AV.int .i64 0} else bif rAcrossOk (a1,0) then bif rAcrossOk (a1,1) then bif a2 then bif decide (rAcrossM (a1,0)≥0) then bif decide (rAcrossM (a1,1)≥0) then bif decide (0≤rAcrossM (a1,0))&&decide (rAcrossM (a1,0)<(a1.length:Int)) then bif rExcM (nth 0 a1 (Int.toNat (rAcrossM (a1,0)))) then bif decide (0≤rAcrossM (a1,1))&&decide (rAcrossM (a1,1)<(a1.length:Int)) then bif rExcM (nth 0 a1 (Int.toNat (rAcrossM (a1,1)))) then {ok:=true,val:=AV.int .i64 31} else {ok:=true,val:=AV.int .i64 29} else BR else bif decide (0≤rAcrossM (a1,1))&&decide (rAcrossM (a1,1)<(a1.length:Int)) then bif rExcM (nth 0 a1 (Int.toNat (rAcrossM (a1,1)))) then {ok:=true,val:=AV.int .i64 30} else {ok:=true,val:=AV.int .i64 25} else BR else BR else joined_L0 F F a0 a1 false true 0 else joined_L0 F F a0 a1 false true 0 else joined_L0 F F a0 a1 false true 0 else BR else BR else BR:=by rewrite [joined_L0_def];kernel_rfl
noncomputable def joined_run (F:Nat) (x:CT joined_K):Res:=runF (cx_joined F) Tryz.f110 (groupA joined_sh (enc joined_K x)) []
theorem joined_arg (F:Nat) (a0:Int) (a1:List Int) (a2:Bool):joined_run F (a0,a1,a2)=runF (cx_joined F) Tryz.f110 [AV.int .i64 a0,AV.ro KI a1,AV.bool a2] []:=by kernel_rfl
def check_K:CK:=CK.pair KI (CK.slice 134 (CK.pair KI (CK.pair KI (CK.pair KI (CK.pair KI (CK.pair KI KI))))))
def check_sh:List (Option Nat):=[some 2]
def check_R:CK:=CK.int .i64
def check_re:List (Option Nat):=[none]
noncomputable def check_L0r (F n:Nat) (s20:List (Int×Int×Int×Int×Int×Int)) (s21 s22 h0_0:Int) (h0_1:List (Int×Int×Int×Int×Int×Int)):Res:=Lp (cx_check F) (loopBy (loopsOf (cx_check F) (bodyOf Tryz.f72) (endK (cx_check F) Tryz.f72)) 11) n {T:=fr 61 [(1,AV.ptr 0 0),(20,AV.ro (CK.pair KI (CK.pair KI (CK.pair KI (CK.pair KI (CK.pair KI KI))))) s20),(21,AV.int .i64 s21),(22,AV.int .i64 s22)],H:=[Blk.cells [AV.int .i64 h0_0,AV.ro (CK.pair KI (CK.pair KI (CK.pair KI (CK.pair KI (CK.pair KI KI))))) h0_1]],ok:=true}
noncomputable def check_L0:=Classical.choose (hideE check_L0r)
theorem check_L0_def:check_L0=check_L0r:=Classical.choose_spec (hideE check_L0r)
theorem check_eq (F:Nat) (a0_0:Int) (a0_1:List (Int×Int×Int×Int×Int×Int)):runF (cx_check F) Tryz.f72 [AV.agg [AV.int .i64 a0_0,AV.ro (CK.pair KI (CK.pair KI (CK.pair KI (CK.pair KI (CK.pair KI KI))))) a0_1]] []=bif decide (a0_0=0) then bif decide (a0_0=0) then {ok:=true,val:=AV.int .i64 0} else bif decide (a0_0=3) then bif decide ((a0_1.length:Int)>4096) then {ok:=true,val:=AV.int .i64 10} else check_L0 F F a0_1 (a0_1.length:Int) 0 a0_0 a0_1 else {ok:=true,val:=AV.int .i64 10} else bif decide (a0_0=1) then bif decide (a0_0=1) then {ok:=true,val:=AV.int .i64 0} else bif decide (a0_0=3) then bif decide ((a0_1.length:Int)>4096) then {ok:=true,val:=AV.int .i64 10} else check_L0 F F a0_1 (a0_1.length:Int) 0 a0_0 a0_1 else {ok:=true,val:=AV.int .i64 10} else bif decide (a0_0=2) then {ok:=true,val:=AV.int .i64 0} else bif decide (a0_0=3) then bif decide ((a0_1.length:Int)>4096) then {ok:=true,val:=AV.int .i64 10} else check_L0 F F a0_1 (a0_1.length:Int) 0 a0_0 a0_1 else {ok:=true,val:=AV.int .i64 10}:=by rewrite [check_L0_def];kernel_rfl
noncomputable def check_run (F:Nat) (x:CT check_K):Res:=runF (cx_check F) Tryz.f72 (groupA check_sh (enc check_K x)) []
theorem check_arg (F:Nat) (a0_0:Int) (a0_1:List (Int×Int×Int×Int×Int×Int)):check_run F (a0_0,a0_1)=runF (cx_check F) Tryz.f72 [AV.agg [AV.int .i64 a0_0,AV.ro (CK.pair KI (CK.pair KI (CK.pair KI (CK.pair KI (CK.pair KI KI))))) a0_1]] []:=by kernel_rfl
def rCheck_K:CK:=CK.pair KI (CK.slice 134 (CK.pair KI (CK.pair KI (CK.pair KI (CK.pair KI (CK.pair KI KI))))))
def rCheck_sh:List (Option Nat):=[some 2]
def rCheck_R:CK:=CK.int .i64
def rCheck_re:List (Option Nat):=[none]
noncomputable def rCheck_L0r (F n:Nat) (s3 h0_0:Int) (h0_1:List (Int×Int×Int×Int×Int×Int)):Res:=Lp (cx_rCheck F) (loopBy (loopsOf (cx_rCheck F) (bodyOf Tryz.f94) (endK (cx_rCheck F) Tryz.f94)) 8) n {T:=fr 74 [(1,AV.ptr 0 0),(3,AV.int .i64 s3)],H:=[Blk.cells [AV.int .i64 h0_0,AV.ro (CK.pair KI (CK.pair KI (CK.pair KI (CK.pair KI (CK.pair KI KI))))) h0_1]],ok:=true}
noncomputable def rCheck_L0:=Classical.choose (hideE rCheck_L0r)
theorem rCheck_L0_def:rCheck_L0=rCheck_L0r:=Classical.choose_spec (hideE rCheck_L0r)
theorem rCheck_eq (F:Nat) (a0_0:Int) (a0_1:List (Int×Int×Int×Int×Int×Int)):runF (cx_rCheck F) Tryz.f94 [AV.agg [AV.int .i64 a0_0,AV.ro (CK.pair KI (CK.pair KI (CK.pair KI (CK.pair KI (CK.pair KI KI))))) a0_1]] []=bif decide (a0_0<0) then {ok:=true,val:=AV.int .i64 10} else bif decide (a0_0>3) then {ok:=true,val:=AV.int .i64 10} else bif a0_0 !=3 then {ok:=true,val:=AV.int .i64 0} else bif decide ((a0_1.length:Int)>4096) then {ok:=true,val:=AV.int .i64 10} else rCheck_L0 F F 0 a0_0 a0_1:=by rewrite [rCheck_L0_def];kernel_rfl
noncomputable def rCheck_run (F:Nat) (x:CT rCheck_K):Res:=runF (cx_rCheck F) Tryz.f94 (groupA rCheck_sh (enc rCheck_K x)) []
theorem rCheck_arg (F:Nat) (a0_0:Int) (a0_1:List (Int×Int×Int×Int×Int×Int)):rCheck_run F (a0_0,a0_1)=runF (cx_rCheck F) Tryz.f94 [AV.agg [AV.int .i64 a0_0,AV.ro (CK.pair KI (CK.pair KI (CK.pair KI (CK.pair KI (CK.pair KI KI))))) a0_1]] []:=by kernel_rfl
abbrev Six:=Int×Int×Int×Int×Int×Int
theorem sort_one {c:Int} (h:(sortOfM c).1=1):1≤c∧c≤8:=by
 unfold sortOfM at h
 repeat' split at h
 all_goals first|omega|(simp at h;done)
def next29M:Int×Int×Int×Int×Int×Bool→Int:=fun (c,a,b,e,d,x)=>
 bif decide ((sortOfM c).1=0) then (bif (hitsM (a,b,e,d)).1||(hitsM (a,b,e,d)).2 then 1 else 0) else bif decide ((sortOfM c).1=1) then growM (c,(hitsM (a,b,e,d)).1||(hitsM (a,b,e,d)).2)
 else bif decide ((sortOfM c).1=2)||decide ((sortOfM c).1=3) then wireNextM (c,a,b,e,d) else jointNextM (c,a,b,e,d,x)
def next29Fu:Int×Int×Int×Int×Int×Bool→Nat:=fun _=>1
theorem next29_ret (z:Int×Int×Int×Int×Int×Bool) (_:true=true):Ret next29_re next29_R (next29_run (next29Fu z) z) (next29M z):=by
 obtain ⟨c,a,b,e,d,x⟩:=z
 refine Ret.of (r':=I (next29M (c,a,b,e,d,x))) ((next29_arg ..).trans ((next29_eq ..).trans ?_)) (Ret.int _ _)
 simp only[next29M]
 cases decide ((sortOfM c).1=0) with
 |true=>cases (hitsM (a,b,e,d)).1<;>cases (hitsM (a,b,e,d)).2<;>rfl
 | false=>
  cases h1:decide ((sortOfM c).1=1) with
  |true=>
   have hc:=sort_one (of_decide_eq_true h1)
   have g:∀o,growOk (c,o)=true:=fun o=>decide_eq_true hc
   simp only[g,cond_true,cond_false]
   cases (hitsM (a,b,e,d)).1<;>rfl
  |false=>cases decide ((sortOfM c).1=2)<;>cases decide ((sortOfM c).1=3)<;>rfl
def rGrownOk:Int×Bool→Bool:=fun (c,_)=>decide (0≤c∧c<9)
def rGrownM:Int×Bool→Int:=fun (c,o)=>bif o then nth 0 [0,3,5,7,11,17,19,25,10] c.toNat else nth 0 [0,2,4,6,8,12,18,20,9] c.toNat
def rGrownFu:Int×Bool→Nat:=fun _=>1
theorem rGrown_ret (z:Int×Bool) (h:rGrownOk z=true):Ret rGrown_re rGrown_R (rGrown_run (rGrownFu z) z) (rGrownM z):=by
 obtain ⟨c,o⟩:=z
 obtain ⟨h1,h2⟩:0≤c∧c<9:=of_decide_eq_true h
 refine Ret.of ((rGrown_arg ..).trans ((rGrown_eq ..).trans ?_)) (Ret.int _ _)
 rw[decide_eq_true h1,decide_eq_true h2,decide_eq_true (show c.toNat<9 by omega)]
 cases o<;>rfl
def rpt (l:List Int) (i:Nat):Bool:=rOrdM (nth 0 l i)&&pointsM (nth 0 l i,i)
def rsome (l:List Int):Bool:=rpt l 0||(rpt l 1||(rpt l 2||rpt l 3))
def rall (l:List Int):Bool:=(!rpt l 0||rExcM (nth 0 l 0))&&((!rpt l 1||rExcM (nth 0 l 1))&&((!rpt l 2||rExcM (nth 0 l 2))&&(!rpt l 3||rExcM (nth 0 l 3))))
def rjend (c:Int) (u:Bool):Int:=bif u then (bif rCrossM c then 26 else IntKind.wrap .i64 (IntKind.wrap .i64 (25+IntKind.wrap .i64 (Int.tmod (IntKind.wrap .i64 (c-25)) 2*2))+1))
 else (bif rCrossM c then 25 else IntKind.wrap .i64 (IntKind.wrap .i64 (25+IntKind.wrap .i64 (Int.tmod (IntKind.wrap .i64 (c-25)) 2*2))+0))
def joinedOk:Int×List Int×Bool→Bool:=fun (_,l,_)=>decide (l.length=4)
def joinedM:Int×List Int×Bool→Int:=fun (c,l,x)=>
 bif struckM (l,false, -1) then 0 else bif x&&(decide (rAcrossM (l,0)≥0)&&decide (rAcrossM (l,1)≥0)) then
  (bif rExcM (nth 0 l (rAcrossM (l,0)).toNat) then (bif rExcM (nth 0 l (rAcrossM (l,1)).toNat) then 31 else 29) else (bif rExcM (nth 0 l (rAcrossM (l,1)).toNat) then 30 else 25)) else rjend c (rsome l&&rall l)
def joinedFu:Int×List Int×Bool→Nat:=fun _=>6
theorem joined_step {F n:Nat} {c:Int} {l:List Int} {s a:Bool} (hl:l.length=4) (i:Nat) (hi:i<4):joined_L0 F (n+1) c l s a (i:Int)=joined_L0 F n c l (s||rpt l i) (a&&(!rpt l i||rExcM (nth 0 l i))) ((i+1:Nat):Int):=by
 rw[joined_L0_succ,hl,lt4 hi,in4 hi,wrap_succ (by omega),Int.toNat_natCast]
 simp only[cond_true,cc]
 show (bif rpt l i then _ else _)=_
 cases rpt l i<;>cases s<;>cases a<;>simp
theorem joined_end {F n:Nat} {c:Int} {l:List Int} {s a:Bool}:joined_L0 F (n+1) c l s a ((4:Nat):Int)=I (rjend c (s&&a)):=by
 rw[joined_L0_succ,show decide (((4:Nat):Int)<4)=false from rfl]
 simp only[cond_false,rjend]
 cases s<;>cases a<;>cases rCrossM c<;>rfl
theorem joined_loop {c:Int} {l:List Int} (hl:l.length=4):joined_L0 6 6 c l false true 0=I (rjend c (rsome l&&rall l)):=by
 show joined_L0 6 6 c l false true ((0:Nat):Int)=_
 rw[joined_step hl 0 (by omega),joined_step hl 1 (by omega),joined_step hl 2 (by omega),joined_step hl 3 (by omega),joined_end]
 simp only[rsome,rall,Bool.false_or,Bool.true_and,Bool.or_assoc,Bool.and_assoc]
theorem across_lt {l:List Int} {ax:Int}:rAcrossM (l,ax)<4:=by
 simp only[rAcrossM]
 cases decide (ax=0)<;>cases acr l 0 2<;>cases acr l 2 0<;>cases acr l 1 3<;>cases acr l 3 1<;>decide
theorem joined_ret (z:Int×List Int×Bool) (h:joinedOk z=true):Ret joined_re joined_R (joined_run (joinedFu z) z) (joinedM z):=by
 obtain ⟨c,l,x⟩:=z
 have hl:l.length=4:=of_decide_eq_true h
 refine Ret.of (r':=I (joinedM (c,l,x))) ((joined_arg ..).trans ((joined_eq ..).trans ?_)) (Ret.int _ _)
 have o1:struckOk (l,false, -1)=true:=decide_eq_true hl
 have o2:rAcrossOk (l,0)=true:=decide_eq_true ⟨hl, .inl rfl⟩
 have o3:rAcrossOk (l,1)=true:=decide_eq_true ⟨hl, .inr rfl⟩
 simp only[joinedFu]
 rw[o1,o2,o3,joined_loop hl,hl]
 simp only[cond_true,joinedM]
 cases struckM (l,false, -1) with
 |true=>rfl
 | false=>
  cases x with
  |false=>rfl
  | true=>
   by_cases h1:rAcrossM (l,0)≥0
   ·by_cases h2:rAcrossM (l,1)≥0
    ·have a1:=across_lt (l:=l) (ax:=0)
     have a2:=across_lt (l:=l) (ax:=1)
     rw[decide_eq_true h1,decide_eq_true h2,decide_eq_true (show rAcrossM (l,0)<((4:Nat):Int) from a1),decide_eq_true (show rAcrossM (l,1)<((4:Nat):Int) from a2)]
     simp only[Bool.and_self,cond_true,cond_false]
     cases rExcM (nth 0 l (rAcrossM (l,0)).toNat)<;>cases rExcM (nth 0 l (rAcrossM (l,1)).toNat)<;>rfl
    ·rw[decide_eq_true h1,decide_eq_false h2];rfl
   ·rw[decide_eq_false h1];rfl
def checkOk:Int×List Six→Bool:=fun (k,_)=>decide (k=0∨k=1)
def checkM:Int×List Six→Int:=fun _=>0
def checkFu:Int×List Six→Nat:=fun _=>1
theorem check_ret (z:Int×List Six) (h:checkOk z=true):Ret check_re check_R (check_run (checkFu z) z) (checkM z):=by
 obtain ⟨k,cs⟩:=z
 simp only[checkOk,decide_eq_true_eq] at h
 refine Ret.of ((check_arg ..).trans ((check_eq ..).trans ?_)) (Ret.int _ _)
 rcases h with rfl|rfl<;>simp[checkM]
def rCheckOk:Int×List Six→Bool:=fun (k,_)=>decide (k=0∨k=1)
def rCheckM:Int×List Six→Int:=fun _=>0
def rCheckFu:Int×List Six→Nat:=fun _=>1
theorem rCheck_ret (z:Int×List Six) (h:rCheckOk z=true):Ret rCheck_re rCheck_R (rCheck_run (rCheckFu z) z) (rCheckM z):=by
 obtain ⟨k,cs⟩:=z
 simp only[rCheckOk,decide_eq_true_eq] at h
 refine Ret.of ((rCheck_arg ..).trans ((rCheck_eq ..).trans ?_)) (Ret.int _ _)
 rcases h with rfl|rfl<;>simp[rCheckM]
noncomputable def tbSEL_1:=addC 89 (tspec next29_sh next29_K next29_re next29_R (fun _=>true) next29M) tbSE
theorem tabSEL_1:Tab Tryz.prog tbSEL_1 cxMd tbKSE:=Tab.addTy (os:=[]) tabSE tabSE (KK:=next29_K) (R:=next29_R) (fn:=Tryz.f89) (by kernel_rfl) (by kernel_rfl) (by kernel_rfl) (by kernel_rfl) _ next29Fu next29_ret
noncomputable def tbSEL_2:=addC 108 (tspec rGrown_sh rGrown_K rGrown_re rGrown_R rGrownOk rGrownM) tbSEL_1
theorem tabSEL_2:Tab Tryz.prog tbSEL_2 cxMd tbKSE:=Tab.addTy (os:=[]) tabSEL_1 tabSE (KK:=rGrown_K) (R:=rGrown_R) (fn:=Tryz.f108) (by kernel_rfl) (by kernel_rfl) (by kernel_rfl) (by kernel_rfl) _ rGrownFu rGrown_ret
noncomputable def tbSEL_3:=addC 110 (tspec joined_sh joined_K joined_re joined_R joinedOk joinedM) tbSEL_2
theorem tabSEL_3:Tab Tryz.prog tbSEL_3 cxMd tbKSE:=Tab.addTy (os:=[]) tabSEL_2 tabSE (KK:=joined_K) (R:=joined_R) (fn:=Tryz.f110) (by kernel_rfl) (by kernel_rfl) (by kernel_rfl) (by kernel_rfl) _ joinedFu joined_ret
noncomputable def tbSEL_4:=addC 72 (tspec check_sh check_K check_re check_R checkOk checkM) tbSEL_3
theorem tabSEL_4:Tab Tryz.prog tbSEL_4 cxMd tbKSE:=Tab.addTy (os:=[]) tabSEL_3 tabSE (KK:=check_K) (R:=check_R) (fn:=Tryz.f72) (by kernel_rfl) (by kernel_rfl) (by kernel_rfl) (by kernel_rfl) _ checkFu check_ret
noncomputable def tbSEL_5:=addC 94 (tspec rCheck_sh rCheck_K rCheck_re rCheck_R rCheckOk rCheckM) tbSEL_4
theorem tabSEL_5:Tab Tryz.prog tbSEL_5 cxMd tbKSE:=Tab.addTy (os:=[]) tabSEL_4 tabSE (KK:=rCheck_K) (R:=rCheck_R) (fn:=Tryz.f94) (by kernel_rfl) (by kernel_rfl) (by kernel_rfl) (by kernel_rfl) _ rCheckFu rCheck_ret
noncomputable def tbSEB:=tbSEL_5
noncomputable def tbKSEB:KT:=tbKSE
theorem tabSEB:Tab Tryz.prog tbSEB cxMd tbKSEB:=tabSEL_5
end Go.Proofs.YtiglikocfjhkcaaGreatDoor
