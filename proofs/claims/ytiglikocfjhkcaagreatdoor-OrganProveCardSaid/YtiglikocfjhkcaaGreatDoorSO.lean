/- The document's cells, leaks and out word of an organ. -/
import Derived.Test.YtiglikocfjhkcaaGreatDoorSN
import Derived.Test.YtiglikocfjhkcaaGreatDoorProg
import Derived.KernelRfl
set_option linter.all false
set_option linter.unusedVariables false
set_option linter.unusedSimpArgs false
open Go Go.Abs Go.Proofs
namespace Go.Proofs.YtiglikocfjhkcaaGreatDoor
noncomputable def tbSO_1:=addC 79 (inl Tryz.prog tbSNB cxMd tbKSNB Tryz.f79) tbSNB
noncomputable def tbKSO_1:KT:=addK 79 (inlK Tryz.prog tbSNB cxMd tbKSNB Tryz.f79) tbKSNB
theorem tabSO_1:Tab Tryz.prog tbSO_1 cxMd tbKSO_1:=Tab.addInl tabSNB tabSNB (fn:=Tryz.f79) (by kernel_rfl) (by kernel_rfl) (by kernel_rfl)
noncomputable def tbSO:=tbSO_1
noncomputable def tbKSO:KT:=tbKSO_1
theorem tabSO:Tab Tryz.prog tbSO cxMd tbKSO:=tabSO_1
noncomputable def cx_rAt (F:Nat):Cx:={P:=Tryz.prog,C:=tbSO,K:=tbKSO,mode:=cxMd,fuel:=F,live:=liveTab [],pin:=0,nx:=true}
noncomputable def cx_leaks (F:Nat):Cx:={P:=Tryz.prog,C:=tbSO,K:=tbKSO,mode:=cxMd,fuel:=F,live:=liveTab [],pin:=0,nx:=true}
noncomputable def cx_says (F:Nat):Cx:={P:=Tryz.prog,C:=tbSO,K:=tbKSO,mode:=cxMd,fuel:=F,live:=liveTab [(4,[5,4,3,1])],pin:=0,nx:=true}
def rAt_K:CK:=CK.pair KI (CK.pair KI (CK.pair KI (CK.pair KL (CK.pair (CK.slice 66 MoK) (CK.pair KI (CK.pair KI KI))))))
def rAt_sh:List (Option Nat):=[some 5,none,none,none]
def rAt_R:CK:=CK.int .i64
def rAt_re:List (Option Nat):=[none]
theorem rAt_eq (F:Nat) (a0_0 a0_1 a0_2:Int) (a0_3:List Int) (a0_4:List Mo) (a1 a2 a3:Int):runF (cx_rAt F) Tryz.f67 [AV.agg [AV.int .i64 a0_0,AV.int .i64 a0_1,AV.int .i64 a0_2,AV.ro KI a0_3,AV.ro MoK a0_4],AV.int .i64 a1,AV.int .i64 a2,AV.int .i64 a3] []=bif rWithinM (a0_0,a0_1,a0_2,a0_3,a0_4,a2,a3) then bif decide (0≤IntKind.wrap .i64 (IntKind.wrap .i64 (a3*a0_1)+a2))&&decide (IntKind.wrap .i64 (IntKind.wrap .i64 (a3*a0_1)+a2)<(a0_3.length:Int)) then {ok:=true,val:=AV.int .i64 (nth 0 a0_3 (Int.toNat (IntKind.wrap .i64 (IntKind.wrap .i64 (a3*a0_1)+a2))))} else BR else bif meetsOk (a0_0,a0_1,a0_2,a0_3,a0_4,a1,a2,a3) then {ok:=true,val:=AV.int .i64 (meetsM (a0_0,a0_1,a0_2,a0_3,a0_4,a1,a2,a3))} else BR:=by kernel_rfl
noncomputable def rAt_run (F:Nat) (x:CT rAt_K):Res:=runF (cx_rAt F) Tryz.f67 (groupA rAt_sh (enc rAt_K x)) []
theorem rAt_arg (F:Nat) (a0_0 a0_1 a0_2:Int) (a0_3:List Int) (a0_4:List Mo) (a1 a2 a3:Int):rAt_run F (a0_0,a0_1,a0_2,a0_3,a0_4,a1,a2,a3)=runF (cx_rAt F) Tryz.f67 [AV.agg [AV.int .i64 a0_0,AV.int .i64 a0_1,AV.int .i64 a0_2,AV.ro KI a0_3,AV.ro MoK a0_4],AV.int .i64 a1,AV.int .i64 a2,AV.int .i64 a3] []:=by kernel_rfl
def leaks_K:CK:=CK.pair KI (CK.pair KI (CK.pair KI (CK.pair KL (CK.pair (CK.slice 66 MoK) (CK.pair KI (CK.pair KI (CK.pair KI KI)))))))
def leaks_sh:List (Option Nat):=[some 5,none,none,none,none]
def leaks_R:CK:=CK.bool
def leaks_re:List (Option Nat):=[none]
noncomputable def leaks_run (F:Nat) (x:CT leaks_K):Res:=runF (cx_leaks F) Tryz.f66 (groupA leaks_sh (enc leaks_K x)) []
theorem leaks_arg (F:Nat) (a0_0 a0_1 a0_2:Int) (a0_3:List Int) (a0_4:List Mo) (a1 a2 a3 a4:Int):leaks_run F (a0_0,a0_1,a0_2,a0_3,a0_4,a1,a2,a3,a4)=runF (cx_leaks F) Tryz.f66 [AV.agg [AV.int .i64 a0_0,AV.int .i64 a0_1,AV.int .i64 a0_2,AV.ro KI a0_3,AV.ro MoK a0_4],AV.int .i64 a1,AV.int .i64 a2,AV.int .i64 a3,AV.int .i64 a4] []:=by kernel_rfl
def says_K:CK:=CK.pair KI (CK.pair KI (CK.pair KI (CK.pair KL (CK.slice 66 MoK))))
def says_sh:List (Option Nat):=[some 5]
def says_R:CK:=CK.int .i64
def says_re:List (Option Nat):=[none]
noncomputable def says_L0r (F n:Nat) (s3 s4 s5 h0_0 h0_1 h0_2:Int) (h0_3:List Int) (h0_4:List Mo):Res:=Lp (cx_says F) (loopBy (loopsOf (cx_says F) (bodyOf Tryz.f22) (endK (cx_says F) Tryz.f22)) 4) n {T:=fr 51 [(1,AV.ptr 0 0),(3,AV.int .i64 s3),(4,AV.int .i64 s4),(5,AV.int .i64 s5)],H:=[Blk.cells [AV.int .i64 h0_0,AV.int .i64 h0_1,AV.int .i64 h0_2,AV.ro KI h0_3,AV.ro MoK h0_4]],ok:=true}
noncomputable def says_L0:=Classical.choose (hideE says_L0r)
theorem says_L0_def:says_L0=says_L0r:=Classical.choose_spec (hideE says_L0r)
theorem says_L0_succ (F n:Nat) (s3 s4 s5 h0_0 h0_1 h0_2:Int) (h0_3:List Int) (h0_4:List Mo):says_L0 F (n+1) s3 s4 s5 h0_0 h0_1 h0_2 h0_3 h0_4=bif decide (s5<(h0_4.length:Int)) then bif decide (0≤s5)&&decide (s5<(h0_4.length:Int)) then bif !(nth (0,0,0,false) h0_4 (Int.toNat s5)).2.2.2 then says_L0 F n s3 s4 (IntKind.wrap .i64 (s5+1)) h0_0 h0_1 h0_2 h0_3 h0_4 else bif decide (0≤IntKind.wrap .i64 (IntKind.wrap .i64 ((nth (0,0,0,false) h0_4 (Int.toNat s5)).2.1*h0_1)+(nth (0,0,0,false) h0_4 (Int.toNat s5)).1))&&decide (IntKind.wrap .i64 (IntKind.wrap .i64 ((nth (0,0,0,false) h0_4 (Int.toNat s5)).2.1*h0_1)+(nth (0,0,0,false) h0_4 (Int.toNat s5)).1)<(h0_3.length:Int)) then bif (rIsOrdM (nth 0 h0_3 (Int.toNat (IntKind.wrap .i64 (IntKind.wrap .i64 ((nth (0,0,0,false) h0_4 (Int.toNat s5)).2.1*h0_1)+(nth (0,0,0,false) h0_4 (Int.toNat s5)).1))))).2.1 then bif decide (0≤IntKind.wrap .u64 s4) then says_L0 F n (orI .i64 s3 (shlI .i64 1 (IntKind.wrap .u64 s4))) (IntKind.wrap .i64 (s4+1)) (IntKind.wrap .i64 (s5+1)) h0_0 h0_1 h0_2 h0_3 h0_4 else BR else says_L0 F n s3 (IntKind.wrap .i64 (s4+1)) (IntKind.wrap .i64 (s5+1)) h0_0 h0_1 h0_2 h0_3 h0_4 else BR else BR else {ok:=true,val:=AV.int .i64 s3}:=by rewrite [says_L0_def];kernel_rfl
theorem says_eq (F:Nat) (a0_0 a0_1 a0_2:Int) (a0_3:List Int) (a0_4:List Mo):runF (cx_says F) Tryz.f22 [AV.agg [AV.int .i64 a0_0,AV.int .i64 a0_1,AV.int .i64 a0_2,AV.ro KI a0_3,AV.ro MoK a0_4]] []=says_L0 F F 0 0 0 a0_0 a0_1 a0_2 a0_3 a0_4:=by rewrite [says_L0_def];kernel_rfl
noncomputable def says_run (F:Nat) (x:CT says_K):Res:=runF (cx_says F) Tryz.f22 (groupA says_sh (enc says_K x)) []
theorem says_arg (F:Nat) (a0_0 a0_1 a0_2:Int) (a0_3:List Int) (a0_4:List Mo):says_run F (a0_0,a0_1,a0_2,a0_3,a0_4)=runF (cx_says F) Tryz.f22 [AV.agg [AV.int .i64 a0_0,AV.int .i64 a0_1,AV.int .i64 a0_2,AV.ro KI a0_3,AV.ro MoK a0_4]] []:=by kernel_rfl
def mG (w h:Int) (m:Mo):Bool:=outerOk m&&mIn w h m
def orgG (k w h:Int) (cells:List Int) (ms:List Mo):Bool:=decide ((1≤w∧w≤24)∧(1≤h∧h≤24)∧(cells.length:Int)=w*h∧(k=0∨k=1)∧ms.length<1000)&&ms.all (mG w h)
theorem orgG_spec {k w h:Int} {cells:List Int} {ms:List Mo} (g:orgG k w h cells ms=true):(1≤w∧w≤24)∧(1≤h∧h≤24)∧(cells.length:Int)=w*h∧(k=0∨k=1)∧ms.length<1000∧ms.all (fun m=>outerOk m)=true∧ms.all (mIn w h)=true:=by
 simp only[orgG,Bool.and_eq_true,decide_eq_true_eq] at g
 obtain ⟨⟨a,b,c,d,e⟩,f⟩:=g
 have q:=List.all_eq_true.1 f
 refine ⟨a,b,c,d,e,List.all_eq_true.2 fun m hm=> ?_,List.all_eq_true.2 fun m hm=> ?_⟩
 ·have:=q m hm;simp only[mG,Bool.and_eq_true] at this;exact this.1
 ·have:=q m hm;simp only[mG,Bool.and_eq_true] at this;exact this.2
theorem meetsOk_of {k w h:Int} {cells:List Int} {ms:List Mo} (g:orgG k w h cells ms=true) (word x y:Int):meetsOk (k,w,h,cells,ms,word,x,y)=true:=by
 obtain ⟨_,_,_,_,e,f,_⟩:=orgG_spec g
 simp only[meetsOk,f,Bool.and_true,decide_eq_true_eq]
 exact e
abbrev AtZ:=Int×Int×Int×List Int×List Mo×Int×Int×Int
def atV (w h:Int) (cells:List Int) (ms:List Mo) (word x y:Int):Int:=bif inR w h x y then nth 0 cells (y*w+x).toNat else meetsL word x y ms 0
def rAtOk:AtZ→Bool:=fun (k,w,h,cells,ms,_,_,_)=>orgG k w h cells ms
def rAtM:AtZ→Int:=fun (k,w,h,cells,ms,word,x,y)=>atV w h cells ms word x y
def rAtFu:AtZ→Nat:=fun _=>1
theorem rAt_ret (z:AtZ) (hk:rAtOk z=true):Ret rAt_re rAt_R (rAt_run (rAtFu z) z) (rAtM z):=by
 obtain ⟨k,w,h,cells,ms,word,x,y⟩:=z
 have g:orgG k w h cells ms=true:=hk
 obtain ⟨hw,hh,hl,hrk,hx,_,_⟩:=orgG_spec g
 refine Ret.of (r':={ok:=true,val:=AV.int .i64 (atV w h cells ms word x y)}) ((rAt_arg ..).trans ((rAt_eq ..).trans ?_)) (Ret.int _ _)
 rw[show rWithinM (k,w,h,cells,ms,x,y)=inR w h x y from rfl,meetsOk_of g]
 simp only[atV,cond_true]
 cases hr:inR w h x y with
 |true=>
  obtain ⟨r1,r2⟩:=inR_iff.1 hr
  obtain ⟨i1,i2,i3,i4⟩:=idx_ok hw hh hl r1 r2
  rw[wrap_id (n:=y*w) (by omega) (by omega),wrap_id (n:=y*w+x) (by omega) (by omega),decide_eq_true i3,decide_eq_true i4]
  simp only[cond_true,Bool.and_self]
 |false=>rfl
abbrev LkZ:=Int×Int×Int×List Int×List Mo×Int×Int×Int×Int
def leakOf (k out d s:Int):Bool:=bif decide (out=0) then sideN k [] out d s !=0 else !leadsM (sideN k [] out d s,(rIsOrdM out).1)
def leaksOk:LkZ→Bool:=fun (k,w,h,cells,ms,_,x,y,d)=>orgG k w h cells ms&&(decide (0≤d∧d<4)&&inR w h x y)
def leaksM:LkZ→Bool:=fun (k,w,h,cells,ms,word,x,y,d)=>leakOf k (meetsL word (x+dX d) (y+dY d) ms 0) d (nth 0 cells (y*w+x).toNat)
def leaksFu:LkZ→Nat:=fun _=>1
def orgV (k w h:Int) (cells:List Int) (ms:List Mo):AV:=AV.agg [AV.int .i64 k,AV.int .i64 w,AV.int .i64 h,AV.ro KI cells,AV.ro MoK ms]
def idxW (w x y:Int):Int:=IntKind.wrap .i64 (IntKind.wrap .i64 (y*w)+x)
def rlR (out then':Int):Res:=bif decide (out=0) then {ok:=true,val:=AV.bool (then' !=0)} else {ok:=true,val:=AV.bool (!leadsM (then',(rIsOrdM out).1))}
theorem rl_0 (F:Nat) (k w h:Int) (cells:List Int) (ms:List Mo) (word x y:Int):runF (cx_leaks F) Tryz.f66 [orgV k w h cells ms, .int .i64 word, .int .i64 x, .int .i64 y, .int .i64 0] []=
  bif meetsOk (k,w,h,cells,ms,word,IntKind.wrap .i64 (x+1),IntKind.wrap .i64 (y+0)) then (bif decide (0≤idxW w x y)&&decide (idxW w x y<(cells.length:Int)) then
   (bif rNextOk (k,[],meetsM (k,w,h,cells,ms,word,IntKind.wrap .i64 (x+1),IntKind.wrap .i64 (y+0)),0,0,nth 0 cells (idxW w x y).toNat,0) then
    rlR (meetsM (k,w,h,cells,ms,word,IntKind.wrap .i64 (x+1),IntKind.wrap .i64 (y+0))) (rNextM (k,[],meetsM (k,w,h,cells,ms,word,IntKind.wrap .i64 (x+1),IntKind.wrap .i64 (y+0)),0,0,nth 0 cells (idxW w x y).toNat,0))
   else {ok:=false,val:= .junk}) else {ok:=false,val:= .junk}) else {ok:=false,val:= .junk}:=by kernel_rfl
theorem rl_1 (F:Nat) (k w h:Int) (cells:List Int) (ms:List Mo) (word x y:Int):runF (cx_leaks F) Tryz.f66 [orgV k w h cells ms, .int .i64 word, .int .i64 x, .int .i64 y, .int .i64 1] []=
  bif meetsOk (k,w,h,cells,ms,word,IntKind.wrap .i64 (x+0),IntKind.wrap .i64 (y+ -1)) then (bif decide (0≤idxW w x y)&&decide (idxW w x y<(cells.length:Int)) then
   (bif rNextOk (k,[],meetsM (k,w,h,cells,ms,word,IntKind.wrap .i64 (x+0),IntKind.wrap .i64 (y+ -1)),0,0,0,nth 0 cells (idxW w x y).toNat) then
    rlR (meetsM (k,w,h,cells,ms,word,IntKind.wrap .i64 (x+0),IntKind.wrap .i64 (y+ -1))) (rNextM (k,[],meetsM (k,w,h,cells,ms,word,IntKind.wrap .i64 (x+0),IntKind.wrap .i64 (y+ -1)),0,0,0,nth 0 cells (idxW w x y).toNat))
   else {ok:=false,val:= .junk}) else {ok:=false,val:= .junk}) else {ok:=false,val:= .junk}:=by kernel_rfl
theorem rl_2 (F:Nat) (k w h:Int) (cells:List Int) (ms:List Mo) (word x y:Int):runF (cx_leaks F) Tryz.f66 [orgV k w h cells ms, .int .i64 word, .int .i64 x, .int .i64 y, .int .i64 2] []=
  bif meetsOk (k,w,h,cells,ms,word,IntKind.wrap .i64 (x+ -1),IntKind.wrap .i64 (y+0)) then (bif decide (0≤idxW w x y)&&decide (idxW w x y<(cells.length:Int)) then
   (bif rNextOk (k,[],meetsM (k,w,h,cells,ms,word,IntKind.wrap .i64 (x+ -1),IntKind.wrap .i64 (y+0)),nth 0 cells (idxW w x y).toNat,0,0,0) then
    rlR (meetsM (k,w,h,cells,ms,word,IntKind.wrap .i64 (x+ -1),IntKind.wrap .i64 (y+0))) (rNextM (k,[],meetsM (k,w,h,cells,ms,word,IntKind.wrap .i64 (x+ -1),IntKind.wrap .i64 (y+0)),nth 0 cells (idxW w x y).toNat,0,0,0))
   else {ok:=false,val:= .junk}) else {ok:=false,val:= .junk}) else {ok:=false,val:= .junk}:=by kernel_rfl
theorem rl_3 (F:Nat) (k w h:Int) (cells:List Int) (ms:List Mo) (word x y:Int):runF (cx_leaks F) Tryz.f66 [orgV k w h cells ms, .int .i64 word, .int .i64 x, .int .i64 y, .int .i64 3] []=
  bif meetsOk (k,w,h,cells,ms,word,IntKind.wrap .i64 (x+0),IntKind.wrap .i64 (y+1)) then (bif decide (0≤idxW w x y)&&decide (idxW w x y<(cells.length:Int)) then
   (bif rNextOk (k,[],meetsM (k,w,h,cells,ms,word,IntKind.wrap .i64 (x+0),IntKind.wrap .i64 (y+1)),0,nth 0 cells (idxW w x y).toNat,0,0) then
    rlR (meetsM (k,w,h,cells,ms,word,IntKind.wrap .i64 (x+0),IntKind.wrap .i64 (y+1))) (rNextM (k,[],meetsM (k,w,h,cells,ms,word,IntKind.wrap .i64 (x+0),IntKind.wrap .i64 (y+1)),0,nth 0 cells (idxW w x y).toNat,0,0))
   else {ok:=false,val:= .junk}) else {ok:=false,val:= .junk}) else {ok:=false,val:= .junk}:=by kernel_rfl
theorem rlR_eq (out t:Int):rlR out t={ok:=true,val:=AV.bool (bif decide (out=0) then t !=0 else !leadsM (t,(rIsOrdM out).1))}:=by
 simp only[rlR]
 cases decide (out=0)<;>rfl
theorem leaks_ret (z:LkZ) (hk:leaksOk z=true):Ret leaks_re leaks_R (leaks_run (leaksFu z) z) (leaksM z):=by
 obtain ⟨k,w,h,cells,ms,word,x,y,d⟩:=z
 simp only[leaksOk,Bool.and_eq_true,decide_eq_true_eq] at hk
 obtain ⟨g,hd,hr⟩:=hk
 obtain ⟨hw,hh,hl,hrk,hx,_,_⟩:=orgG_spec g
 obtain ⟨r1,r2⟩:=inR_iff.1 hr
 obtain ⟨i1,i2,i3,i4⟩:=idx_ok hw hh hl r1 r2
 have hi:idxW w x y=y*w+x:=by
  rw[idxW,wrap_id (n:=y*w) (by omega) (by omega),wrap_id (n:=y*w+x) (by omega) (by omega)]
 have o:∀a b c e f,rNextOk (k,[],a,b,c,e,f)=true:=fun _ _ _ _ _=>decide_eq_true hrk
 refine Ret.of (r':={ok:=true,val:= .bool (leaksM (k,w,h,cells,ms,word,x,y,d))}) ((leaks_arg ..).trans ?_) (Ret.bool _)
 show runF (cx_leaks 1) Tryz.f66 [orgV k w h cells ms, .int .i64 word, .int .i64 x, .int .i64 y, .int .i64 d] []=_
 obtain rfl|rfl|rfl|rfl:d=0∨d=1∨d=2∨d=3:=by omega
 ·rw[rl_0,meetsOk_of g,hi,decide_eq_true i3,decide_eq_true i4,o,rlR_eq,←next_eq,wrap_id (n:=x+1) (by omega) (by omega),wrap_id (n:=y+0) (by omega) (by omega)]
  rfl
 ·rw[rl_1,meetsOk_of g,hi,decide_eq_true i3,decide_eq_true i4,o,rlR_eq,←next_eq,wrap_id (n:=x+0) (by omega) (by omega),wrap_id (n:=y+ -1) (by omega) (by omega)]
  rfl
 ·rw[rl_2,meetsOk_of g,hi,decide_eq_true i3,decide_eq_true i4,o,rlR_eq,←next_eq,wrap_id (n:=x+ -1) (by omega) (by omega),wrap_id (n:=y+0) (by omega) (by omega)]
  rfl
 ·rw[rl_3,meetsOk_of g,hi,decide_eq_true i3,decide_eq_true i4,o,rlR_eq,←next_eq,wrap_id (n:=x+0) (by omega) (by omega),wrap_id (n:=y+1) (by omega) (by omega)]
  rfl
theorem rIs_cIs (s:Int):rIsOrdM s=cIsOrdM s:=(rIsOrd_isOrd s).trans (cIsOrd_isOrd s).symm
def saysOk:Organ→Bool:=fun (k,w,h,cells,ms)=>orgG k w h cells ms
def saysM:Organ→Int:=fun (k,w,h,cells,ms)=>toldL w cells ms 0 0
def saysFu:Organ→Nat:=fun (k,w,h,cells,ms)=>ms.length+1
theorem says_L0_spec (F:Nat) {k w h:Int} {cells:List Int} {ms:List Mo} (hw:1≤w∧w≤24) (hh:1≤h∧h≤24) (hl:(cells.length:Int)=w*h) (hms:ms.all (mIn w h)=true) (hx:ms.length<1000):∀(j n i a:Nat) (t:Int),i+j=ms.length→j<n→a≤i→
  says_L0 F n t a i k w h cells ms={ok:=true,val:=AV.int .i64 (toldL w cells (ms.drop i) a t)}
 |j,0,i,_,_,_,h,_=>by omega
 |0,n+1,i,a,t,hi,_,_=>by
  rw[says_L0_succ,drop_len ms (by omega)]
  simp only[show ¬((i:Int)<ms.length) by omega,decide_false,cond_false,toldL]
 | j+1,n+1,i,a,t,hi,hn,ha=>by
  have ih:=says_L0_spec F (k:=k) (cells:=cells) hw hh hl hms hx j n (i+1)
  have hq:mIn w h (nth (0,0,0,false) ms i)=true:=List.all_eq_true.1 hms _ (nth_mem (0,0,0,false) ms (show i<ms.length by omega))
  rw[says_L0_succ,drop_nth (0,0,0,false) ms (show i<ms.length by omega),Int.toNat_natCast,wrap_succ (i:=i) (by omega),wrap_succ (i:=a) (by omega),wrapu_id (n:=(a:Int)) (by omega) (by omega),rIs_cIs]
  revert hq
  generalize nth (0,0,0,false) ms i=q
  obtain ⟨x,y,d,o⟩:=q
  intro hq
  obtain ⟨r1,r2⟩:=inR_iff.1 hq
  have r3:0≤x∧x<w:=r1
  have r4:0≤y∧y<h:=r2
  obtain ⟨i1,i2,i3,i4⟩:=idx_ok hw hh hl r3 r4
  simp only[show (i:Int)<ms.length by omega,show (0:Int)≤i by omega,show (0:Int)≤a by omega,decide_true,Bool.and_self,cond_true,wrap_id (n:=y*w) (by omega) (by omega),wrap_id (n:=y*w+x) (by omega) (by omega),i3,i4,toldL]
  cases o with
  |false=>
   simp only[Bool.not_false,cond_true]
   exact ih a t (by omega) (by omega) (by omega)
  |true=>
   simp only[Bool.not_true,cond_false]
   cases (cIsOrdM (nth 0 cells (y*w+x).toNat)).2.1
   ·exact ih (a+1) _ (by omega) (by omega) (by omega)
   ·exact ih (a+1) _ (by omega) (by omega) (by omega)
theorem says_ret (z:Organ) (hk:saysOk z=true):Ret says_re says_R (says_run (saysFu z) z) (saysM z):=by
 obtain ⟨k,w,h,cells,ms⟩:=z
 have g:orgG k w h cells ms=true:=hk
 obtain ⟨hw,hh,hl,hrk,hx,_,hm⟩:=orgG_spec g
 refine Ret.of ((says_arg ..).trans ((says_eq ..).trans ?_)) (Ret.int _ _)
 have:=says_L0_spec (ms.length+1) (k:=k) hw hh hl hm hx ms.length (ms.length+1) 0 0 0 (by omega) (by omega) (by omega)
 rw[List.drop_zero] at this
 exact this
noncomputable def tbSOL_1:=addC 67 (tspec rAt_sh rAt_K rAt_re rAt_R rAtOk rAtM) tbSO
theorem tabSOL_1:Tab Tryz.prog tbSOL_1 cxMd tbKSO:=Tab.addTy (os:=[]) tabSO tabSO (KK:=rAt_K) (R:=rAt_R) (fn:=Tryz.f67) (by kernel_rfl) (by kernel_rfl) (by kernel_rfl) (by kernel_rfl) _ rAtFu rAt_ret
noncomputable def tbSOL_2:=addC 66 (tspec leaks_sh leaks_K leaks_re leaks_R leaksOk leaksM) tbSOL_1
theorem tabSOL_2:Tab Tryz.prog tbSOL_2 cxMd tbKSO:=Tab.addTy (os:=[]) tabSOL_1 tabSO (KK:=leaks_K) (R:=leaks_R) (fn:=Tryz.f66) (by kernel_rfl) (by kernel_rfl) (by kernel_rfl) (by kernel_rfl) _ leaksFu leaks_ret
noncomputable def tbSOL_3:=addC 22 (tspec says_sh says_K says_re says_R saysOk saysM) tbSOL_2
theorem tabSOL_3:Tab Tryz.prog tbSOL_3 cxMd tbKSO:=Tab.addTy (os:=[]) tabSOL_2 tabSO (KK:=says_K) (R:=says_R) (fn:=Tryz.f22) (by kernel_rfl) (by kernel_rfl) (by kernel_rfl) (by kernel_rfl) _ saysFu says_ret
noncomputable def tbSOB:=tbSOL_3
noncomputable def tbKSOB:KT:=tbKSO
theorem tabSOB:Tab Tryz.prog tbSOB cxMd tbKSOB:=tabSOL_3
end Go.Proofs.YtiglikocfjhkcaaGreatDoor
