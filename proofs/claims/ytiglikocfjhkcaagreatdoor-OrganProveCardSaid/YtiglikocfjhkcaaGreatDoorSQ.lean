/- What a cell of an organ becomes, and whether an organ leaks, by the document. -/
import Derived.Test.YtiglikocfjhkcaaGreatDoorSO
import Derived.Test.YtiglikocfjhkcaaGreatDoorProg
import Derived.KernelRfl
set_option linter.all false
set_option linter.unusedVariables false
set_option linter.unusedSimpArgs false
open Go Go.Abs Go.Proofs
namespace Go.Proofs.YtiglikocfjhkcaaGreatDoor
noncomputable def tbSQ:=tbSOB
noncomputable def tbKSQ:KT:=tbKSOB
theorem tabSQ:Tab Tryz.prog tbSQ cxMd tbKSQ:=tabSOB
noncomputable def cx_rNx (F:Nat):Cx:={P:=Tryz.prog,C:=tbSQ,K:=tbKSQ,mode:=cxMd,fuel:=F,live:=liveTab [],pin:=0,nx:=true}
noncomputable def cx_leaky (F:Nat):Cx:={P:=Tryz.prog,C:=tbSQ,K:=tbKSQ,mode:=cxMd,fuel:=F,live:=liveTab [(2,[2,1,5]),(5,[2,1,6,5]),(8,[2,1,6,5,7])],pin:=0,nx:=true}
def rNx_K:CK:=CK.pair KI (CK.pair KI (CK.pair KI (CK.pair KL (CK.pair (CK.slice 66 MoK) (CK.pair KI (CK.pair KI KI))))))
def rNx_sh:List (Option Nat):=[some 5,none,none,none]
def rNx_R:CK:=CK.int .i64
def rNx_re:List (Option Nat):=[none]
theorem rNx_eq (F:Nat) (a0_0 a0_1 a0_2:Int) (a0_3:List Int) (a0_4:List Mo) (a1 a2 a3:Int):runF (cx_rNx F) Tryz.f46 [AV.agg [AV.int .i64 a0_0,AV.int .i64 a0_1,AV.int .i64 a0_2,AV.ro KI a0_3,AV.ro MoK a0_4],AV.int .i64 a1,AV.int .i64 a2,AV.int .i64 a3] []=bif rAtOk (a0_0,a0_1,a0_2,a0_3,a0_4,a1,a2,a3) then bif rAtOk (a0_0,a0_1,a0_2,a0_3,a0_4,a1,IntKind.wrap .i64 (a2+1),a3) then bif rAtOk (a0_0,a0_1,a0_2,a0_3,a0_4,a1,a2,IntKind.wrap .i64 (a3-1)) then bif rAtOk (a0_0,a0_1,a0_2,a0_3,a0_4,a1,IntKind.wrap .i64 (a2-1),a3) then bif rAtOk (a0_0,a0_1,a0_2,a0_3,a0_4,a1,a2,IntKind.wrap .i64 (a3+1)) then bif rNextOk (a0_0,[],rAtM (a0_0,a0_1,a0_2,a0_3,a0_4,a1,a2,a3),rAtM (a0_0,a0_1,a0_2,a0_3,a0_4,a1,IntKind.wrap .i64 (a2+1),a3),rAtM (a0_0,a0_1,a0_2,a0_3,a0_4,a1,a2,IntKind.wrap .i64 (a3-1)),rAtM (a0_0,a0_1,a0_2,a0_3,a0_4,a1,IntKind.wrap .i64 (a2-1),a3),rAtM (a0_0,a0_1,a0_2,a0_3,a0_4,a1,a2,IntKind.wrap .i64 (a3+1))) then {ok:=true,val:=AV.int .i64 (rNextM (a0_0,[],rAtM (a0_0,a0_1,a0_2,a0_3,a0_4,a1,a2,a3),rAtM (a0_0,a0_1,a0_2,a0_3,a0_4,a1,IntKind.wrap .i64 (a2+1),a3),rAtM (a0_0,a0_1,a0_2,a0_3,a0_4,a1,a2,IntKind.wrap .i64 (a3-1)),rAtM (a0_0,a0_1,a0_2,a0_3,a0_4,a1,IntKind.wrap .i64 (a2-1),a3),rAtM (a0_0,a0_1,a0_2,a0_3,a0_4,a1,a2,IntKind.wrap .i64 (a3+1))))} else BR else BR else BR else BR else BR else BR:=by kernel_rfl
noncomputable def rNx_run (F:Nat) (x:CT rNx_K):Res:=runF (cx_rNx F) Tryz.f46 (groupA rNx_sh (enc rNx_K x)) []
theorem rNx_arg (F:Nat) (a0_0 a0_1 a0_2:Int) (a0_3:List Int) (a0_4:List Mo) (a1 a2 a3:Int):rNx_run F (a0_0,a0_1,a0_2,a0_3,a0_4,a1,a2,a3)=runF (cx_rNx F) Tryz.f46 [AV.agg [AV.int .i64 a0_0,AV.int .i64 a0_1,AV.int .i64 a0_2,AV.ro KI a0_3,AV.ro MoK a0_4],AV.int .i64 a1,AV.int .i64 a2,AV.int .i64 a3] []:=by kernel_rfl
def leaky_K:CK:=CK.pair KI (CK.pair KI (CK.pair KI (CK.pair KL (CK.pair (CK.slice 66 MoK) KI))))
def leaky_sh:List (Option Nat):=[some 5,none]
def leaky_R:CK:=CK.bool
def leaky_re:List (Option Nat):=[none]
noncomputable def leaky_L0r (F n:Nat) (s1 s5 h0_0 h0_1 h0_2:Int) (h0_3:List Int) (h0_4:List Mo):Res:=Lp (cx_leaky F) (loopBy (loopsOf (cx_leaky F) (bodyOf Tryz.f45) (endK (cx_leaky F) Tryz.f45)) 2) n {T:=fr 48 [(1,AV.int .i64 s1),(2,AV.ptr 0 0),(5,AV.int .i64 s5)],H:=[Blk.cells [AV.int .i64 h0_0,AV.int .i64 h0_1,AV.int .i64 h0_2,AV.ro KI h0_3,AV.ro MoK h0_4]],ok:=true}
noncomputable def leaky_L0:=Classical.choose (hideE leaky_L0r)
theorem leaky_L0_def:leaky_L0=leaky_L0r:=Classical.choose_spec (hideE leaky_L0r)
noncomputable def leaky_L1r (F m0 n:Nat) (s1 s5 s6 h0_0 h0_1 h0_2:Int) (h0_3:List Int) (h0_4:List Mo):Res:=Lp (cx_leaky F) (loopBy (innersOf (cx_leaky F) (loopBy (loopsOf (cx_leaky F) (bodyOf Tryz.f45) (endK (cx_leaky F) Tryz.f45)) 2) m0) 5) n {T:=fr 48 [(1,AV.int .i64 s1),(2,AV.ptr 0 0),(5,AV.int .i64 s5),(6,AV.int .i64 s6)],H:=[Blk.cells [AV.int .i64 h0_0,AV.int .i64 h0_1,AV.int .i64 h0_2,AV.ro KI h0_3,AV.ro MoK h0_4]],ok:=true}
noncomputable def leaky_L1:=Classical.choose (hideE leaky_L1r)
theorem leaky_L1_def:leaky_L1=leaky_L1r:=Classical.choose_spec (hideE leaky_L1r)
noncomputable def leaky_L2r (F m0 m1 n:Nat) (s1 s5 s6 s7 h0_0 h0_1 h0_2:Int) (h0_3:List Int) (h0_4:List Mo):Res:=Lp (cx_leaky F) (loopBy (innersOf (cx_leaky F) (loopBy (innersOf (cx_leaky F) (loopBy (loopsOf (cx_leaky F) (bodyOf Tryz.f45) (endK (cx_leaky F) Tryz.f45)) 2) m1) 5) m0) 8) n {T:=fr 48 [(1,AV.int .i64 s1),(2,AV.ptr 0 0),(5,AV.int .i64 s5),(6,AV.int .i64 s6),(7,AV.int .i64 s7)],H:=[Blk.cells [AV.int .i64 h0_0,AV.int .i64 h0_1,AV.int .i64 h0_2,AV.ro KI h0_3,AV.ro MoK h0_4]],ok:=true}
noncomputable def leaky_L2:=Classical.choose (hideE leaky_L2r)
theorem leaky_L2_def:leaky_L2=leaky_L2r:=Classical.choose_spec (hideE leaky_L2r)
theorem leaky_L0_succ (F n:Nat) (s1 s5 h0_0 h0_1 h0_2:Int) (h0_3:List Int) (h0_4:List Mo):leaky_L0 F (n+1) s1 s5 h0_0 h0_1 h0_2 h0_3 h0_4=bif decide (s5<h0_2) then leaky_L1 F n F s1 s5 0 h0_0 h0_1 h0_2 h0_3 h0_4 else {ok:=true,val:=AV.bool false}:=by rewrite [leaky_L0_def,leaky_L1_def];kernel_rfl
theorem leaky_L1_succ (F m0 n:Nat) (s1 s5 s6 h0_0 h0_1 h0_2:Int) (h0_3:List Int) (h0_4:List Mo):leaky_L1 F m0 (n+1) s1 s5 s6 h0_0 h0_1 h0_2 h0_3 h0_4=bif decide (s6<h0_1) then leaky_L2 F n m0 F s1 s5 s6 0 h0_0 h0_1 h0_2 h0_3 h0_4 else leaky_L0 F m0 s1 (IntKind.wrap .i64 (s5+1)) h0_0 h0_1 h0_2 h0_3 h0_4:=by rewrite [leaky_L0_def,leaky_L1_def,leaky_L2_def];kernel_rfl
theorem leaky_L2_succ (F m0 m1 n:Nat) (s1 s5 s6 s7 h0_0 h0_1 h0_2:Int) (h0_3:List Int) (h0_4:List Mo):leaky_L2 F m0 m1 (n+1) s1 s5 s6 s7 h0_0 h0_1 h0_2 h0_3 h0_4=bif decide (s7<4) then bif decide (s7=0) then bif !rWithinM (h0_0,h0_1,h0_2,h0_3,h0_4,IntKind.wrap .i64 (s6+1),IntKind.wrap .i64 (s5+0)) then bif leaksOk (h0_0,h0_1,h0_2,h0_3,h0_4,s1,s6,s5,s7) then bif leaksM (h0_0,h0_1,h0_2,h0_3,h0_4,s1,s6,s5,s7) then {ok:=true,val:=AV.bool true} else leaky_L2 F m0 m1 n s1 s5 s6 (IntKind.wrap .i64 (s7+1)) h0_0 h0_1 h0_2 h0_3 h0_4 else BR else leaky_L2 F m0 m1 n s1 s5 s6 (IntKind.wrap .i64 (s7+1)) h0_0 h0_1 h0_2 h0_3 h0_4 else bif decide (s7=1) then bif !rWithinM (h0_0,h0_1,h0_2,h0_3,h0_4,IntKind.wrap .i64 (s6+0),IntKind.wrap .i64 (s5+ -1)) then bif leaksOk (h0_0,h0_1,h0_2,h0_3,h0_4,s1,s6,s5,s7) then bif leaksM (h0_0,h0_1,h0_2,h0_3,h0_4,s1,s6,s5,s7) then {ok:=true,val:=AV.bool true} else leaky_L2 F m0 m1 n s1 s5 s6 (IntKind.wrap .i64 (s7+1)) h0_0 h0_1 h0_2 h0_3 h0_4 else BR else leaky_L2 F m0 m1 n s1 s5 s6 (IntKind.wrap .i64 (s7+1)) h0_0 h0_1 h0_2 h0_3 h0_4 else bif decide (s7=2) then bif !rWithinM (h0_0,h0_1,h0_2,h0_3,h0_4,IntKind.wrap .i64 (s6+ -1),IntKind.wrap .i64 (s5+0)) then bif leaksOk (h0_0,h0_1,h0_2,h0_3,h0_4,s1,s6,s5,s7) then bif leaksM (h0_0,h0_1,h0_2,h0_3,h0_4,s1,s6,s5,s7) then {ok:=true,val:=AV.bool true} else leaky_L2 F m0 m1 n s1 s5 s6 (IntKind.wrap .i64 (s7+1)) h0_0 h0_1 h0_2 h0_3 h0_4 else BR else leaky_L2 F m0 m1 n s1 s5 s6 (IntKind.wrap .i64 (s7+1)) h0_0 h0_1 h0_2 h0_3 h0_4 else bif !rWithinM (h0_0,h0_1,h0_2,h0_3,h0_4,IntKind.wrap .i64 (s6+0),IntKind.wrap .i64 (s5+1)) then bif leaksOk (h0_0,h0_1,h0_2,h0_3,h0_4,s1,s6,s5,s7) then bif leaksM (h0_0,h0_1,h0_2,h0_3,h0_4,s1,s6,s5,s7) then {ok:=true,val:=AV.bool true} else leaky_L2 F m0 m1 n s1 s5 s6 (IntKind.wrap .i64 (s7+1)) h0_0 h0_1 h0_2 h0_3 h0_4 else BR else leaky_L2 F m0 m1 n s1 s5 s6 (IntKind.wrap .i64 (s7+1)) h0_0 h0_1 h0_2 h0_3 h0_4 else leaky_L1 F m1 m0 s1 s5 (IntKind.wrap .i64 (s6+1)) h0_0 h0_1 h0_2 h0_3 h0_4:=by rewrite [leaky_L1_def,leaky_L2_def];kernel_rfl
theorem leaky_eq (F:Nat) (a0_0 a0_1 a0_2:Int) (a0_3:List Int) (a0_4:List Mo) (a1:Int):runF (cx_leaky F) Tryz.f45 [AV.agg [AV.int .i64 a0_0,AV.int .i64 a0_1,AV.int .i64 a0_2,AV.ro KI a0_3,AV.ro MoK a0_4],AV.int .i64 a1] []=leaky_L0 F F a1 0 a0_0 a0_1 a0_2 a0_3 a0_4:=by rewrite [leaky_L0_def];kernel_rfl
noncomputable def leaky_run (F:Nat) (x:CT leaky_K):Res:=runF (cx_leaky F) Tryz.f45 (groupA leaky_sh (enc leaky_K x)) []
theorem leaky_arg (F:Nat) (a0_0 a0_1 a0_2:Int) (a0_3:List Int) (a0_4:List Mo) (a1:Int):leaky_run F (a0_0,a0_1,a0_2,a0_3,a0_4,a1)=runF (cx_leaky F) Tryz.f45 [AV.agg [AV.int .i64 a0_0,AV.int .i64 a0_1,AV.int .i64 a0_2,AV.ro KI a0_3,AV.ro MoK a0_4],AV.int .i64 a1] []:=by kernel_rfl
def nxV (k w h:Int) (cells:List Int) (ms:List Mo) (word x y:Int):Int:=
 cNextM (k,[],atV w h cells ms word x y,atV w h cells ms word (x+1) y,atV w h cells ms word x (y-1),atV w h cells ms word (x-1) y,atV w h cells ms word x (y+1))
def rNxOk:AtZ→Bool:=fun (k,w,h,cells,ms,word,x,y)=>orgG k w h cells ms&&inR w h x y
def rNxM:AtZ→Int:=fun (k,w,h,cells,ms,word,x,y)=>nxV k w h cells ms word x y
def rNxFu:AtZ→Nat:=fun _=>1
theorem rNx_ret (z:AtZ) (hk:rNxOk z=true):Ret rNx_re rNx_R (rNx_run (rNxFu z) z) (rNxM z):=by
 obtain ⟨k,w,h,cells,ms,word,x,y⟩:=z
 simp only[rNxOk,Bool.and_eq_true] at hk
 obtain ⟨g,hr⟩:=hk
 obtain ⟨hw,hh,hl,hrk,hx,_,_⟩:=orgG_spec g
 obtain ⟨r1,r2⟩:=inR_iff.1 hr
 refine Ret.of (r':={ok:=true,val:=AV.int .i64 (nxV k w h cells ms word x y)}) ((rNx_arg ..).trans ((rNx_eq ..).trans ?_)) (Ret.int _ _)
 have o:∀a b,rAtOk (k,w,h,cells,ms,word,a,b)=true:=fun _ _=>g
 have o2:∀a b c e f,rNextOk (k,[],a,b,c,e,f)=true:=fun _ _ _ _ _=>decide_eq_true hrk
 rw[o,o,o,o,o,o2,←next_eq,wrap_id (n:=x+1) (by omega) (by omega),wrap_id (n:=x-1) (by omega) (by omega),wrap_id (n:=y+1) (by omega) (by omega),wrap_id (n:=y-1) (by omega) (by omega)]
 rfl
def lkD (k w h:Int) (cells:List Int) (ms:List Mo) (word x y d:Int):Bool:= !inR w h (x+dX d) (y+dY d)&&leaksM (k,w,h,cells,ms,word,x,y,d)
def lkAt (k w h:Int) (cells:List Int) (ms:List Mo) (word x y:Int):Bool:=lkD k w h cells ms word x y 0||lkD k w h cells ms word x y 1||lkD k w h cells ms word x y 2||lkD k w h cells ms word x y 3
def lkI (k w h:Int) (cells:List Int) (ms:List Mo) (word:Int) (i:Nat):Bool:=lkAt k w h cells ms word ((i % w.toNat:Nat):Int) ((i / w.toNat:Nat):Int)
theorem anyAll_or (f:Nat→Bool):∀(j i:Nat) (b:Bool),anyAll f j i b=(b||anyAll f j i false)
 |0,_,b=>by simp[anyAll]
 |j+1,i,b=>by rw[anyAll,anyAll,anyAll_or f j (i+1) (b||f i),anyAll_or f j (i+1) (false||f i)];simp[Bool.or_assoc]
theorem anyAll_add (f:Nat→Bool):∀(a c i:Nat) (b:Bool),anyAll f (a+c) i b=anyAll f c (i+a) (anyAll f a i b)
 |0,c,i,b=>by simp[anyAll]
 |a+1,c,i,b=>by
  rw[show a+1+c=(a+c)+1 by omega,anyAll,anyAll,anyAll_add f a c (i+1),show i+1+a=i+(a+1) by omega]
theorem anyAll_congr {f g:Nat→Bool}:∀(j i:Nat) (b:Bool),(∀q,i≤q→q<i+j→f q=g q)→anyAll f j i b=anyAll g j i b
 |0,_,_,_=>rfl
 |j+1,i,b,h=>by rw[anyAll,anyAll,h i (by omega) (by omega)];exact anyAll_congr j (i+1) _ fun q h1 h2=>h q (by omega) (by omega)
def resB (b:Bool):Res:={ok:=true,val:=AV.bool b}
theorem leaky_d (F m1 m0 n:Nat) {k w h:Int} {cells:List Int} {ms:List Mo} {word x y:Int} (g:orgG k w h cells ms=true) (hr:inR w h x y=true) {d:Int} (hd:0≤d∧d<4):
  leaky_L2 F m0 m1 (n+1) word y x d k w h cells ms=bif lkD k w h cells ms word x y d then resB true else leaky_L2 F m0 m1 n word y x (d+1) k w h cells ms:=by
 obtain ⟨hw,hh,hl,hrk,hx,_,_⟩:=orgG_spec g
 obtain ⟨r1,r2⟩:=inR_iff.1 hr
 have o:leaksOk (k,w,h,cells,ms,word,x,y,d)=true:=by
  simp only[leaksOk,g,hr,Bool.true_and,Bool.and_true,decide_eq_true_eq];exact hd
 rw[leaky_L2_succ,o,wrap_id (n:=d+1) (by omega) (by omega)]
 have two:∀b,(bif !b then (bif true then (bif leaksM (k,w,h,cells,ms,word,x,y,d) then ({ok:=true,val:=AV.bool true}:Res) else leaky_L2 F m0 m1 n word y x (d+1) k w h cells ms) else BR) else leaky_L2 F m0 m1 n word y x (d+1) k w h cells ms)=
   bif !b&&leaksM (k,w,h,cells,ms,word,x,y,d) then resB true else leaky_L2 F m0 m1 n word y x (d+1) k w h cells ms:=fun b=>by
  cases b<;>cases leaksM (k,w,h,cells,ms,word,x,y,d)<;>rfl
 obtain rfl|rfl|rfl|rfl:d=0∨d=1∨d=2∨d=3:=by omega
 ·rw[wrap_id (n:=x+1) (by omega) (by omega),wrap_id (n:=y+0) (by omega) (by omega)];exact two _
 ·rw[wrap_id (n:=x+0) (by omega) (by omega),wrap_id (n:=y+ -1) (by omega) (by omega)];exact two _
 ·rw[wrap_id (n:=x+ -1) (by omega) (by omega),wrap_id (n:=y+0) (by omega) (by omega)];exact two _
 ·rw[wrap_id (n:=x+0) (by omega) (by omega),wrap_id (n:=y+1) (by omega) (by omega)];exact two _
theorem leaky_c (F m1 m0 n:Nat) {k w h:Int} {cells:List Int} {ms:List Mo} {word x y:Int} (g:orgG k w h cells ms=true) (hr:inR w h x y=true):
  leaky_L2 F m0 m1 (n+5) word y x 0 k w h cells ms=bif lkAt k w h cells ms word x y then resB true else leaky_L1 F m1 m0 word y (x+1) k w h cells ms:=by
 obtain ⟨hw,hh,hl,hrk,hx,_,_⟩:=orgG_spec g
 obtain ⟨r1,r2⟩:=inR_iff.1 hr
 rw[leaky_d F m1 m0 (n+4) g hr ⟨by omega,by omega⟩,leaky_d F m1 m0 (n+3) g hr ⟨by omega,by omega⟩,leaky_d F m1 m0 (n+2) g hr ⟨by omega,by omega⟩,leaky_d F m1 m0 (n+1) g hr ⟨by omega,by omega⟩,leaky_L2_succ,wrap_id (n:=x+1) (by omega) (by omega)]
 simp only[lkAt]
 show (bif lkD k w h cells ms word x y 0 then resB true else bif lkD k w h cells ms word x y 1 then resB true else bif lkD k w h cells ms word x y 2 then resB true else bif lkD k w h cells ms word x y 3 then resB true else _)=_
 cases lkD k w h cells ms word x y 0<;>cases lkD k w h cells ms word x y 1<;>cases lkD k w h cells ms word x y 2<;>cases lkD k w h cells ms word x y 3<;>rfl
theorem yx (W:Nat) {x y:Nat} (hx:x<W):(y*W+x) % W=x∧(y*W+x) / W=y:=by
 constructor
 ·rw[Nat.mul_comm,Nat.mul_add_mod,Nat.mod_eq_of_lt hx]
 ·rw[Nat.mul_comm,Nat.mul_add_div (by omega),Nat.div_eq_of_lt hx,Nat.add_zero]
theorem inR_nat {W H x y:Nat} (hx:x<W) (hy:y<H):inR (W:Int) (H:Int) (x:Int) (y:Int)=true:=inR_iff.2 ⟨⟨by omega,by omega⟩,⟨by omega,by omega⟩⟩
theorem leaky_x (F:Nat) (hF:30≤F) {k:Int} {W H:Nat} {cells:List Int} {ms:List Mo} {word:Int} (g:orgG k W H cells ms=true) {y:Nat} (hy:y<H) (m0:Nat):∀(j n x:Nat),x+j=W→j<n→
  leaky_L1 F m0 n word (y:Int) (x:Int) k W H cells ms=bif anyAll (lkI k W H cells ms word) j (y*W+x) false then resB true else leaky_L0 F m0 word ((y+1:Nat):Int) k W H cells ms
 |j,0,x,_,h=>by omega
 |0,n+1,x,hx,_=>by
  obtain ⟨hw,hh,hl,hrk,hx,_,_⟩:=orgG_spec g
  rw[leaky_L1_succ,wrap_succ (by omega)]
  simp only[show ¬((x:Int)<W) by omega,decide_false,cond_false,anyAll]
 |j+1,n+1,x,hx,hn=>by
  obtain ⟨hw,hh,hl,hrk,_,_,_⟩:=orgG_spec g
  have ih:=leaky_x F hF g hy (word:=word) m0 j n (x+1) (by omega) (by omega)
  obtain ⟨f,rfl⟩:∃f,F=f+5:=⟨F-5,by omega⟩
  rw[leaky_L1_succ,leaky_c (f+5) m0 n f g (inR_nat (by omega) hy),show (x:Int)+1=((x+1:Nat):Int) by omega,ih,anyAll,show y*W+(x+1)=y*W+x+1 by omega]
  simp only[show ((x:Int)<W) by omega,decide_true,cond_true,Bool.false_or]
  rw[show lkI k W H cells ms word (y*W+x)=lkAt k W H cells ms word x y by simp only[lkI,Int.toNat_natCast];rw[(yx W (show x<W by omega)).1,(yx W (show x<W by omega)).2]]
  cases lkAt k W H cells ms word x y with
  |false=>rfl
  |true=>rw[anyAll_or _ _ _ true];rfl
theorem leaky_y (F:Nat) (hF:30≤F) {k:Int} {W H:Nat} {cells:List Int} {ms:List Mo} {word:Int} (g:orgG k W H cells ms=true):∀(j n y:Nat),y+j=H→j<n→
  leaky_L0 F n word (y:Int) k W H cells ms=resB (anyAll (lkI k W H cells ms word) (j*W) (y*W) false)
 |j,0,y,_,h=>by omega
 |0,n+1,y,hy,_=>by
  rw[leaky_L0_succ]
  simp only[show ¬((y:Int)<H) by omega,decide_false,cond_false,Nat.zero_mul,anyAll]
  rfl
 |j+1,n+1,y,hy,hn=>by
  obtain ⟨hw,hh,hl,hrk,_,_,_⟩:=orgG_spec g
  have ih:=leaky_y F hF g (word:=word) j n (y+1) (by omega) (by omega)
  have lx:=leaky_x F hF g (word:=word) (show y<H by omega) n W F 0 (by omega) (by omega)
  rw[leaky_L0_succ]
  simp only[show ((y:Int)<H) by omega,decide_true,cond_true]
  refine lx.trans ?_
  rw[ih,show (j+1)*W=W+j*W by rw[Nat.succ_mul,Nat.add_comm],anyAll_add,show (y+1)*W=y*W+W by rw[Nat.succ_mul],Nat.add_zero]
  cases anyAll (lkI k W H cells ms word) W (y*W) false with
  |false=>rfl
  |true=>rw[anyAll_or _ _ _ true];rfl
abbrev LyZ:=Int×Int×Int×List Int×List Mo×Int
def leakyOk:LyZ→Bool:=fun (k,w,h,cells,ms,_)=>orgG k w h cells ms
def leakyM:LyZ→Bool:=fun (k,w,h,cells,ms,word)=>anyAll (lkI k w h cells ms word) cells.length 0 false
def leakyFu:LyZ→Nat:=fun _=>30
theorem leaky_ret (z:LyZ) (hk:leakyOk z=true):Ret leaky_re leaky_R (leaky_run (leakyFu z) z) (leakyM z):=by
 obtain ⟨k,w,h,cells,ms,word⟩:=z
 have g:orgG k w h cells ms=true:=hk
 obtain ⟨hw,hh,hl,hrk,hx,_,_⟩:=orgG_spec g
 obtain ⟨W,rfl⟩:∃a:Nat,w=a:=⟨w.toNat,by omega⟩
 obtain ⟨H,rfl⟩:∃b:Nat,h=b:=⟨h.toNat,by omega⟩
 refine Ret.of (r':=resB (leakyM (k,(W:Int),(H:Int),cells,ms,word))) ((leaky_arg ..).trans ((leaky_eq ..).trans ?_)) (Ret.bool _)
 have:=leaky_y 30 (by omega) g (word:=word) H 30 0 (by omega) (by omega)
 rw[Nat.zero_mul] at this
 refine Eq.trans ?_ (this.trans ?_)
 ·rfl
 ·simp only[leakyM]
  rw[show cells.length=H*W by rw[Nat.mul_comm];exact_mod_cast hl]
noncomputable def tbSQL_1:=addC 46 (tspec rNx_sh rNx_K rNx_re rNx_R rNxOk rNxM) tbSQ
theorem tabSQL_1:Tab Tryz.prog tbSQL_1 cxMd tbKSQ:=Tab.addTy (os:=[]) tabSQ tabSQ (KK:=rNx_K) (R:=rNx_R) (fn:=Tryz.f46) (by kernel_rfl) (by kernel_rfl) (by kernel_rfl) (by kernel_rfl) _ rNxFu rNx_ret
noncomputable def tbSQL_2:=addC 45 (tspec leaky_sh leaky_K leaky_re leaky_R leakyOk leakyM) tbSQL_1
theorem tabSQL_2:Tab Tryz.prog tbSQL_2 cxMd tbKSQ:=Tab.addTy (os:=[]) tabSQL_1 tabSQ (KK:=leaky_K) (R:=leaky_R) (fn:=Tryz.f45) (by kernel_rfl) (by kernel_rfl) (by kernel_rfl) (by kernel_rfl) _ leakyFu leaky_ret
noncomputable def tbSQB:=tbSQL_2
noncomputable def tbKSQB:KT:=tbKSQ
theorem tabSQB:Tab Tryz.prog tbSQB cxMd tbKSQB:=tabSQL_2
end Go.Proofs.YtiglikocfjhkcaaGreatDoor
