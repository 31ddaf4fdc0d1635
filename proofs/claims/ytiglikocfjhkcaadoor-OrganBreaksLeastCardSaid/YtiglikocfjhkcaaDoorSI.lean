/- The laws of what is an organ: the document's mouthFits, the program's Valid. -/
import Derived.Test.YtiglikocfjhkcaaDoorSH
import Derived.Test.YtiglikocfjhkcaaDoorProg
import Derived.KernelRfl
set_option linter.all false
set_option linter.unusedVariables false
set_option linter.unusedSimpArgs false
open Go Go.Abs Go.Proofs
namespace Go.Proofs.YtiglikocfjhkcaaDoor
noncomputable def tbSI_1:=addC 40 (inl Tryd.prog tbSHB cxMd tbKSHB Tryd.f40) tbSHB
noncomputable def tbKSI_1:KT:=addK 40 (inlK Tryd.prog tbSHB cxMd tbKSHB Tryd.f40) tbKSHB
theorem tabSI_1:Tab Tryd.prog tbSI_1 cxMd tbKSI_1:=Tab.addInl tabSHB tabSHB (fn:=Tryd.f40) (by kernel_rfl) (by kernel_rfl) (by kernel_rfl)
noncomputable def tbSI:=tbSI_1
noncomputable def tbKSI:KT:=tbKSI_1
theorem tabSI:Tab Tryd.prog tbSI cxMd tbKSI:=tabSI_1
noncomputable def cx_fits (F:Nat):Cx:={P:=Tryd.prog,C:=tbSI,K:=tbKSI,mode:=cxMd,fuel:=F,live:=liveTab [(8,[1,2,5,8])],pin:=0,nx:=true}
noncomputable def cx_oV (F:Nat):Cx:={P:=Tryd.prog,C:=tbSI,K:=tbKSI,mode:=cxMd,fuel:=F,live:=liveTab [(5,[61,1,60,3,62]),(13,[6,78,77,76,8,1,7])],pin:=0,nx:=true}
def fits_K:CK:=CK.pair KI (CK.pair KI (CK.pair KI (CK.pair KL (CK.pair (CK.slice 50 MoK) KI))))
def fits_sh:List (Option Nat):=[some 5,none]
def fits_R:CK:=CK.bool
def fits_re:List (Option Nat):=[none]
noncomputable def fits_L0r (F n:Nat) (s1 s8 h0_0 h0_1 h0_2:Int) (h0_3:List Int) (h0_4:List Mo) (h1_0 h1_1 h1_2:Int) (h1_3:Bool):Res:=Lp (cx_fits F) (loopBy (loopsOf (cx_fits F) (bodyOf Tryd.f22) (endK (cx_fits F) Tryd.f22)) 8) n {T:=fr 90 [(1,AV.int .i64 s1),(2,AV.ptr 0 0),(5,AV.ptr 1 0),(8,AV.int .i64 s8)],H:=[Blk.cells [AV.int .i64 h0_0,AV.int .i64 h0_1,AV.int .i64 h0_2,AV.ro KI h0_3,AV.ro MoK h0_4],Blk.cells [AV.int .i64 h1_0,AV.int .i64 h1_1,AV.int .i64 h1_2,AV.bool h1_3]],ok:=true}
noncomputable def fits_L0:=Classical.choose (hideE fits_L0r)
theorem fits_L0_def:fits_L0=fits_L0r:=Classical.choose_spec (hideE fits_L0r)
theorem fits_L0_succ (F n:Nat) (s1 s8 h0_0 h0_1 h0_2:Int) (h0_3:List Int) (h0_4:List Mo) (h1_0 h1_1 h1_2:Int) (h1_3:Bool):fits_L0 F (n+1) s1 s8 h0_0 h0_1 h0_2 h0_3 h0_4 h1_0 h1_1 h1_2 h1_3=bif decide (s8<s1) then bif decide (0≤s8)&&decide (s8<(h0_4.length:Int)) then bif decide ((nth (0,0,0,false) h0_4 (Int.toNat s8)).1=h1_0) then bif decide ((nth (0,0,0,false) h0_4 (Int.toNat s8)).2.1=h1_1) then bif decide ((nth (0,0,0,false) h0_4 (Int.toNat s8)).2.2.1=h1_2) then {ok:=true,val:=AV.bool false} else fits_L0 F n s1 (IntKind.wrap .i64 (s8+1)) h0_0 h0_1 h0_2 h0_3 h0_4 h1_0 h1_1 h1_2 h1_3 else fits_L0 F n s1 (IntKind.wrap .i64 (s8+1)) h0_0 h0_1 h0_2 h0_3 h0_4 h1_0 h1_1 h1_2 h1_3 else fits_L0 F n s1 (IntKind.wrap .i64 (s8+1)) h0_0 h0_1 h0_2 h0_3 h0_4 h1_0 h1_1 h1_2 h1_3 else BR else bif !h1_3 then {ok:=true,val:=AV.bool true} else bif decide (0≤IntKind.wrap .i64 (IntKind.wrap .i64 (h1_1*h0_1)+h1_0))&&decide (IntKind.wrap .i64 (IntKind.wrap .i64 (h1_1*h0_1)+h1_0)<(h0_3.length:Int)) then {ok:=true,val:=AV.bool (leadsM (nth 0 h0_3 (Int.toNat (IntKind.wrap .i64 (IntKind.wrap .i64 (h1_1*h0_1)+h1_0))),h1_2))} else BR:=by rewrite [fits_L0_def];kernel_rfl
theorem fits_eq (F:Nat) (a0_0 a0_1 a0_2:Int) (a0_3:List Int) (a0_4:List Mo) (a1:Int):runF (cx_fits F) Tryd.f22 [AV.agg [AV.int .i64 a0_0,AV.int .i64 a0_1,AV.int .i64 a0_2,AV.ro KI a0_3,AV.ro MoK a0_4],AV.int .i64 a1] []=bif decide (0≤a1)&&decide (a1<(a0_4.length:Int)) then bif decide ((nth (0,0,0,false) a0_4 (Int.toNat a1)).2.2.1<0) then {ok:=true,val:=AV.bool false} else bif decide ((nth (0,0,0,false) a0_4 (Int.toNat a1)).2.2.1>3) then {ok:=true,val:=AV.bool false} else bif !rWithinM (a0_0,a0_1,a0_2,a0_3,a0_4,(nth (0,0,0,false) a0_4 (Int.toNat a1)).1,(nth (0,0,0,false) a0_4 (Int.toNat a1)).2.1) then {ok:=true,val:=AV.bool false} else bif outerOk ((nth (0,0,0,false) a0_4 (Int.toNat a1)).1,(nth (0,0,0,false) a0_4 (Int.toNat a1)).2.1,(nth (0,0,0,false) a0_4 (Int.toNat a1)).2.2.1,(nth (0,0,0,false) a0_4 (Int.toNat a1)).2.2.2) then bif rWithinM (a0_0,a0_1,a0_2,a0_3,a0_4,(outerM ((nth (0,0,0,false) a0_4 (Int.toNat a1)).1,(nth (0,0,0,false) a0_4 (Int.toNat a1)).2.1,(nth (0,0,0,false) a0_4 (Int.toNat a1)).2.2.1,(nth (0,0,0,false) a0_4 (Int.toNat a1)).2.2.2)).1,(outerM ((nth (0,0,0,false) a0_4 (Int.toNat a1)).1,(nth (0,0,0,false) a0_4 (Int.toNat a1)).2.1,(nth (0,0,0,false) a0_4 (Int.toNat a1)).2.2.1,(nth (0,0,0,false) a0_4 (Int.toNat a1)).2.2.2)).2) then {ok:=true,val:=AV.bool false} else fits_L0 F F a1 0 a0_0 a0_1 a0_2 a0_3 a0_4 (nth (0,0,0,false) a0_4 (Int.toNat a1)).1 (nth (0,0,0,false) a0_4 (Int.toNat a1)).2.1 (nth (0,0,0,false) a0_4 (Int.toNat a1)).2.2.1 (nth (0,0,0,false) a0_4 (Int.toNat a1)).2.2.2 else BR else BR:=by rewrite [fits_L0_def];kernel_rfl
noncomputable def fits_run (F:Nat) (x:CT fits_K):Res:=runF (cx_fits F) Tryd.f22 (groupA fits_sh (enc fits_K x)) []
theorem fits_arg (F:Nat) (a0_0 a0_1 a0_2:Int) (a0_3:List Int) (a0_4:List Mo) (a1:Int):fits_run F (a0_0,a0_1,a0_2,a0_3,a0_4,a1)=runF (cx_fits F) Tryd.f22 [AV.agg [AV.int .i64 a0_0,AV.int .i64 a0_1,AV.int .i64 a0_2,AV.ro KI a0_3,AV.ro MoK a0_4],AV.int .i64 a1] []:=by kernel_rfl
def oV_K:CK:=CK.pair KI (CK.pair KI (CK.pair KI (CK.pair KL (CK.slice 50 MoK))))
def oV_sh:List (Option Nat):=[some 5]
def oV_R:CK:=CK.int .i64
def oV_re:List (Option Nat):=[none]
noncomputable def oV_L0r (F n:Nat) (s3:Int) (s60:List Int) (s61 s62 h0_0 h0_1 h0_2:Int) (h0_3:List Int) (h0_4:List Mo):Res:=Lp (cx_oV F) (loopBy (loopsOf (cx_oV F) (bodyOf Tryd.f32) (endK (cx_oV F) Tryd.f32)) 5) n {T:=fr 171 [(1,AV.ptr 0 0),(3,AV.int .i64 s3),(60,AV.ro KI s60),(61,AV.int .i64 s61),(62,AV.int .i64 s62)],H:=[Blk.cells [AV.int .i64 h0_0,AV.int .i64 h0_1,AV.int .i64 h0_2,AV.ro KI h0_3,AV.ro MoK h0_4]],ok:=true}
noncomputable def oV_L0:=Classical.choose (hideE oV_L0r)
theorem oV_L0_def:oV_L0=oV_L0r:=Classical.choose_spec (hideE oV_L0r)
noncomputable def oV_L1r (F n:Nat) (s6 s7:Int) (s76:List Mo) (s77 s78 h0_0 h0_1 h0_2:Int) (h0_3:List Int) (h0_4:List Mo) (h1:List ((Int×Int×Int)×Bool)):Res:=Lp (cx_oV F) (loopBy (loopsOf (cx_oV F) (bodyOf Tryd.f32) (endK (cx_oV F) Tryd.f32)) 13) n {T:=fr 171 [(1,AV.ptr 0 0),(6,AV.int .i64 s6),(7,AV.int .i64 s7),(8,AV.mp 1),(76,AV.ro MoK s76),(77,AV.int .i64 s77),(78,AV.int .i64 s78)],H:=[Blk.cells [AV.int .i64 h0_0,AV.int .i64 h0_1,AV.int .i64 h0_2,AV.ro KI h0_3,AV.ro MoK h0_4],Blk.map true false (CK.pair KI (CK.pair KI KI)) CK.bool h1],ok:=true}
noncomputable def oV_L1:=Classical.choose (hideE oV_L1r)
theorem oV_L1_def:oV_L1=oV_L1r:=Classical.choose_spec (hideE oV_L1r)
theorem oV_L0_succ (F n:Nat) (s3:Int) (s60:List Int) (s61 s62 h0_0 h0_1 h0_2:Int) (h0_3:List Int) (h0_4:List Mo):oV_L0 F (n+1) s3 s60 s61 s62 h0_0 h0_1 h0_2 h0_3 h0_4=bif decide (s62<s61) then bif decide (0≤s62)&&decide (s62<(s60.length:Int)) then bif decide (nth 0 s60 (Int.toNat s62)<0) then {ok:=true,val:=AV.int .i64 50} else bif decide (nth 0 s60 (Int.toNat s62)≥s3) then {ok:=true,val:=AV.int .i64 50} else oV_L0 F n s3 s60 s61 (IntKind.wrap .i64 (s62+1)) h0_0 h0_1 h0_2 h0_3 h0_4 else BR else oV_L1 F F 0 0 h0_4 (h0_4.length:Int) 0 h0_0 h0_1 h0_2 h0_3 h0_4 []:=by rewrite [oV_L0_def,oV_L1_def];kernel_rfl
theorem oV_L1_succ (F n:Nat) (s6 s7:Int) (s76:List Mo) (s77 s78 h0_0 h0_1 h0_2:Int) (h0_3:List Int) (h0_4:List Mo) (h1:List ((Int×Int×Int)×Bool)):oV_L1 F (n+1) s6 s7 s76 s77 s78 h0_0 h0_1 h0_2 h0_3 h0_4 h1=bif decide (s78<s77) then bif decide (0≤s78)&&decide (s78<(s76.length:Int)) then bif decide ((nth (0,0,0,false) s76 (Int.toNat s78)).2.2.1<0) then {ok:=true,val:=AV.int .i64 50} else bif decide ((nth (0,0,0,false) s76 (Int.toNat s78)).2.2.1>3) then {ok:=true,val:=AV.int .i64 50} else bif !oWithinM (h0_0,h0_1,h0_2,h0_3,h0_4,(nth (0,0,0,false) s76 (Int.toNat s78)).1,(nth (0,0,0,false) s76 (Int.toNat s78)).2.1) then {ok:=true,val:=AV.int .i64 50} else bif besideOk ((nth (0,0,0,false) s76 (Int.toNat s78)).1,(nth (0,0,0,false) s76 (Int.toNat s78)).2.1,(nth (0,0,0,false) s76 (Int.toNat s78)).2.2.1) then bif oWithinM (h0_0,h0_1,h0_2,h0_3,h0_4,(besideM ((nth (0,0,0,false) s76 (Int.toNat s78)).1,(nth (0,0,0,false) s76 (Int.toNat s78)).2.1,(nth (0,0,0,false) s76 (Int.toNat s78)).2.2.1)).1,(besideM ((nth (0,0,0,false) s76 (Int.toNat s78)).1,(nth (0,0,0,false) s76 (Int.toNat s78)).2.1,(nth (0,0,0,false) s76 (Int.toNat s78)).2.2.1)).2) then {ok:=true,val:=AV.int .i64 50} else bif getM (CK.pair KI (CK.pair KI KI)) false h1 (((nth (0,0,0,false) s76 (Int.toNat s78)).1,(nth (0,0,0,false) s76 (Int.toNat s78)).2.1,(nth (0,0,0,false) s76 (Int.toNat s78)).2.2.1):(Int×(Int×Int))) then {ok:=true,val:=AV.int .i64 50} else bif !(nth (0,0,0,false) s76 (Int.toNat s78)).2.2.2 then oV_L1 F n (IntKind.wrap .i64 (s6+1)) s7 s76 s77 (IntKind.wrap .i64 (s78+1)) h0_0 h0_1 h0_2 h0_3 h0_4 (insM (CK.pair KI (CK.pair KI KI)) h1 (((nth (0,0,0,false) s76 (Int.toNat s78)).1,(nth (0,0,0,false) s76 (Int.toNat s78)).2.1,(nth (0,0,0,false) s76 (Int.toNat s78)).2.2.1):(Int×(Int×Int))) true) else bif decide (0≤IntKind.wrap .i64 (IntKind.wrap .i64 ((nth (0,0,0,false) s76 (Int.toNat s78)).2.1*h0_1)+(nth (0,0,0,false) s76 (Int.toNat s78)).1))&&decide (IntKind.wrap .i64 (IntKind.wrap .i64 ((nth (0,0,0,false) s76 (Int.toNat s78)).2.1*h0_1)+(nth (0,0,0,false) s76 (Int.toNat s78)).1)<(h0_3.length:Int)) then bif !(cIsOrdM (nth 0 h0_3 (Int.toNat (IntKind.wrap .i64 (IntKind.wrap .i64 ((nth (0,0,0,false) s76 (Int.toNat s78)).2.1*h0_1)+(nth (0,0,0,false) s76 (Int.toNat s78)).1))))).2.2 then {ok:=true,val:=AV.int .i64 50} else bif (cIsOrdM (nth 0 h0_3 (Int.toNat (IntKind.wrap .i64 (IntKind.wrap .i64 ((nth (0,0,0,false) s76 (Int.toNat s78)).2.1*h0_1)+(nth (0,0,0,false) s76 (Int.toNat s78)).1))))).1 !=(nth (0,0,0,false) s76 (Int.toNat s78)).2.2.1 then {ok:=true,val:=AV.int .i64 50} else oV_L1 F n s6 (IntKind.wrap .i64 (s7+1)) s76 s77 (IntKind.wrap .i64 (s78+1)) h0_0 h0_1 h0_2 h0_3 h0_4 (insM (CK.pair KI (CK.pair KI KI)) h1 (((nth (0,0,0,false) s76 (Int.toNat s78)).1,(nth (0,0,0,false) s76 (Int.toNat s78)).2.1,(nth (0,0,0,false) s76 (Int.toNat s78)).2.2.1):(Int×(Int×Int))) true) else BR else BR else BR else bif decide (s6>4) then {ok:=true,val:=AV.int .i64 50} else bif decide (s7>4) then {ok:=true,val:=AV.int .i64 50} else {ok:=true,val:=AV.int .i64 0}:=by rewrite [oV_L1_def];kernel_rfl
theorem oV_eq (F:Nat) (a0_0 a0_1 a0_2:Int) (a0_3:List Int) (a0_4:List Mo):runF (cx_oV F) Tryd.f32 [AV.agg [AV.int .i64 a0_0,AV.int .i64 a0_1,AV.int .i64 a0_2,AV.ro KI a0_3,AV.ro MoK a0_4]] []=bif a0_0 !=0 then bif a0_0 !=1 then {ok:=true,val:=AV.int .i64 50} else bif decide (a0_1<1) then {ok:=true,val:=AV.int .i64 50} else bif decide (a0_1>24) then {ok:=true,val:=AV.int .i64 50} else bif decide (a0_2<1) then {ok:=true,val:=AV.int .i64 50} else bif decide (a0_2>24) then {ok:=true,val:=AV.int .i64 50} else bif (a0_3.length:Int) !=IntKind.wrap .i64 (a0_1*a0_2) then {ok:=true,val:=AV.int .i64 50} else bif checkOk (a0_0,[]) then bif checkM (a0_0,[]) !=0 then oV_L0 F F 0 a0_3 (a0_3.length:Int) 0 a0_0 a0_1 a0_2 a0_3 a0_4 else bif decide (a0_0=0) then oV_L0 F F 29 a0_3 (a0_3.length:Int) 0 a0_0 a0_1 a0_2 a0_3 a0_4 else bif decide (a0_0=1) then oV_L0 F F 32 a0_3 (a0_3.length:Int) 0 a0_0 a0_1 a0_2 a0_3 a0_4 else bif decide (a0_0=3) then oV_L0 F F 256 a0_3 (a0_3.length:Int) 0 a0_0 a0_1 a0_2 a0_3 a0_4 else oV_L0 F F 8388608 a0_3 (a0_3.length:Int) 0 a0_0 a0_1 a0_2 a0_3 a0_4 else BR else bif decide (a0_1<1) then {ok:=true,val:=AV.int .i64 50} else bif decide (a0_1>24) then {ok:=true,val:=AV.int .i64 50} else bif decide (a0_2<1) then {ok:=true,val:=AV.int .i64 50} else bif decide (a0_2>24) then {ok:=true,val:=AV.int .i64 50} else bif (a0_3.length:Int) !=IntKind.wrap .i64 (a0_1*a0_2) then {ok:=true,val:=AV.int .i64 50} else bif checkOk (a0_0,[]) then bif checkM (a0_0,[]) !=0 then oV_L0 F F 0 a0_3 (a0_3.length:Int) 0 a0_0 a0_1 a0_2 a0_3 a0_4 else bif decide (a0_0=0) then oV_L0 F F 29 a0_3 (a0_3.length:Int) 0 a0_0 a0_1 a0_2 a0_3 a0_4 else bif decide (a0_0=1) then oV_L0 F F 32 a0_3 (a0_3.length:Int) 0 a0_0 a0_1 a0_2 a0_3 a0_4 else bif decide (a0_0=3) then oV_L0 F F 256 a0_3 (a0_3.length:Int) 0 a0_0 a0_1 a0_2 a0_3 a0_4 else oV_L0 F F 8388608 a0_3 (a0_3.length:Int) 0 a0_0 a0_1 a0_2 a0_3 a0_4 else BR:=by rewrite [oV_L0_def];kernel_rfl
noncomputable def oV_run (F:Nat) (x:CT oV_K):Res:=runF (cx_oV F) Tryd.f32 (groupA oV_sh (enc oV_K x)) []
theorem oV_arg (F:Nat) (a0_0 a0_1 a0_2:Int) (a0_3:List Int) (a0_4:List Mo):oV_run F (a0_0,a0_1,a0_2,a0_3,a0_4)=runF (cx_oV F) Tryd.f32 [AV.agg [AV.int .i64 a0_0,AV.int .i64 a0_1,AV.int .i64 a0_2,AV.ro KI a0_3,AV.ro MoK a0_4]] []:=by kernel_rfl
def sameM (a b:Mo):Bool:=decide (a.1=b.1)&&(decide (a.2.1=b.2.1)&&decide (a.2.2.1=b.2.2.1))
def mouthP (kind w h:Int) (cells:List Int) (ms:List Mo) (m:Mo):Bool:=
 decide (0≤m.2.2.1∧m.2.2.1<4)&&(withinM (kind,w,h,cells,ms,m.1,m.2.1)&& !withinM (kind,w,h,cells,ms,(besideM (m.1,m.2.1,m.2.2.1)).1,(besideM (m.1,m.2.1,m.2.2.1)).2))
def mouthL (w:Int) (cells:List Int) (m:Mo):Bool:= !m.2.2.2||leadsM (nth 0 cells (m.2.1*w+m.1).toNat,m.2.2.1)
def fitB (kind w h:Int) (cells:List Int) (ms pre:List Mo) (m:Mo):Bool:=mouthP kind w h cells ms m&&(!(pre.any fun n=>sameM n m)&&mouthL w cells m)
theorem idx_ok {w h x y len:Int} (hw:1≤w∧w≤24) (hh:1≤h∧h≤24) (hl:len=w*h) (hx:0≤x∧x<w) (hy:0≤y∧y<h):0≤y*w∧y*w≤600∧0≤y*w+x∧y*w+x<len:=by
 have h1:0≤y*w:=Int.mul_nonneg hy.1 (by omega)
 have h2:y*w≤(h-1)*w:=Int.mul_le_mul_of_nonneg_right (by omega) (by omega)
 have h3:(h-1)*w≤23*w:=Int.mul_le_mul_of_nonneg_right (by omega) (by omega)
 have h4:(h-1)*w=w*h-w:=by rw[Int.sub_mul,Int.mul_comm];omega
 omega
theorem fits_L0_spec (F:Nat) (kind w h:Int) (cells:List Int) (ms:List Mo) (x y d:Int) (o:Bool) (i:Nat) (hlen:ms.length<9223372036854775807) (hi:i≤ms.length) (h0:0≤y*w) (h1:y*w≤600) (hx:0≤x∧x≤100) (hc:y*w+x<cells.length):∀(k n j:Nat),j+k=i→k<n→
  fits_L0 F n i j kind w h cells ms x y d o=⟨true, .bool (!(((ms.drop j).take k).any fun n=>sameM n (x,y,d,o))&&mouthL w cells (x,y,d,o)),[]⟩
 |k,0,j,_,hk=>by omega
 |0,n+1,j,hj,_=>by
  rw[fits_L0_succ,wrap_id (n:=y*w) (by omega) (by omega),wrap_id (n:=y*w+x) (by omega) (by omega)]
  simp only[show ¬((j:Int)<i) by omega,hc,show 0≤y*w+x by omega,decide_true,decide_false,cond_false,cond_true,Bool.and_self,List.take_zero,List.any_nil,Bool.not_false,Bool.true_and,mouthL]
  cases o<;>simp
 |k+1,n+1,j,hj,hk=>by
  have ih:=fits_L0_spec F kind w h cells ms x y d o i hlen hi h0 h1 hx hc k n (j+1) (by omega) (by omega)
  rw[fits_L0_succ,wrap_succ (by omega),ih,drop_nth (0,0,0,false) ms (show j<ms.length by omega),List.take_succ_cons,List.any_cons,Int.toNat_natCast]
  rcases hm:nth (0,0,0,false) ms j with ⟨b1,b2,b3,b4⟩
  simp only[show ((j:Int)<i) by omega,show ((j:Int)<ms.length) by omega,show (0:Int)≤j by omega,decide_true,cond_true,Bool.and_self,sameM]
  by_cases a1:b1=x<;>by_cases a2:b2=y<;>by_cases a3:b3=d<;>simp[a1,a2,a3]
def fitsOk:Int×Int×Int×List Int×List Mo×Int→Bool:=fun (_,w,h,cells,ms,i)=>decide (1≤w∧w≤24∧1≤h∧h≤24∧(cells.length:Int)=w*h∧0≤i∧i<ms.length∧ms.length<9223372036854775807)
def fitsM:Int×Int×Int×List Int×List Mo×Int→Bool:=fun (kind,w,h,cells,ms,i)=>fitB kind w h cells ms (ms.take i.toNat) (nth (0,0,0,false) ms i.toNat)
def fitsFu:Int×Int×Int×List Int×List Mo×Int→Nat:=fun (_,_,_,_,ms,_)=>ms.length+1
theorem fits_ret (z:Int×Int×Int×List Int×List Mo×Int) (hk:fitsOk z=true):Ret fits_re fits_R (fits_run (fitsFu z) z) (fitsM z):=by
 obtain ⟨kind,w,h,cells,ms,i⟩:=z
 simp only[fitsOk,decide_eq_true_eq] at hk
 obtain ⟨k1,k2,k3,k4,k5,k6,k7,k8⟩:=hk
 refine Ret.of ((fits_arg ..).trans ((fits_eq ..).trans ?_)) (Ret.bool _)
 rw[show fitsFu (kind,w,h,cells,ms,i)=ms.length+1 from rfl]
 obtain ⟨p,rfl⟩:∃p:Nat,i=p:=⟨i.toNat,by omega⟩
 simp only[fitsM,fitB]
 rw[Int.toNat_natCast]
 have hm:∀x y d o,nth (0,0,0,false) ms p=(x,y,d,o)→0≤x∧x<w→0≤y∧y<h→_:=fun x y d o hxy hx hy=>
  fits_L0_spec (ms.length+1) kind w h cells ms x y d o p k8 (by omega) (idx_ok ⟨k1,k2⟩ ⟨k3,k4⟩ k5 hx hy).1 (idx_ok ⟨k1,k2⟩ ⟨k3,k4⟩ k5 hx hy).2.1 ⟨hx.1,by omega⟩ (idx_ok ⟨k1,k2⟩ ⟨k3,k4⟩ k5 hx hy).2.2.2 p (ms.length+1) 0 (by omega) (by omega)
 rcases hmm:nth (0,0,0,false) ms p with ⟨x,y,d,o⟩
 simp only[k6,k7,decide_true,Bool.and_self,cond_true,outerM,mouthP,rWithinM]
 by_cases c1:d<0
 ·simp[c1,show ¬(0≤d) by omega]
 ·by_cases c2:d>3
  ·simp[c1,c2,show ¬(d<4) by omega]
  ·have c3:0≤d∧d<4:=by omega
   simp only[c1,c2,c3,decide_false,decide_true,cond_false,cond_true,outerOk,and_self,Bool.true_and]
   cases hw:withinM (kind,w,h,cells,ms,x,y) with
   |false=>simp
   |true=>
    have hwd:0≤x∧x<w∧0≤y∧y<h:=by simpa [withinM] using hw
    have:=hm x y d o hmm ⟨hwd.1,hwd.2.1⟩ ⟨hwd.2.2.1,hwd.2.2.2⟩
    rw[show ((0:Nat):Int)=0 from rfl] at this
    rw[this]
    cases withinM (kind,w,h,cells,ms,(besideM (x,y,d)).1,(besideM (x,y,d)).2)<;>simp
end Go.Proofs.YtiglikocfjhkcaaDoor
namespace Go.Abs
theorem getM_insM {V:Type} (kk:CK) (hk:keyC kk=true) (d:V):∀(m:List (CT kk×V)) (k:CT kk) (v:V) (k':CT kk),getM kk d (insM kk m k v) k'=bif eqK kk k' k then v else getM kk d m k'
 |[],k,v,k'=>rfl
 | p ::m,k,v,k'=>by
  have ih:=getM_insM kk hk d m k v k'
  cases h:eqK kk k p.1 with
  |true=>
   have e:=(eqK_spec kk k p.1 hk).1 h
   simp only[insM,h,cond_true,getM]
   have e2:eqK kk k' k=eqK kk k' p.1:=by rw[e]
   rw[e2]
   cases eqK kk k' p.1<;>simp
  | false=>
   simp only[insM,h,cond_false,getM,ih]
   cases h1:eqK kk k' p.1 with
   |false=>simp
   | true=>
    cases h2:eqK kk k' k with
    |false=>simp
    |true=>
     have e1:=(eqK_spec kk k' p.1 hk).1 h1
     have e2:=(eqK_spec kk k' k hk).1 h2
     have:=(eqK_spec kk k p.1 hk).2 (e2.symm.trans e1)
     rw[this] at h
     cases h
end Go.Abs
namespace Go.Proofs.YtiglikocfjhkcaaDoor
abbrev K3:CK:= .pair (.int .i64) (.pair (.int .i64) (.int .i64))
def Sn (seen:List ((Int×Int×Int)×Bool)) (pre:List Mo):Prop:=∀a b c:Int,getM K3 false seen ((a,b,c):Int×Int×Int)=pre.any fun n=>sameM n (a,b,c,true)
theorem Sn.nil:Sn [] []:=fun _ _ _=>rfl
theorem eqK3 (a b c a' b' c':Int):eqK K3 ((a,b,c):Int×Int×Int) ((a',b',c'):Int×Int×Int)=(decide (a=a')&&(decide (b=b')&&decide (c=c'))):=rfl
theorem Sn.step {seen:List ((Int×Int×Int)×Bool)} {pre:List Mo} (h:Sn seen pre) (x y d:Int) (o:Bool):Sn (insM K3 seen ((x,y,d):Int×Int×Int) true) (pre++[(x,y,d,o)]):=fun a b c=>by
 have e:=getM_insM (V:=Bool) K3 rfl false seen ((x,y,d):Int×Int×Int) true ((a,b,c):Int×Int×Int)
 refine e.trans ?_
 rw[eqK3,List.any_append,←h a b c]
 simp only[List.any_cons,List.any_nil,Bool.or_false,sameM]
 rw[show decide (x=a)=decide (a=x) from decide_eq_decide.2 eq_comm,show decide (y=b)=decide (b=y) from decide_eq_decide.2 eq_comm,show decide (d=c)=decide (c=d) from decide_eq_decide.2 eq_comm]
 cases (decide (a=x)&&(decide (b=y)&&decide (c=d)))<;>cases getM K3 false seen ((a,b,c):Int×Int×Int)<;>rfl
def fitsAll (kind w h:Int) (cells:List Int) (ms:List Mo):List Mo→List Mo→Bool
 |_,[]=>true
 |pre,m::l=>fitB kind w h cells ms pre m&&fitsAll kind w h cells ms (pre++[m]) l
theorem oV_L1_spec (F:Nat) (kind w h:Int) (cells:List Int) (ms:List Mo) (hlen:ms.length<9223372036854775807) (hw:1≤w∧w≤24) (hh:1≤h∧h≤24) (hc:(cells.length:Int)=w*h):∀(k n i ins outs:Nat) (seen:List ((Int×Int×Int)×Bool)),
  i+k=ms.length→k<n→Sn seen (ms.take i)→ins+outs≤i→
  oV_L1 F n ins outs ms ms.length i kind w h cells ms seen=⟨true, .int .i64 (bif fitsAll kind w h cells ms (ms.take i) (ms.drop i)&&decide (ins+cntI (ms.drop i)≤4∧outs+cntO (ms.drop i)≤4) then 0 else 50),[]⟩
 |k,0,i,ins,outs,seen,_,hk,_,_=>by omega
 |0,n+1,i,ins,outs,seen,hi,_,hs,hio=>by
  rw[oV_L1_succ,drop_len ms (by omega)]
  simp only[show ¬((i:Int)<ms.length) by omega,decide_false,cond_false,fitsAll,cntI,cntO,Nat.add_zero,Bool.true_and]
  by_cases a1:ins≤4<;>by_cases a2:outs≤4
  ·simp[a1,a2,show ¬((ins:Int)>4) by omega,show ¬((outs:Int)>4) by omega]
  ·simp[a1,a2,show ¬((ins:Int)>4) by omega,show ((outs:Int)>4) by omega]
  ·simp[a1,a2,show ((ins:Int)>4) by omega]
  ·simp[a1,a2,show ((ins:Int)>4) by omega]
 | k + 1, n+1,i,ins,outs,seen,hi,hk,hs,hio=>by
  rw[oV_L1_succ,wrap_succ (i:=i) (by omega),wrap_succ (i:=ins) (by omega),wrap_succ (i:=outs) (by omega),drop_nth (0,0,0,false) ms (show i<ms.length by omega),Int.toNat_natCast]
  have ht:=take_nth (0,0,0,false) ms (show i<ms.length by omega)
  rcases hm:nth (0,0,0,false) ms i with ⟨x,y,d,o⟩
  rw[hm] at ht
  have hs':=hs.step x y d o
  rw[←ht] at hs'
  have ih1:=oV_L1_spec F kind w h cells ms hlen hw hh hc k n (i+1) (ins+1) outs _ (by omega) (by omega) hs' (by omega)
  have ih2:=oV_L1_spec F kind w h cells ms hlen hw hh hc k n (i+1) ins (outs+1) _ (by omega) (by omega) hs' (by omega)
  rw[ht] at ih1 ih2
  have hsn:=hs x y d
  have hsame:∀n:Mo,sameM n (x,y,d,o)=sameM n (x,y,d,true):=fun _=>rfl
  simp only[show ((i:Int)<ms.length) by omega,show (0:Int)≤i by omega,decide_true,cond_true,Bool.and_self,besideOk,fitsAll,fitB,mouthP,hsame,oWithinM]
  by_cases c1:d<0
  ·simp[c1,show ¬(0≤d) by omega]
  ·by_cases c2:d>3
   ·simp[c1,c2,show ¬(d<4) by omega]
   ·have c3:0≤d∧d<4:=by omega
    simp only[c1,c2,c3,decide_false,decide_true,cond_false,cond_true,and_self,Bool.true_and]
    cases hwi:withinM (kind,w,h,cells,ms,x,y) with
    |false=>simp
    | true=>
     have hwd:0≤x∧x<w∧0≤y∧y<h:=by simpa [withinM] using hwi
     obtain ⟨q1,q2,q3,q4⟩:=idx_ok hw hh hc ⟨hwd.1,hwd.2.1⟩ ⟨hwd.2.2.1,hwd.2.2.2⟩
     cases withinM (kind,w,h,cells,ms,(besideM (x,y,d)).1,(besideM (x,y,d)).2) with
     |true=>simp
     | false=>
      have hsn':getM (CK.pair KI (CK.pair KI KI)) false seen ((x,y,d):Int×Int×Int)=(ms.take i).any fun n=>sameM n (x,y,d,true):=hsn
      simp only[Bool.not_true,Bool.not_false,cond_false,Bool.true_and]
      rw[hsn']
      cases (ms.take i).any fun n=>sameM n (x,y,d,true) with
      |true=>simp
      | false=>
       simp only[cond_false,Bool.not_false,Bool.true_and]
       rw[wrap_id (n:=y*w) (by omega) (by omega),wrap_id (n:=y*w+x) (by omega) (by omega)]
       cases o with
       |false=>
        simp only[Bool.not_false,cond_true,mouthL,Bool.true_or,Bool.true_and,cntI,cntO,cond_false]
        refine Eq.trans (?_:_=_) (ih1.trans ?_)
        ·rfl
        ·rw[show ins+1+cntI (ms.drop (i+1))=ins+(1+cntI (ms.drop (i+1))) by omega];simp
       | true=>
        simp only[Bool.not_true,cond_false,mouthL,Bool.false_or,q3,q4,decide_true,Bool.and_self,cond_true,cntI,cntO]
        generalize nth 0 cells (y*w+x).toNat=s
        simp only[cIsOrd_isOrd]
        simp only[isOrdM,leadsM]
        by_cases g1:9≤s∧s<17
        ·simp only[g1,and_self,true_and,decide_true,cond_true,Bool.not_true,cond_false,beq_ne]
         by_cases g2:Int.tmod (s-9) 4=d
         ·simp only[g2,decide_true,Bool.not_true,cond_false,Bool.true_and]
          refine Eq.trans (?_:_=_) (ih2.trans ?_)
          ·rfl
          ·rw[show outs+1+cntO (ms.drop (i+1))=outs+(1+cntO (ms.drop (i+1))) by omega];simp
         ·simp[g2]
        ·have:¬(9≤s∧s<17∧Int.tmod (s-9) 4=d):=fun h=>g1 ⟨h.1,h.2.1⟩
         simp[g1,this]
def cellOk (st c:Int):Bool:=decide (0≤c)&&decide (c<st)
theorem oV_L0_spec (F:Nat) (st kind w h:Int) (cells:List Int) (ms:List Mo) (hx:cells.length<9223372036854775807):∀(k n i:Nat),i+k=cells.length→k<n→
  oV_L0 F n st cells cells.length i kind w h cells ms=bif (cells.drop i).all (cellOk st) then oV_L1 F F 0 0 ms ms.length 0 kind w h cells ms [] else ⟨true, .int .i64 50,[]⟩
 |k,0,i,_,h=>by omega
 |0,n+1,i,hi,_=>by
  rw[oV_L0_succ,drop_len cells (by omega)]
  simp[show ¬((i:Int)<cells.length) by omega]
 | k+1,n+1,i,hi,hn=>by
  have ih:=oV_L0_spec F st kind w h cells ms hx k n (i+1) (by omega) (by omega)
  rw[oV_L0_succ,wrap_succ (by omega),ih,drop_nth 0 cells (show i<cells.length by omega),Int.toNat_natCast]
  simp only[show (i:Int)<cells.length by omega,show (0:Int)≤i by omega,decide_true,Bool.and_self,cond_true,List.all_cons,cellOk]
  by_cases c1:nth 0 cells i<0
  ·simp[c1,show ¬0≤nth 0 cells i by omega]
  ·by_cases c2:nth 0 cells i≥st
   ·simp[c1,c2,show ¬nth 0 cells i<st by omega]
   ·simp[c1,c2,show 0≤nth 0 cells i by omega,show nth 0 cells i<st by omega]
def shapeB (kind w h:Int) (cells:List Int):Bool:=decide (kind=0∨kind=1)&&decide (1≤w∧w≤24∧1≤h∧h≤24∧(cells.length:Int)=w*h)
def organOk:Int×Int×Int×List Int×List Mo→Bool:=fun (_,_,_,cells,ms)=>decide (cells.length<9223372036854775807∧ms.length<9223372036854775807)
def organB (kind w h:Int) (cells:List Int) (ms:List Mo):Bool:=
 shapeB kind w h cells&&(cells.all (cellOk (rStatesM kind))&&(fitsAll kind w h cells ms [] ms&&decide (cntI ms≤4∧cntO ms≤4)))
def organM:Int×Int×Int×List Int×List Mo→Int:=fun (kind,w,h,cells,ms)=>bif organB kind w h cells ms then 0 else 50
def oVOk:Organ→Bool:=organOk
abbrev oVM:Organ→Int:=organM
def oVFu:Organ→Nat:=fun (_,_,_,cells,ms)=>cells.length+ms.length+1
theorem oV_ret (z:Organ) (hk:oVOk z=true):Ret oV_re oV_R (oV_run (oVFu z) z) (oVM z):=by
 obtain ⟨kind,w,h,cells,ms⟩:=z
 simp only[oVOk,organOk,decide_eq_true_eq] at hk
 refine Ret.of ((oV_arg ..).trans ((oV_eq ..).trans ?_)) (Ret.int _ _)
 rw[show oVFu (kind,w,h,cells,ms)=cells.length+ms.length+1 from rfl]
 have l0:∀st:Int,(1≤w∧w≤24)→(1≤h∧h≤24)→(cells.length:Int)=w*h→oV_L0 (cells.length+ms.length+1) (cells.length+ms.length+1) st cells cells.length 0 kind w h cells ms=
   ⟨true, .int .i64 (bif cells.all (cellOk st)&&(fitsAll kind w h cells ms [] ms&&decide (cntI ms≤4∧cntO ms≤4)) then 0 else 50),[]⟩:=fun st hw hh hc=>by
  have a0:=oV_L0_spec (cells.length+ms.length+1) st kind w h cells ms hk.1 cells.length (cells.length+ms.length+1) 0 (by omega) (by omega)
  have a1:=oV_L1_spec (cells.length+ms.length+1) kind w h cells ms hk.2 hw hh hc ms.length (cells.length+ms.length+1) 0 0 0 [] (by omega) (by omega) (by rw[List.take_zero];exact Sn.nil) (by omega)
  rw[List.take_zero,List.drop_zero,Nat.zero_add,Nat.zero_add] at a1
  rw[List.drop_zero] at a0
  refine Eq.trans (?_:_=_) (a0.trans ?_)
  ·rfl
  ·cases cells.all (cellOk st) with
   |false=>simp
   |true=>
    simp only[cond_true,Bool.true_and]
    exact a1
 simp only[organM,organB,shapeB,beq_ne]
 by_cases c1:w<1
 ·simp[c1,show ¬(1≤w) by omega]
 ·by_cases c2:w>24
  ·simp[c1,c2,show ¬(w≤24) by omega]
  ·by_cases c3:h<1
   ·simp[c1,c2,c3,show ¬(1≤h) by omega]
   ·by_cases c4:h>24
    ·simp[c1,c2,c3,c4,show ¬(h≤24) by omega]
    ·have g1:0≤w*h:=Int.mul_nonneg (by omega) (by omega)
     have g2:w*h≤24*h:=Int.mul_le_mul_of_nonneg_right (by omega) (by omega)
     rw[wrap_id (n:=w*h) (by omega) (by omega)]
     have d1:1≤w∧w≤24:=by omega
     have d2:1≤h∧h≤24:=by omega
     by_cases c5:(cells.length:Int)=w*h
     ·have m0:=l0 29 d1 d2 c5
      have m1:=l0 32 d1 d2 c5
      by_cases k0:kind=0
      ·subst k0
       simp only[c1,c2,c3,c4,c5,d1.1,d1.2,d2.1,d2.2,decide_true,decide_false,cond_true,cond_false,Bool.not_true,Bool.not_false,and_self,true_or,checkOk,checkM,rStatesM,Bool.true_and]
       rw[c5] at m0
       exact m0
      ·by_cases k1:kind=1
       ·subst k1
        simp only[c1,c2,c3,c4,c5,d1.1,d1.2,d2.1,d2.2,decide_true,decide_false,cond_true,cond_false,Bool.not_true,Bool.not_false,and_self,or_true,checkOk,checkM,rStatesM,Bool.true_and,show ¬(1:Int)=0 by omega]
        rw[c5] at m1
        exact m1
       ·simp[k0,k1]
     ·simp[c1,c2,c3,c4,c5]
noncomputable def tbSIL_1:=addC 22 (tspec fits_sh fits_K fits_re fits_R fitsOk fitsM) tbSI
theorem tabSIL_1:Tab Tryd.prog tbSIL_1 cxMd tbKSI:=Tab.addTy (os:=[]) tabSI tabSI (KK:=fits_K) (R:=fits_R) (fn:=Tryd.f22) (by kernel_rfl) (by kernel_rfl) (by kernel_rfl) (by kernel_rfl) _ fitsFu fits_ret
noncomputable def tbSIL_2:=addC 32 (tspec oV_sh oV_K oV_re oV_R oVOk oVM) tbSIL_1
theorem tabSIL_2:Tab Tryd.prog tbSIL_2 cxMd tbKSI:=Tab.addTy (os:=[]) tabSIL_1 tabSI (KK:=oV_K) (R:=oV_R) (fn:=Tryd.f32) (by kernel_rfl) (by kernel_rfl) (by kernel_rfl) (by kernel_rfl) _ oVFu oV_ret
noncomputable def tbSIB:=tbSIL_2
noncomputable def tbKSIB:KT:=tbKSI
theorem tabSIB:Tab Tryd.prog tbSIB cxMd tbKSIB:=tabSIL_2
end Go.Proofs.YtiglikocfjhkcaaDoor
