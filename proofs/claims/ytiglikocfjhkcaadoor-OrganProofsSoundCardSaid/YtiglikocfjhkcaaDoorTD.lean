/- Check, of both. -/
import Derived.Test.YtiglikocfjhkcaaDoorTB
import Derived.Test.YtiglikocfjhkcaaDoorProg
import Derived.KernelRfl
import Derived.Test.YtiglikocfjhkcaaDoorTCL
set_option linter.all false
set_option linter.unusedVariables false
set_option linter.unusedSimpArgs false
open Go Go.Abs Go.Proofs
namespace Go.Proofs.YtiglikocfjhkcaaDoor
noncomputable def tbTD:=tbTBB
noncomputable def tbKTD:KT:=tbKTBB
theorem tabTD:Tab Tryd.prog tbTD cxMd tbKTD:=tabTBB
noncomputable def cx_oCk (F:Nat):Cx:={P:=Tryd.prog,C:=tbTD,K:=tbKTD,mode:=cxMd,fuel:=F,live:=liveTab [(8,[34,33,2,10,32,3,4,11]),(14,[10,4,11,48,47,2,46,3]),(19,[79,78,3,46,2,47,48,77,14,11,15,4,10])],pin:=0,nx:=true}
def oCk_K:CK:=CK.pair KI (CK.pair KI (CK.pair KI (CK.pair KL (CK.pair (CK.slice 50 MoK) (CK.pair KI (CK.pair KI (CK.pair KI (CK.pair (CK.slice 22 KL) (CK.pair (CK.slice 22 KL) (CK.pair (CK.slice 51 (CK.slice 4 CK.bool)) (CK.slice 59 (CK.pair KL (CK.pair KI KL)))))))))))))
def oCk_sh:List (Option Nat):=[some 5,some 6,none]
def oCk_R:CK:=CK.pair CK.bool (CK.pair KI KI)
def oCk_re:List (Option Nat):=[none,none,none]
noncomputable def oCk_L0r (F n:Nat) (s2 s32:List (List Int×Int×List Int)) (s33 s34 h0_0 h0_1 h0_2:Int) (h0_3:List Int) (h0_4:List Mo) (h1_0 h1_1 h1_2:Int) (h1_3 h1_4:List (List Int)) (h1_5:List (List Bool)) (h2_0 h2_1 h2_2:Int) (h2_3:List Int) (h2_4:List Mo) (h2_5 h2_7:Int) (h3:List ((List UInt8×List UInt8×Int)×Bool)) (h4:List ((Int×Int×Int)×Int)):Res:=Lp (cx_oCk F) (loopBy (loopsOf (cx_oCk F) (bodyOf Tryd.f12) (endK (cx_oCk F) Tryd.f12)) 8) n {T:=fr 111 [(2,AV.ro (CK.pair KL (CK.pair KI KL)) s2),(3,AV.ptr 0 0),(4,AV.ptr 1 0),(10,AV.ptr 2 0),(11,AV.mp 3),(32,AV.ro (CK.pair KL (CK.pair KI KL)) s32),(33,AV.int .i64 s33),(34,AV.int .i64 s34)],H:=[Blk.cells [AV.int .i64 h0_0,AV.int .i64 h0_1,AV.int .i64 h0_2,AV.ro KI h0_3,AV.ro MoK h0_4],Blk.cells [AV.int .i64 h1_0,AV.int .i64 h1_1,AV.int .i64 h1_2,AV.ro KL h1_3,AV.ro KL h1_4,AV.ro (CK.slice 4 CK.bool) h1_5],Blk.cells [AV.int .i64 h2_0,AV.int .i64 h2_1,AV.int .i64 h2_2,AV.ro KI h2_3,AV.ro MoK h2_4,AV.int .i64 h2_5,AV.nils,AV.int .i64 h2_7,AV.mp 4],Blk.map true false (CK.pair CK.str (CK.pair CK.str KI)) CK.bool h3,Blk.map true false (CK.pair KI (CK.pair KI KI)) KI h4],ok:=true}
noncomputable def oCk_L0:=Classical.choose (hideE oCk_L0r)
theorem oCk_L0_def:oCk_L0=oCk_L0r:=Classical.choose_spec (hideE oCk_L0r)
noncomputable def oCk_L1r (F n:Nat) (s2 s46:List (List Int×Int×List Int)) (s47 s48 h0_0 h0_1 h0_2:Int) (h0_3:List Int) (h0_4:List Mo) (h1_0 h1_1 h1_2:Int) (h1_3 h1_4:List (List Int)) (h1_5:List (List Bool)) (h2_0 h2_1 h2_2:Int) (h2_3:List Int) (h2_4:List Mo) (h2_5 h2_7:Int) (h3:List ((List UInt8×List UInt8×Int)×Bool)) (h4:List ((Int×Int×Int)×Int)):Res:=Lp (cx_oCk F) (loopBy (loopsOf (cx_oCk F) (bodyOf Tryd.f12) (endK (cx_oCk F) Tryd.f12)) 14) n {T:=fr 111 [(2,AV.ro (CK.pair KL (CK.pair KI KL)) s2),(3,AV.ptr 0 0),(4,AV.ptr 1 0),(10,AV.ptr 2 0),(11,AV.mp 3),(46,AV.ro (CK.pair KL (CK.pair KI KL)) s46),(47,AV.int .i64 s47),(48,AV.int .i64 s48)],H:=[Blk.cells [AV.int .i64 h0_0,AV.int .i64 h0_1,AV.int .i64 h0_2,AV.ro KI h0_3,AV.ro MoK h0_4],Blk.cells [AV.int .i64 h1_0,AV.int .i64 h1_1,AV.int .i64 h1_2,AV.ro KL h1_3,AV.ro KL h1_4,AV.ro (CK.slice 4 CK.bool) h1_5],Blk.cells [AV.int .i64 h2_0,AV.int .i64 h2_1,AV.int .i64 h2_2,AV.ro KI h2_3,AV.ro MoK h2_4,AV.int .i64 h2_5,AV.nils,AV.int .i64 h2_7,AV.mp 4],Blk.map true false (CK.pair CK.str (CK.pair CK.str KI)) CK.bool h3,Blk.map true false (CK.pair KI (CK.pair KI KI)) KI h4],ok:=true}
noncomputable def oCk_L1:=Classical.choose (hideE oCk_L1r)
theorem oCk_L1_def:oCk_L1=oCk_L1r:=Classical.choose_spec (hideE oCk_L1r)
noncomputable def oCk_L2r (F m0 n:Nat) (s2:List (List Int×Int×List Int)) (s14:Int) (s46:List (List Int×Int×List Int)) (s47 s48:Int) (s77:List Bool) (s78 s79 h0_0 h0_1 h0_2:Int) (h0_3:List Int) (h0_4:List Mo) (h1_0 h1_1 h1_2:Int) (h1_3 h1_4:List (List Int)) (h1_5:List (List Bool)) (h2_0 h2_1 h2_2:Int) (h2_3:List Int) (h2_4:List Mo) (h2_5 h2_7:Int) (h3:List ((List UInt8×List UInt8×Int)×Bool)) (h4_0:List Int) (h4_1:Int) (h4_2:List Int) (h5:List ((Int×Int×Int)×Int)):Res:=Lp (cx_oCk F) (loopBy (innersOf (cx_oCk F) (loopBy (loopsOf (cx_oCk F) (bodyOf Tryd.f12) (endK (cx_oCk F) Tryd.f12)) 14) m0) 19) n {T:=fr 111 [(2,AV.ro (CK.pair KL (CK.pair KI KL)) s2),(3,AV.ptr 0 0),(4,AV.ptr 1 0),(10,AV.ptr 2 0),(11,AV.mp 3),(14,AV.int .i64 s14),(15,AV.ptr 4 0),(46,AV.ro (CK.pair KL (CK.pair KI KL)) s46),(47,AV.int .i64 s47),(48,AV.int .i64 s48),(77,AV.ro CK.bool s77),(78,AV.int .i64 s78),(79,AV.int .i64 s79)],H:=[Blk.cells [AV.int .i64 h0_0,AV.int .i64 h0_1,AV.int .i64 h0_2,AV.ro KI h0_3,AV.ro MoK h0_4],Blk.cells [AV.int .i64 h1_0,AV.int .i64 h1_1,AV.int .i64 h1_2,AV.ro KL h1_3,AV.ro KL h1_4,AV.ro (CK.slice 4 CK.bool) h1_5],Blk.cells [AV.int .i64 h2_0,AV.int .i64 h2_1,AV.int .i64 h2_2,AV.ro KI h2_3,AV.ro MoK h2_4,AV.int .i64 h2_5,AV.nils,AV.int .i64 h2_7,AV.mp 5],Blk.map true false (CK.pair CK.str (CK.pair CK.str KI)) CK.bool h3,Blk.cells [AV.ro KI h4_0,AV.int .i64 h4_1,AV.ro KI h4_2],Blk.map true false (CK.pair KI (CK.pair KI KI)) KI h5],ok:=true}
noncomputable def oCk_L2:=Classical.choose (hideE oCk_L2r)
theorem oCk_L2_def:oCk_L2=oCk_L2r:=Classical.choose_spec (hideE oCk_L2r)
theorem oCk_L0_succ (F n:Nat) (s2 s32:List (List Int×Int×List Int)) (s33 s34 h0_0 h0_1 h0_2:Int) (h0_3:List Int) (h0_4:List Mo) (h1_0 h1_1 h1_2:Int) (h1_3 h1_4:List (List Int)) (h1_5:List (List Bool)) (h2_0 h2_1 h2_2:Int) (h2_3:List Int) (h2_4:List Mo) (h2_5 h2_7:Int) (h3:List ((List UInt8×List UInt8×Int)×Bool)) (h4:List ((Int×Int×Int)×Int)):oCk_L0 F (n+1) s2 s32 s33 s34 h0_0 h0_1 h0_2 h0_3 h0_4 h1_0 h1_1 h1_2 h1_3 h1_4 h1_5 h2_0 h2_1 h2_2 h2_3 h2_4 h2_5 h2_7 h3 h4=bif decide (s34<s33) then bif decide (0≤s34)&&decide (s34<(s32.length:Int)) then bif formOk (h0_0,h0_1,h0_2,h0_3,h0_4,h1_0,h1_1,h1_2,h1_3,h1_4,h1_5,(nth ([],0,[]) s32 (Int.toNat s34)).1,(nth ([],0,[]) s32 (Int.toNat s34)).2.1,(nth ([],0,[]) s32 (Int.toNat s34)).2.2) then bif formM (h0_0,h0_1,h0_2,h0_3,h0_4,h1_0,h1_1,h1_2,h1_3,h1_4,h1_5,(nth ([],0,[]) s32 (Int.toNat s34)).1,(nth ([],0,[]) s32 (Int.toNat s34)).2.1,(nth ([],0,[]) s32 (Int.toNat s34)).2.2) then bif keyOfOk ((nth ([],0,[]) s32 (Int.toNat s34)).1,(nth ([],0,[]) s32 (Int.toNat s34)).2.1,(nth ([],0,[]) s32 (Int.toNat s34)).2.2) then oCk_L0 F n s2 s32 s33 (IntKind.wrap .i64 (s34+1)) h0_0 h0_1 h0_2 h0_3 h0_4 h1_0 h1_1 h1_2 h1_3 h1_4 h1_5 h2_0 h2_1 h2_2 h2_3 h2_4 h2_5 h2_7 (insM (CK.pair CK.str (CK.pair CK.str KI)) h3 (((keyOfM ((nth ([],0,[]) s32 (Int.toNat s34)).1,(nth ([],0,[]) s32 (Int.toNat s34)).2.1,(nth ([],0,[]) s32 (Int.toNat s34)).2.2)).1,(keyOfM ((nth ([],0,[]) s32 (Int.toNat s34)).1,(nth ([],0,[]) s32 (Int.toNat s34)).2.1,(nth ([],0,[]) s32 (Int.toNat s34)).2.2)).2.1,(keyOfM ((nth ([],0,[]) s32 (Int.toNat s34)).1,(nth ([],0,[]) s32 (Int.toNat s34)).2.1,(nth ([],0,[]) s32 (Int.toNat s34)).2.2)).2.2):(List UInt8×(List UInt8×Int))) true) h4 else BR else oCk_L0 F n s2 s32 s33 (IntKind.wrap .i64 (s34+1)) h0_0 h0_1 h0_2 h0_3 h0_4 h1_0 h1_1 h1_2 h1_3 h1_4 h1_5 h2_0 h2_1 h2_2 h2_3 h2_4 h2_5 h2_7 h3 h4 else BR else BR else oCk_L1 F F s2 s2 (s2.length:Int) 0 h0_0 h0_1 h0_2 h0_3 h0_4 h1_0 h1_1 h1_2 h1_3 h1_4 h1_5 h2_0 h2_1 h2_2 h2_3 h2_4 h2_5 h2_7 h3 h4:=by rewrite [oCk_L0_def,oCk_L1_def];kernel_rfl
theorem oCk_L1_succ (F n:Nat) (s2 s46:List (List Int×Int×List Int)) (s47 s48 h0_0 h0_1 h0_2:Int) (h0_3:List Int) (h0_4:List Mo) (h1_0 h1_1 h1_2:Int) (h1_3 h1_4:List (List Int)) (h1_5:List (List Bool)) (h2_0 h2_1 h2_2:Int) (h2_3:List Int) (h2_4:List Mo) (h2_5 h2_7:Int) (h3:List ((List UInt8×List UInt8×Int)×Bool)) (h4:List ((Int×Int×Int)×Int)):oCk_L1 F (n+1) s2 s46 s47 s48 h0_0 h0_1 h0_2 h0_3 h0_4 h1_0 h1_1 h1_2 h1_3 h1_4 h1_5 h2_0 h2_1 h2_2 h2_3 h2_4 h2_5 h2_7 h3 h4=bif decide (s48<s47) then bif decide (0≤s48)&&decide (s48<(s46.length:Int)) then bif formOk (h0_0,h0_1,h0_2,h0_3,h0_4,h1_0,h1_1,h1_2,h1_3,h1_4,h1_5,(nth ([],0,[]) s46 (Int.toNat s48)).1,(nth ([],0,[]) s46 (Int.toNat s48)).2.1,(nth ([],0,[]) s46 (Int.toNat s48)).2.2) then bif !formM (h0_0,h0_1,h0_2,h0_3,h0_4,h1_0,h1_1,h1_2,h1_3,h1_4,h1_5,(nth ([],0,[]) s46 (Int.toNat s48)).1,(nth ([],0,[]) s46 (Int.toNat s48)).2.1,(nth ([],0,[]) s46 (Int.toNat s48)).2.2) then {ok:=true,val:=AV.tup [AV.bool false,AV.int .i64 s48,AV.int .i64 0]} else bif decide (s48=0) then bif keyOfOk ((nth ([],0,[]) s46 (Int.toNat s48)).1,(nth ([],0,[]) s46 (Int.toNat s48)).2.1,(nth ([],0,[]) s46 (Int.toNat s48)).2.2) then bif oFirstOk (h0_0,h0_1,h0_2,h0_3,h0_4,h1_0,h1_1,h1_2,h1_3,h1_4,h1_5) then bif keyOfOk ((oFirstM (h0_0,h0_1,h0_2,h0_3,h0_4,h1_0,h1_1,h1_2,h1_3,h1_4,h1_5)).1,(oFirstM (h0_0,h0_1,h0_2,h0_3,h0_4,h1_0,h1_1,h1_2,h1_3,h1_4,h1_5)).2.1,(oFirstM (h0_0,h0_1,h0_2,h0_3,h0_4,h1_0,h1_1,h1_2,h1_3,h1_4,h1_5)).2.2) then bif !(List.beq (keyOfM ((nth ([],0,[]) s46 (Int.toNat s48)).1,(nth ([],0,[]) s46 (Int.toNat s48)).2.1,(nth ([],0,[]) s46 (Int.toNat s48)).2.2)).1 (keyOfM ((oFirstM (h0_0,h0_1,h0_2,h0_3,h0_4,h1_0,h1_1,h1_2,h1_3,h1_4,h1_5)).1,(oFirstM (h0_0,h0_1,h0_2,h0_3,h0_4,h1_0,h1_1,h1_2,h1_3,h1_4,h1_5)).2.1,(oFirstM (h0_0,h0_1,h0_2,h0_3,h0_4,h1_0,h1_1,h1_2,h1_3,h1_4,h1_5)).2.2)).1&&(List.beq (keyOfM ((nth ([],0,[]) s46 (Int.toNat s48)).1,(nth ([],0,[]) s46 (Int.toNat s48)).2.1,(nth ([],0,[]) s46 (Int.toNat s48)).2.2)).2.1 (keyOfM ((oFirstM (h0_0,h0_1,h0_2,h0_3,h0_4,h1_0,h1_1,h1_2,h1_3,h1_4,h1_5)).1,(oFirstM (h0_0,h0_1,h0_2,h0_3,h0_4,h1_0,h1_1,h1_2,h1_3,h1_4,h1_5)).2.1,(oFirstM (h0_0,h0_1,h0_2,h0_3,h0_4,h1_0,h1_1,h1_2,h1_3,h1_4,h1_5)).2.2)).2.1&&(decide ((keyOfM ((nth ([],0,[]) s46 (Int.toNat s48)).1,(nth ([],0,[]) s46 (Int.toNat s48)).2.1,(nth ([],0,[]) s46 (Int.toNat s48)).2.2)).2.2=(keyOfM ((oFirstM (h0_0,h0_1,h0_2,h0_3,h0_4,h1_0,h1_1,h1_2,h1_3,h1_4,h1_5)).1,(oFirstM (h0_0,h0_1,h0_2,h0_3,h0_4,h1_0,h1_1,h1_2,h1_3,h1_4,h1_5)).2.1,(oFirstM (h0_0,h0_1,h0_2,h0_3,h0_4,h1_0,h1_1,h1_2,h1_3,h1_4,h1_5)).2.2)).2.2)&&true))) then {ok:=true,val:=AV.tup [AV.bool false,AV.int .i64 s48,AV.int .i64 0]} else bif decide (0≤(nth ([],0,[]) s46 (Int.toNat s48)).2.1)&&decide ((nth ([],0,[]) s46 (Int.toNat s48)).2.1<(h1_5.length:Int)) then oCk_L2 F n F s2 s48 s46 s47 s48 (nth [] h1_5 (Int.toNat (nth ([],0,[]) s46 (Int.toNat s48)).2.1)) (↑(List.length (nth [] h1_5 (Int.toNat (nth ([],0,[]) s46 (Int.toNat s48)).2.1))):Int) 0 h0_0 h0_1 h0_2 h0_3 h0_4 h1_0 h1_1 h1_2 h1_3 h1_4 h1_5 h2_0 h2_1 h2_2 h2_3 h2_4 h2_5 h2_7 h3 (nth ([],0,[]) s46 (Int.toNat s48)).1 (nth ([],0,[]) s46 (Int.toNat s48)).2.1 (nth ([],0,[]) s46 (Int.toNat s48)).2.2 h4 else BR else BR else BR else BR else bif decide (0≤(nth ([],0,[]) s46 (Int.toNat s48)).2.1)&&decide ((nth ([],0,[]) s46 (Int.toNat s48)).2.1<(h1_5.length:Int)) then oCk_L2 F n F s2 s48 s46 s47 s48 (nth [] h1_5 (Int.toNat (nth ([],0,[]) s46 (Int.toNat s48)).2.1)) (↑(List.length (nth [] h1_5 (Int.toNat (nth ([],0,[]) s46 (Int.toNat s48)).2.1))):Int) 0 h0_0 h0_1 h0_2 h0_3 h0_4 h1_0 h1_1 h1_2 h1_3 h1_4 h1_5 h2_0 h2_1 h2_2 h2_3 h2_4 h2_5 h2_7 h3 (nth ([],0,[]) s46 (Int.toNat s48)).1 (nth ([],0,[]) s46 (Int.toNat s48)).2.1 (nth ([],0,[]) s46 (Int.toNat s48)).2.2 h4 else BR else BR else BR else {ok:=true,val:=AV.tup [AV.bool (decide ((s2.length:Int)>0)),AV.int .i64 (s2.length:Int),AV.int .i64 0]}:=by rewrite [oCk_L1_def,oCk_L2_def];kernel_rfl
theorem oCk_L2_succ (F m0 n:Nat) (s2:List (List Int×Int×List Int)) (s14:Int) (s46:List (List Int×Int×List Int)) (s47 s48:Int) (s77:List Bool) (s78 s79 h0_0 h0_1 h0_2:Int) (h0_3:List Int) (h0_4:List Mo) (h1_0 h1_1 h1_2:Int) (h1_3 h1_4:List (List Int)) (h1_5:List (List Bool)) (h2_0 h2_1 h2_2:Int) (h2_3:List Int) (h2_4:List Mo) (h2_5 h2_7:Int) (h3:List ((List UInt8×List UInt8×Int)×Bool)) (h4_0:List Int) (h4_1:Int) (h4_2:List Int) (h5:List ((Int×Int×Int)×Int)):oCk_L2 F m0 (n+1) s2 s14 s46 s47 s48 s77 s78 s79 h0_0 h0_1 h0_2 h0_3 h0_4 h1_0 h1_1 h1_2 h1_3 h1_4 h1_5 h2_0 h2_1 h2_2 h2_3 h2_4 h2_5 h2_7 h3 h4_0 h4_1 h4_2 h5=bif decide (s79<s78) then bif decide (0≤s79)&&decide (s79<(s77.length:Int)) then bif !nth false s77 (Int.toNat s79) then oCk_L2 F m0 n s2 s14 s46 s47 s48 s77 s78 (IntKind.wrap .i64 (s79+1)) h0_0 h0_1 h0_2 h0_3 h0_4 h1_0 h1_1 h1_2 h1_3 h1_4 h1_5 h2_0 h2_1 h2_2 h2_3 h2_4 h2_5 h2_7 h3 h4_0 h4_1 h4_2 h5 else bif Res.ok (leadSpec [AV.ptr 0 0,AV.agg [AV.int .i64 h1_0,AV.int .i64 h1_1,AV.int .i64 h1_2,AV.ro KL h1_3,AV.ro KL h1_4,AV.ro (CK.slice 4 CK.bool) h1_5],AV.agg [AV.ro KI h4_0,AV.int .i64 h4_1,AV.ro KI h4_2],AV.int .i64 s79] [Blk.cells [AV.int .i64 h2_0,AV.int .i64 h2_1,AV.int .i64 h2_2,AV.ro KI h2_3,AV.ro MoK h2_4,AV.int .i64 h2_5,AV.nils,AV.int .i64 h2_7,AV.mp 1],Blk.map true false (CK.pair KI (CK.pair KI KI)) KI h5]) then bif !(leadM (bodyX [Blk.cells [AV.int .i64 h2_0,AV.int .i64 h2_1,AV.int .i64 h2_2,AV.ro KI h2_3,AV.ro MoK h2_4,AV.int .i64 h2_5,AV.nils,AV.int .i64 h2_7,AV.mp 1],Blk.map true false (CK.pair KI (CK.pair KI KI)) KI h5],ctX (AV.agg [AV.int .i64 h1_0,AV.int .i64 h1_1,AV.int .i64 h1_2,AV.ro KL h1_3,AV.ro KL h1_4,AV.ro (CK.slice 4 CK.bool) h1_5]),siX (AV.agg [AV.ro KI h4_0,AV.int .i64 h4_1,AV.ro KI h4_2]),s79)).2.2.2 then {ok:=true,val:=AV.tup [AV.bool false,AV.int .i64 s14,AV.int .i64 0]} else bif keyOfOk ((leadM (bodyX [Blk.cells [AV.int .i64 h2_0,AV.int .i64 h2_1,AV.int .i64 h2_2,AV.ro KI h2_3,AV.ro MoK h2_4,AV.int .i64 h2_5,AV.nils,AV.int .i64 h2_7,AV.mp 1],Blk.map true false (CK.pair KI (CK.pair KI KI)) KI h5],ctX (AV.agg [AV.int .i64 h1_0,AV.int .i64 h1_1,AV.int .i64 h1_2,AV.ro KL h1_3,AV.ro KL h1_4,AV.ro (CK.slice 4 CK.bool) h1_5]),siX (AV.agg [AV.ro KI h4_0,AV.int .i64 h4_1,AV.ro KI h4_2]),s79)).1,(leadM (bodyX [Blk.cells [AV.int .i64 h2_0,AV.int .i64 h2_1,AV.int .i64 h2_2,AV.ro KI h2_3,AV.ro MoK h2_4,AV.int .i64 h2_5,AV.nils,AV.int .i64 h2_7,AV.mp 1],Blk.map true false (CK.pair KI (CK.pair KI KI)) KI h5],ctX (AV.agg [AV.int .i64 h1_0,AV.int .i64 h1_1,AV.int .i64 h1_2,AV.ro KL h1_3,AV.ro KL h1_4,AV.ro (CK.slice 4 CK.bool) h1_5]),siX (AV.agg [AV.ro KI h4_0,AV.int .i64 h4_1,AV.ro KI h4_2]),s79)).2.1,(leadM (bodyX [Blk.cells [AV.int .i64 h2_0,AV.int .i64 h2_1,AV.int .i64 h2_2,AV.ro KI h2_3,AV.ro MoK h2_4,AV.int .i64 h2_5,AV.nils,AV.int .i64 h2_7,AV.mp 1],Blk.map true false (CK.pair KI (CK.pair KI KI)) KI h5],ctX (AV.agg [AV.int .i64 h1_0,AV.int .i64 h1_1,AV.int .i64 h1_2,AV.ro KL h1_3,AV.ro KL h1_4,AV.ro (CK.slice 4 CK.bool) h1_5]),siX (AV.agg [AV.ro KI h4_0,AV.int .i64 h4_1,AV.ro KI h4_2]),s79)).2.2.1) then bif !getM (CK.pair CK.str (CK.pair CK.str KI)) false h3 (((keyOfM ((leadM (bodyX [Blk.cells [AV.int .i64 h2_0,AV.int .i64 h2_1,AV.int .i64 h2_2,AV.ro KI h2_3,AV.ro MoK h2_4,AV.int .i64 h2_5,AV.nils,AV.int .i64 h2_7,AV.mp 1],Blk.map true false (CK.pair KI (CK.pair KI KI)) KI h5],ctX (AV.agg [AV.int .i64 h1_0,AV.int .i64 h1_1,AV.int .i64 h1_2,AV.ro KL h1_3,AV.ro KL h1_4,AV.ro (CK.slice 4 CK.bool) h1_5]),siX (AV.agg [AV.ro KI h4_0,AV.int .i64 h4_1,AV.ro KI h4_2]),s79)).1,(leadM (bodyX [Blk.cells [AV.int .i64 h2_0,AV.int .i64 h2_1,AV.int .i64 h2_2,AV.ro KI h2_3,AV.ro MoK h2_4,AV.int .i64 h2_5,AV.nils,AV.int .i64 h2_7,AV.mp 1],Blk.map true false (CK.pair KI (CK.pair KI KI)) KI h5],ctX (AV.agg [AV.int .i64 h1_0,AV.int .i64 h1_1,AV.int .i64 h1_2,AV.ro KL h1_3,AV.ro KL h1_4,AV.ro (CK.slice 4 CK.bool) h1_5]),siX (AV.agg [AV.ro KI h4_0,AV.int .i64 h4_1,AV.ro KI h4_2]),s79)).2.1,(leadM (bodyX [Blk.cells [AV.int .i64 h2_0,AV.int .i64 h2_1,AV.int .i64 h2_2,AV.ro KI h2_3,AV.ro MoK h2_4,AV.int .i64 h2_5,AV.nils,AV.int .i64 h2_7,AV.mp 1],Blk.map true false (CK.pair KI (CK.pair KI KI)) KI h5],ctX (AV.agg [AV.int .i64 h1_0,AV.int .i64 h1_1,AV.int .i64 h1_2,AV.ro KL h1_3,AV.ro KL h1_4,AV.ro (CK.slice 4 CK.bool) h1_5]),siX (AV.agg [AV.ro KI h4_0,AV.int .i64 h4_1,AV.ro KI h4_2]),s79)).2.2.1)).1,(keyOfM ((leadM (bodyX [Blk.cells [AV.int .i64 h2_0,AV.int .i64 h2_1,AV.int .i64 h2_2,AV.ro KI h2_3,AV.ro MoK h2_4,AV.int .i64 h2_5,AV.nils,AV.int .i64 h2_7,AV.mp 1],Blk.map true false (CK.pair KI (CK.pair KI KI)) KI h5],ctX (AV.agg [AV.int .i64 h1_0,AV.int .i64 h1_1,AV.int .i64 h1_2,AV.ro KL h1_3,AV.ro KL h1_4,AV.ro (CK.slice 4 CK.bool) h1_5]),siX (AV.agg [AV.ro KI h4_0,AV.int .i64 h4_1,AV.ro KI h4_2]),s79)).1,(leadM (bodyX [Blk.cells [AV.int .i64 h2_0,AV.int .i64 h2_1,AV.int .i64 h2_2,AV.ro KI h2_3,AV.ro MoK h2_4,AV.int .i64 h2_5,AV.nils,AV.int .i64 h2_7,AV.mp 1],Blk.map true false (CK.pair KI (CK.pair KI KI)) KI h5],ctX (AV.agg [AV.int .i64 h1_0,AV.int .i64 h1_1,AV.int .i64 h1_2,AV.ro KL h1_3,AV.ro KL h1_4,AV.ro (CK.slice 4 CK.bool) h1_5]),siX (AV.agg [AV.ro KI h4_0,AV.int .i64 h4_1,AV.ro KI h4_2]),s79)).2.1,(leadM (bodyX [Blk.cells [AV.int .i64 h2_0,AV.int .i64 h2_1,AV.int .i64 h2_2,AV.ro KI h2_3,AV.ro MoK h2_4,AV.int .i64 h2_5,AV.nils,AV.int .i64 h2_7,AV.mp 1],Blk.map true false (CK.pair KI (CK.pair KI KI)) KI h5],ctX (AV.agg [AV.int .i64 h1_0,AV.int .i64 h1_1,AV.int .i64 h1_2,AV.ro KL h1_3,AV.ro KL h1_4,AV.ro (CK.slice 4 CK.bool) h1_5]),siX (AV.agg [AV.ro KI h4_0,AV.int .i64 h4_1,AV.ro KI h4_2]),s79)).2.2.1)).2.1,(keyOfM ((leadM (bodyX [Blk.cells [AV.int .i64 h2_0,AV.int .i64 h2_1,AV.int .i64 h2_2,AV.ro KI h2_3,AV.ro MoK h2_4,AV.int .i64 h2_5,AV.nils,AV.int .i64 h2_7,AV.mp 1],Blk.map true false (CK.pair KI (CK.pair KI KI)) KI h5],ctX (AV.agg [AV.int .i64 h1_0,AV.int .i64 h1_1,AV.int .i64 h1_2,AV.ro KL h1_3,AV.ro KL h1_4,AV.ro (CK.slice 4 CK.bool) h1_5]),siX (AV.agg [AV.ro KI h4_0,AV.int .i64 h4_1,AV.ro KI h4_2]),s79)).1,(leadM (bodyX [Blk.cells [AV.int .i64 h2_0,AV.int .i64 h2_1,AV.int .i64 h2_2,AV.ro KI h2_3,AV.ro MoK h2_4,AV.int .i64 h2_5,AV.nils,AV.int .i64 h2_7,AV.mp 1],Blk.map true false (CK.pair KI (CK.pair KI KI)) KI h5],ctX (AV.agg [AV.int .i64 h1_0,AV.int .i64 h1_1,AV.int .i64 h1_2,AV.ro KL h1_3,AV.ro KL h1_4,AV.ro (CK.slice 4 CK.bool) h1_5]),siX (AV.agg [AV.ro KI h4_0,AV.int .i64 h4_1,AV.ro KI h4_2]),s79)).2.1,(leadM (bodyX [Blk.cells [AV.int .i64 h2_0,AV.int .i64 h2_1,AV.int .i64 h2_2,AV.ro KI h2_3,AV.ro MoK h2_4,AV.int .i64 h2_5,AV.nils,AV.int .i64 h2_7,AV.mp 1],Blk.map true false (CK.pair KI (CK.pair KI KI)) KI h5],ctX (AV.agg [AV.int .i64 h1_0,AV.int .i64 h1_1,AV.int .i64 h1_2,AV.ro KL h1_3,AV.ro KL h1_4,AV.ro (CK.slice 4 CK.bool) h1_5]),siX (AV.agg [AV.ro KI h4_0,AV.int .i64 h4_1,AV.ro KI h4_2]),s79)).2.2.1)).2.2):(List UInt8×(List UInt8×Int))) then {ok:=true,val:=AV.tup [AV.bool false,AV.int .i64 s14,AV.int .i64 0]} else oCk_L2 F m0 n s2 s14 s46 s47 s48 s77 s78 (IntKind.wrap .i64 (s79+1)) h0_0 h0_1 h0_2 h0_3 h0_4 h1_0 h1_1 h1_2 h1_3 h1_4 h1_5 h2_0 h2_1 h2_2 h2_3 h2_4 h2_5 h2_7 h3 h4_0 h4_1 h4_2 h5 else BR else BR else BR else oCk_L1 F m0 s2 s46 s47 (IntKind.wrap .i64 (s48+1)) h0_0 h0_1 h0_2 h0_3 h0_4 h1_0 h1_1 h1_2 h1_3 h1_4 h1_5 h2_0 h2_1 h2_2 h2_3 h2_4 h2_5 h2_7 h3 h5:=by rewrite [oCk_L1_def,oCk_L2_def];kernel_rfl
theorem oCk_eq (F:Nat) (a0_0 a0_1 a0_2:Int) (a0_3:List Int) (a0_4:List Mo) (a1_0 a1_1 a1_2:Int) (a1_3 a1_4:List (List Int)) (a1_5:List (List Bool)) (a2:List (List Int×Int×List Int)):runF (cx_oCk F) Tryd.f12 [AV.agg [AV.int .i64 a0_0,AV.int .i64 a0_1,AV.int .i64 a0_2,AV.ro KI a0_3,AV.ro MoK a0_4],AV.agg [AV.int .i64 a1_0,AV.int .i64 a1_1,AV.int .i64 a1_2,AV.ro KL a1_3,AV.ro KL a1_4,AV.ro (CK.slice 4 CK.bool) a1_5],AV.ro (CK.pair KL (CK.pair KI KL)) a2] []=bif oFitsOk (a0_0,a0_1,a0_2,a0_3,a0_4,a1_0,a1_1,a1_2,a1_3,a1_4,a1_5) then bif oFitsM (a0_0,a0_1,a0_2,a0_3,a0_4,a1_0,a1_1,a1_2,a1_3,a1_4,a1_5) !=0 then {ok:=true,val:=AV.tup [AV.bool false,AV.int .i64 0,AV.int .i64 (oFitsM (a0_0,a0_1,a0_2,a0_3,a0_4,a1_0,a1_1,a1_2,a1_3,a1_4,a1_5))]} else bif decide ((a2.length:Int)>20000) then {ok:=true,val:=AV.tup [AV.bool false,AV.int .i64 0,AV.int .i64 54]} else bif newBodyOk (a0_0,a0_1,a0_2,a0_3,a0_4) then oCk_L0 F F a2 a2 (a2.length:Int) 0 a0_0 a0_1 a0_2 a0_3 a0_4 a1_0 a1_1 a1_2 a1_3 a1_4 a1_5 a0_0 a0_1 a0_2 a0_3 a0_4 a0_0 (↑(cntI a0_4):Int) [] (bodyMap a0_4 0 0 []) else BR else BR:=by rewrite [oCk_L0_def];kernel_rfl
noncomputable def oCk_run (F:Nat) (x:CT oCk_K):Res:=runF (cx_oCk F) Tryd.f12 (groupA oCk_sh (enc oCk_K x)) []
theorem oCk_arg (F:Nat) (a0_0 a0_1 a0_2:Int) (a0_3:List Int) (a0_4:List Mo) (a1_0 a1_1 a1_2:Int) (a1_3 a1_4:List (List Int)) (a1_5:List (List Bool)) (a2:List (List Int×Int×List Int)):oCk_run F (a0_0,a0_1,a0_2,a0_3,a0_4,a1_0,a1_1,a1_2,a1_3,a1_4,a1_5,a2)=runF (cx_oCk F) Tryd.f12 [AV.agg [AV.int .i64 a0_0,AV.int .i64 a0_1,AV.int .i64 a0_2,AV.ro KI a0_3,AV.ro MoK a0_4],AV.agg [AV.int .i64 a1_0,AV.int .i64 a1_1,AV.int .i64 a1_2,AV.ro KL a1_3,AV.ro KL a1_4,AV.ro (CK.slice 4 CK.bool) a1_5],AV.ro (CK.pair KL (CK.pair KI KL)) a2] []:=by kernel_rfl
abbrev CkZ:=Int×Int×Int×List Int×List Mo×Int×Int×Int×List (List Int)×List (List Int)×List (List Bool)×List Sit
def wordsB (k w h:Int) (ms:List Mo) (n p:List (List Int)) (l:List (List Bool)) (pr:List Sit) (s:Sit):Nat→Nat→Bool
 |0,_=>true
 |j+1,a=>(!nth false (nth [] l s.2.1.toNat) a||((ltB k w h ms n p s.1 s.2.1 s.2.2 a).2.2.2&&decide (((ltB k w h ms n p s.1 s.2.1 s.2.2 a).1,(ltB k w h ms n p s.1 s.2.1 s.2.2 a).2.1,(ltB k w h ms n p s.1 s.2.1 s.2.2 a).2.2.1)∈pr)))&&wordsB k w h ms n p l pr s j (a+1)
def sitB (k w h:Int) (c:List Int) (ms:List Mo) (i o dl:Int) (n p:List (List Int)) (l:List (List Bool)) (pr:List Sit) (s:Sit) (q:Nat):Bool:=
 formB k w h ms o dl n.length s.1 s.2.1 s.2.2&&((!decide (q=0)||eqSit s (c,0,List.replicate dl.toNat 0))&&wordsB k w h ms n p l pr s (2^i.toNat) 0)
def chkL (f:Sit→Nat→Bool):List Sit→Nat→Option Nat
 |[],_=>none
 |s::r,q=>bif f s q then chkL f r (q+1) else some q
def ckO (len:Nat):Option Nat→Bool×Int×Int
 |none=>(decide (0<len),(len:Int),0)
 |some q=>(false,(q:Int),0)
def ckM:CkZ→Bool×Int×Int:=fun (k,w,h,c,ms,i,o,dl,n,p,l,pr)=>
 bif decide (askedM (k,w,h,c,ms,i,o,dl,n,p,l)=0) then (bif decide (pr.length>20000) then (false,0,54) else ckO pr.length (chkL (sitB k w h c ms i o dl n p l pr) pr 0)) else (false,0,askedM (k,w,h,c,ms,i,o,dl,n,p,l))
def ckOk:CkZ→Bool:=fun (k,w,h,c,ms,i,o,dl,n,p,l,pr)=>decide (c.length<big∧ms.length<big∧pr.length<big)&&pr.all sitFit
def resC (b:Bool) (q e:Int):Res:={ok:=true,val:=AV.tup [AV.bool b,AV.int .i64 q,AV.int .i64 e]}
theorem retResC (b:Bool) (q e:Int):Ret oCk_re oCk_R (resC b q e) ((b,q,e):Bool×Int×Int):=
 ⟨rfl,rfl,rfl,rfl,by simp[resC,oCk_R,roVs,valsOf,view,view1,flatA,cellsA,decOk,nth,isInt,isB,dropL,width],rfl,fun ws h=>by cases h;simp⟩
def ckR (len:Nat) (q:Option Nat):Res:=resC (ckO len q).1 (ckO len q).2.1 (ckO len q).2.2
def mapL (f:Sit→Bool):List Sit→MK→MK
 |[],m=>m
 |s::r,m=>mapL f r (bif f s then insK m (keyOfM s) else m)
theorem mapL_get (f:Sit→Bool) (k:Key):∀(l:List Sit) (m:MK),getK (mapL f l m) k=(l.any (fun s=>f s&&decide (k=keyOfM s))||getK m k)
 |[],m=>rfl
 | s::r,m=>by
  rw[mapL,mapL_get f k r]
  cases hf:f s with
  |true=>
   simp only[cond_true,getK_insK,List.any_cons,hf,Bool.true_and]
   cases decide (k=keyOfM s)<;>cases r.any (fun s=>f s&&decide (k=keyOfM s))<;>cases getK m k<;>rfl
  |false=>simp only[cond_false,List.any_cons,hf,Bool.false_and,Bool.false_or]
section
variable {k w h:Int} {c:List Int} {ms:List Mo} {i o dl:Int} {n p:List (List Int)} {l:List (List Bool)} {pr:List Sit}
theorem mem_key (ct:CtV i o dl n p l) {s:Sit} (hf:fB k w h ms o dl n s=true):getK (mapL (fB k w h ms o dl n) pr []) (keyOfM s)=decide (s∈pr):=by
 rw[mapL_get,show getK [] (keyOfM s)=false from rfl,Bool.or_false,Bool.eq_iff_iff]
 simp only[List.any_eq_true,Bool.and_eq_true,decide_eq_true_eq]
 constructor
 ·rintro ⟨s',h1,h2,h3⟩
  have:=keyOf_inj (form_bytes ct.outs hf) (form_bytes ct.outs h2) h3
  rw[this];exact h1
 ·intro hm
  exact ⟨s,hm,hf,rfl⟩
theorem oCk_t0 (F m:Nat) (pr pr2:List Sit) (len q k w h:Int) (c:List Int) (ms:List Mo) (i o dl:Int) (n p:List (List Int)) (l:List (List Bool)) (k2 w2 h2:Int) (c2:List Int) (ms2:List Mo) (rk ins:Int) (mk:MK) (m4:MM):
  oCk_L0 F (m+1) pr pr2 len q k w h c ms i o dl n p l k2 w2 h2 c2 ms2 rk ins mk m4=
  bif decide (q<len) then bif decide (0≤q)&&decide (q<(pr2.length:Int)) then bif formOk (k,w,h,c,ms,i,o,dl,n,p,l,nth ([],0,[]) pr2 q.toNat) then bif formM (k,w,h,c,ms,i,o,dl,n,p,l,nth ([],0,[]) pr2 q.toNat) then
   bif keyOfOk (nth ([],0,[]) pr2 q.toNat) then oCk_L0 F m pr pr2 len (IntKind.wrap .i64 (q+1)) k w h c ms i o dl n p l k2 w2 h2 c2 ms2 rk ins (insK mk (keyOfM (nth ([],0,[]) pr2 q.toNat))) m4 else {ok:=false,val:= .junk}
   else oCk_L0 F m pr pr2 len (IntKind.wrap .i64 (q+1)) k w h c ms i o dl n p l k2 w2 h2 c2 ms2 rk ins mk m4 else {ok:=false,val:= .junk} else {ok:=false,val:= .junk}
  else oCk_L1 F F pr pr (pr.length:Int) 0 k w h c ms i o dl n p l k2 w2 h2 c2 ms2 rk ins mk m4:=(oCk_L0_succ ..).trans (by kernel_rfl)
theorem oCk_t1 (F m:Nat) (pr pr2:List Sit) (len q k w h:Int) (c:List Int) (ms:List Mo) (i o dl:Int) (n p:List (List Int)) (l:List (List Bool)) (k2 w2 h2:Int) (c2:List Int) (ms2:List Mo) (rk ins:Int) (mk:MK) (m4:MM):
  oCk_L1 F (m+1) pr pr2 len q k w h c ms i o dl n p l k2 w2 h2 c2 ms2 rk ins mk m4=
  bif decide (q<len) then bif decide (0≤q)&&decide (q<(pr2.length:Int)) then bif formOk (k,w,h,c,ms,i,o,dl,n,p,l,nth ([],0,[]) pr2 q.toNat) then bif !formM (k,w,h,c,ms,i,o,dl,n,p,l,nth ([],0,[]) pr2 q.toNat) then resC false q 0 else
   bif decide (q=0) then bif keyOfOk (nth ([],0,[]) pr2 q.toNat) then bif oFirstOk (k,w,h,c,ms,i,o,dl,n,p,l) then bif keyOfOk (oFirstM (k,w,h,c,ms,i,o,dl,n,p,l)) then
    bif !keyEqB (keyOfM (nth ([],0,[]) pr2 q.toNat)) (keyOfM (oFirstM (k,w,h,c,ms,i,o,dl,n,p,l))) then resC false q 0 else
     bif decide (0≤(nth ([],0,[]) pr2 q.toNat).2.1)&&decide ((nth ([],0,[]) pr2 q.toNat).2.1<(l.length:Int)) then
      oCk_L2 F m F pr q pr2 len q (nth [] l (nth ([],0,[]) pr2 q.toNat).2.1.toNat) ((nth [] l (nth ([],0,[]) pr2 q.toNat).2.1.toNat).length:Int) 0 k w h c ms i o dl n p l k2 w2 h2 c2 ms2 rk ins mk (nth ([],0,[]) pr2 q.toNat).1 (nth ([],0,[]) pr2 q.toNat).2.1 (nth ([],0,[]) pr2 q.toNat).2.2 m4
     else {ok:=false,val:= .junk}
    else {ok:=false,val:= .junk} else {ok:=false,val:= .junk} else {ok:=false,val:= .junk}
   else bif decide (0≤(nth ([],0,[]) pr2 q.toNat).2.1)&&decide ((nth ([],0,[]) pr2 q.toNat).2.1<(l.length:Int)) then
      oCk_L2 F m F pr q pr2 len q (nth [] l (nth ([],0,[]) pr2 q.toNat).2.1.toNat) ((nth [] l (nth ([],0,[]) pr2 q.toNat).2.1.toNat).length:Int) 0 k w h c ms i o dl n p l k2 w2 h2 c2 ms2 rk ins mk (nth ([],0,[]) pr2 q.toNat).1 (nth ([],0,[]) pr2 q.toNat).2.1 (nth ([],0,[]) pr2 q.toNat).2.2 m4
     else {ok:=false,val:= .junk}
  else {ok:=false,val:= .junk} else {ok:=false,val:= .junk}
  else resC (decide ((pr.length:Int)>0)) (pr.length:Int) 0:=(oCk_L1_succ ..).trans (by kernel_rfl)
theorem oCk_t2 (F m0 m:Nat) (pr pr2:List Sit) (s14 len q a:Int) (row:List Bool) (rl k w h:Int) (c:List Int) (ms:List Mo) (i o dl:Int) (n p:List (List Int)) (l:List (List Bool)) (k2 w2 h2:Int) (c2:List Int) (ms2:List Mo) (rk ins:Int) (mk:MK) (s:Sit) (m4:MM):
  oCk_L2 F m0 (m+1) pr s14 pr2 len q row rl a k w h c ms i o dl n p l k2 w2 h2 c2 ms2 rk ins mk s.1 s.2.1 s.2.2 m4=
  bif decide (a<rl) then bif decide (0≤a)&&decide (a<(row.length:Int)) then bif !nth false row a.toNat then oCk_L2 F m0 m pr s14 pr2 len q row rl (IntKind.wrap .i64 (a+1)) k w h c ms i o dl n p l k2 w2 h2 c2 ms2 rk ins mk s.1 s.2.1 s.2.2 m4 else
   bif leadOk ((k2,w2,h2,c2,ms2,rk,ins,m4),(i,o,dl,n,p,l),s,a) then bif !(leadM ((k2,w2,h2,c2,ms2,rk,ins,m4),(i,o,dl,n,p,l),s,a)).2.2.2 then resC false s14 0 else
    bif keyOfOk ((leadM ((k2,w2,h2,c2,ms2,rk,ins,m4),(i,o,dl,n,p,l),s,a)).1,(leadM ((k2,w2,h2,c2,ms2,rk,ins,m4),(i,o,dl,n,p,l),s,a)).2.1,(leadM ((k2,w2,h2,c2,ms2,rk,ins,m4),(i,o,dl,n,p,l),s,a)).2.2.1) then
     bif !getK mk (keyOfM ((leadM ((k2,w2,h2,c2,ms2,rk,ins,m4),(i,o,dl,n,p,l),s,a)).1,(leadM ((k2,w2,h2,c2,ms2,rk,ins,m4),(i,o,dl,n,p,l),s,a)).2.1,(leadM ((k2,w2,h2,c2,ms2,rk,ins,m4),(i,o,dl,n,p,l),s,a)).2.2.1)) then resC false s14 0 else
      oCk_L2 F m0 m pr s14 pr2 len q row rl (IntKind.wrap .i64 (a+1)) k w h c ms i o dl n p l k2 w2 h2 c2 ms2 rk ins mk s.1 s.2.1 s.2.2 m4
    else {ok:=false,val:= .junk} else {ok:=false,val:= .junk} else {ok:=false,val:= .junk}
  else oCk_L1 F m0 pr pr2 len (IntKind.wrap .i64 (q+1)) k w h c ms i o dl n p l k2 w2 h2 c2 ms2 rk ins mk m4:=(oCk_L2_succ ..).trans (by kernel_rfl)
theorem oCk_p (F:Nat) (ct:CtV i o dl n p l) (hl:pr.length≤20000) (hms:ms.length<1000) (hfit:∀s∈pr,sitFit s=true) {rk ins:Int} {m4:MM}:∀(j f q:Nat) (mk:MK),q+j=pr.length→j<f→
  oCk_L0 F f pr pr pr.length q k w h c ms i o dl n p l k w h c ms rk ins mk m4=oCk_L1 F F pr pr pr.length 0 k w h c ms i o dl n p l k w h c ms rk ins (mapL (fB k w h ms o dl n) (pr.drop q) mk) m4
 |j,0,q,_,_,h=>by omega
 |0,f+1,q,mk,hq,_=>by
  rw[oCk_t0,drop_len pr (by omega)]
  simp only[show ¬((q:Int)<pr.length) by omega,decide_false,cond_false,mapL]
 |j+1,f+1,q,mk,hq,hf=>by
  have ih:=fun mk=>oCk_p F (rk:=rk) (ins:=ins) (m4:=m4) ct hl hms hfit j f (q+1) mk (by omega) (by omega)
  have hft:=of_decide_eq_true (hfit _ (nth_mem ([],0,[]) pr (show q<pr.length by omega)))
  have houts:=ct.outs
  rw[oCk_t0,Int.toNat_natCast,wrap_succ (i:=q) (by omega),drop_nth ([],0,[]) pr (show q<pr.length by omega),ih,ih]
  revert hft
  generalize nth ([],0,[]) pr q=s
  intro hft
  rw[show formOk (k,w,h,c,ms,i,o,dl,n,p,l,s)=true from decide_eq_true ⟨hft.1,by simp only[big];omega,hft.2,houts.1,by omega⟩,show formM (k,w,h,c,ms,i,o,dl,n,p,l,s)=fB k w h ms o dl n s from rfl]
  simp only[show (q:Int)<pr.length by omega,show (0:Int)≤q by omega,decide_true,Bool.and_self,cond_true,mapL]
  cases hfs:fB k w h ms o dl n s with
  |false=>rfl
  |true=>rw[form_key ct hfs];rfl
theorem oCk_w (F m0:Nat) (ct:CtV i o dl n p l) {c0:List Int} {ins:Int} {s:Sit} (hf:fB k w h ms o dl n s=true) {q:Nat} (hq:q<1000000):∀(j f a:Nat),a+j=2^i.toNat→j<f→
  oCk_L2 F m0 f pr q pr pr.length q (nth [] l s.2.1.toNat) ((nth [] l s.2.1.toNat).length:Int) a k w h c ms i o dl n p l k w h c0 ms k ins (mapL (fB k w h ms o dl n) pr []) s.1 s.2.1 s.2.2 (bodyMap ms 0 0 [])=
   bif wordsB k w h ms n p l pr s j a then oCk_L1 F m0 pr pr pr.length ((q+1:Nat):Int) k w h c ms i o dl n p l k w h c0 ms k ins (mapL (fB k w h ms o dl n) pr []) (bodyMap ms 0 0 []) else resC false q 0
 |j,0,a,_,h=>by omega
 |0,f+1,a,ha,_=>by
  have hf':=hf
  simp only[fB,formB,Bool.and_eq_true,decide_eq_true_eq] at hf'
  obtain ⟨⟨_,_,r3⟩,_⟩:=ct.row s.2.1.toNat (by have:=hf'.2.1;omega)
  rw[oCk_t2,wrap_succ (i:=q) (by omega),r3]
  simp only[show ¬(a:Int)<((2^i.toNat:Nat):Int) by omega,decide_false,cond_false,wordsB,cond_true]
 | j+1,f+1,a,ha,hf'=>by
  have hp:=pow_le16 ct.ins
  have ih:=oCk_w F m0 (c0:=c0) (ins:=ins) ct hf hq j f (a+1) (by omega) (by omega)
  obtain ⟨g1,g2,g3,⟨g4,g5,g6⟩,g7⟩:=form_lt (l:=l) ct hf (a:=a) (by omega)
  have hfo:=hf
  simp only[fB,formB,Bool.and_eq_true] at hfo
  have v:=OrgV.of hfo.1
  rw[oCk_t2,wrap_succ (i:=a) (by omega),ih,Int.toNat_natCast,leadOk_of ct hf c0 ins (show a<2^i.toNat by omega),leadM_lt v c0 ins i o dl n p l (a:Int)]
  simp only[show (0:Int)≤(a:Int) by omega,show (a:Int)<((nth [] l s.2.1.toNat).length:Int) by omega,decide_true,Bool.and_self,cond_true,wordsB]
  cases nth false (nth [] l s.2.1.toNat) a with
  |false=>rfl
  | true=>
   cases hok:(ltB k w h ms n p s.1 s.2.1 s.2.2 a).2.2.2 with
   |false=>rfl
   |true=>
    have hnf:fB k w h ms o dl n ((ltB k w h ms n p s.1 s.2.1 s.2.2 a).1,(ltB k w h ms n p s.1 s.2.1 s.2.2 a).2.1,(ltB k w h ms n p s.1 s.2.1 s.2.2 a).2.2.1)=true:=lt_form ct (show a<2^i.toNat by omega) hf hok
    rw[form_key ct hnf,mem_key ct hnf]
    simp only[Bool.not_true,cond_false,cond_true,Bool.false_or,Bool.true_and]
    cases decide (((ltB k w h ms n p s.1 s.2.1 s.2.2 a).1,(ltB k w h ms n p s.1 s.2.1 s.2.2 a).2.1,(ltB k w h ms n p s.1 s.2.1 s.2.2 a).2.2.1)∈pr)<;>rfl
theorem oCk_s (F:Nat) (hF:17≤F) (v:OrgV k w h c ms) (ct:CtV i o dl n p l) (hl:pr.length≤20000) (hfit:∀s∈pr,sitFit s=true) {ins:Int}:∀(j f q:Nat),q+j=pr.length→j<f→
  oCk_L1 F f pr pr pr.length q k w h c ms i o dl n p l k w h c ms k ins (mapL (fB k w h ms o dl n) pr []) (bodyMap ms 0 0 [])=ckR pr.length (chkL (sitB k w h c ms i o dl n p l pr) (pr.drop q) q)
 |j,0,q,_,h=>by omega
 |0,f+1,q,hq,_=>by
  rw[oCk_t1,drop_len pr (by omega)]
  simp only[show ¬((q:Int)<pr.length) by omega,decide_false,cond_false,chkL,ckR,ckO]
  by_cases h0:0<pr.length
  ·simp only[h0,show ((pr.length:Int)>0) by omega,decide_true]
  ·simp only[h0,show ¬((pr.length:Int)>0) by omega,decide_false]
 | j+1,f+1,q,hq,hf=>by
  have ih:=oCk_s F hF v ct hl hfit (ins:=ins) j f (q+1) (by omega) (by omega)
  have hpw:=pow_le16 ct.ins
  obtain ⟨hw,hh,hc,_,hml,_,_⟩:=orgG_spec v.good
  have hlen:w*h≤24*24:=Int.mul_le_mul hw.2 hh.2 (by omega) (by omega)
  have hft:=of_decide_eq_true (hfit _ (nth_mem ([],0,[]) pr (show q<pr.length by omega)))
  have hlate:=ct.late
  have houts:=ct.outs
  have hcl:=ct.len
  have hfb:=first_byte v ct
  rw[oCk_t1,drop_nth ([],0,[]) pr (show q<pr.length by omega),Int.toNat_natCast]
  revert hft
  generalize nth ([],0,[]) pr q=s
  intro hft
  rw[show formOk (k,w,h,c,ms,i,o,dl,n,p,l,s)=true from decide_eq_true ⟨hft.1,by simp only[big];omega,hft.2,houts.1,by omega⟩,show formM (k,w,h,c,ms,i,o,dl,n,p,l,s)=fB k w h ms o dl n s from rfl,
   show oFirstOk (k,w,h,c,ms,i,o,dl,n,p,l)=true from decide_eq_true ⟨by omega,by omega,by omega⟩,show oFirstM (k,w,h,c,ms,i,o,dl,n,p,l)=(c,0,List.replicate dl.toNat 0) from rfl,
   show keyOfOk (c,0,List.replicate dl.toNat 0)=true by simp only[keyOfOk,packOk,List.length_replicate,Bool.and_eq_true,decide_eq_true_eq];omega]
  simp only[show (q:Int)<pr.length by omega,show (0:Int)≤q by omega,decide_true,Bool.and_self,cond_true,chkL,sitB]
  rw[show formB k w h ms o dl n.length s.1 s.2.1 s.2.2=fB k w h ms o dl n s from rfl]
  cases hform:fB k w h ms o dl n s with
  |false=>rfl
  | true=>
   have hfo:=hform
   simp only[fB,formB,Bool.and_eq_true,decide_eq_true_eq] at hfo
   have lw:=oCk_w F f (c:=c) (c0:=c) (ins:=ins) (pr:=pr) ct hform (q:=q) (by omega) (2^i.toNat) F 0 (by omega) (by omega)
   rw[show ((0:Nat):Int)=0 from rfl] at lw
   have hke:keyEqB (keyOfM s) (keyOfM (c,0,List.replicate dl.toNat 0))=eqSit s (c,0,List.replicate dl.toNat 0):=by
    rw[Bool.eq_iff_iff,keyEqB_iff,eqSit_iff]
    exact ⟨fun h=>keyOf_inj (form_bytes houts hform) hfb h,fun h=>by rw[h]⟩
   rw[lw,ih,form_key ct hform,hke]
   simp only[show 0≤s.2.1 from hfo.2.1.1,show s.2.1<(l.length:Int) by have:=hfo.2.1.2;omega,decide_true,Bool.and_self,cond_true,Bool.not_true,cond_false,Bool.true_and]
   by_cases hq0:q=0
   ·simp only[hq0,Int.natCast_zero,decide_true,cond_true,Bool.not_true,Bool.false_or]
    cases eqSit s (c,0,List.replicate dl.toNat 0) with
    |false=>rfl
    |true=>cases wordsB k w h ms n p l pr s (2^i.toNat) 0<;>rfl
   ·have hq1:¬(q:Int)=0:=by omega
    simp only[hq0,hq1,decide_false,cond_false,Bool.not_false,Bool.true_or,Bool.true_and]
    cases wordsB k w h ms n p l pr s (2^i.toNat) 0<;>rfl
end
def oCkOk:CkZ→Bool:=ckOk
def oCkM:CkZ→Bool×Int×Int:=ckM
def oCkFu:CkZ→Nat:=fun (_,_,_,_,_,_,_,_,_,_,_,pr)=>pr.length+20
theorem oCk_txt (F:Nat) (k w h:Int) (c:List Int) (ms:List Mo) (i o dl:Int) (n p:List (List Int)) (l:List (List Bool)) (pr:List Sit):oCk_run F (k,w,h,c,ms,i,o,dl,n,p,l,pr)=
  bif oFitsOk (k,w,h,c,ms,i,o,dl,n,p,l) then bif oFitsM (k,w,h,c,ms,i,o,dl,n,p,l) !=0 then resC false 0 (oFitsM (k,w,h,c,ms,i,o,dl,n,p,l)) else bif decide ((pr.length:Int)>20000) then resC false 0 54 else
   bif newBodyOk (k,w,h,c,ms) then oCk_L0 F F pr pr (pr.length:Int) 0 k w h c ms i o dl n p l k w h c ms k (cntI ms:Nat) [] (bodyMap ms 0 0 []) else {ok:=false,val:= .junk} else {ok:=false,val:= .junk}:=
 (oCk_arg ..).trans ((oCk_eq ..).trans (by kernel_rfl))
theorem oCk_ret (z:CkZ) (hk:oCkOk z=true):Ret oCk_re oCk_R (oCk_run (oCkFu z) z) (oCkM z):=by
 obtain ⟨k,w,h,c,ms,i,o,dl,n,p,l,pr⟩:=z
 simp only[oCkOk,ckOk,Bool.and_eq_true,decide_eq_true_eq] at hk
 obtain ⟨⟨hc,hm,hp⟩,hfit⟩:=hk
 refine Ret.of (r':=resC (ckM (k,w,h,c,ms,i,o,dl,n,p,l,pr)).1 (ckM (k,w,h,c,ms,i,o,dl,n,p,l,pr)).2.1 (ckM (k,w,h,c,ms,i,o,dl,n,p,l,pr)).2.2) ?_ (retResC _ _ _)
 refine (oCk_txt (pr.length+20) k w h c ms i o dl n p l pr).trans ?_
 rw[show oFitsOk (k,w,h,c,ms,i,o,dl,n,p,l)=true from decide_eq_true ⟨hc,hm⟩,show oFitsM (k,w,h,c,ms,i,o,dl,n,p,l)=askedM (k,w,h,c,ms,i,o,dl,n,p,l) from rfl,beq_ne]
 simp only[cond_true,ckM]
 by_cases ha:askedM (k,w,h,c,ms,i,o,dl,n,p,l)=0
 ·obtain ⟨v,ct,_⟩:=asked0 ha
  have hml:=v.len
  rw[decide_eq_true ha]
  simp only[Bool.not_true,cond_false,cond_true]
  by_cases hl:pr.length>20000
  ·rw[decide_eq_true (show (pr.length:Int)>20000 by omega),decide_eq_true hl];rfl
  ·rw[decide_eq_false (show ¬(pr.length:Int)>20000 by omega),decide_eq_false hl,show newBodyOk (k,w,h,c,ms)=true from decide_eq_true (by omega)]
   simp only[cond_false,cond_true]
   have hfit':∀s∈pr,sitFit s=true:=fun s hs=>List.all_eq_true.1 hfit s hs
   have l0:=oCk_p (pr.length+20) (k:=k) (w:=w) (h:=h) (c:=c) (ms:=ms) ct (by omega) (by omega) hfit' (rk:=k) (ins:=(cntI ms:Nat)) (m4:=bodyMap ms 0 0 []) pr.length (pr.length+20) 0 [] (by omega) (by omega)
   have l1:=oCk_s (pr.length+20) (by omega) v ct (pr:=pr) (by omega) hfit' (ins:=(cntI ms:Nat)) pr.length (pr.length+20) 0 (by omega) (by omega)
   rw[List.drop_zero,show ((0:Nat):Int)=0 from rfl] at l0 l1
   rw[l0,l1]
   rfl
 ·rw[decide_eq_false ha];rfl
noncomputable def tbTDL_1:=addC 12 (tspec oCk_sh oCk_K oCk_re oCk_R oCkOk oCkM) tbTD
theorem tabTDL_1:Tab Tryd.prog tbTDL_1 cxMd tbKTD:=Tab.addTy (os:=[]) tabTD tabTD (KK:=oCk_K) (R:=oCk_R) (fn:=Tryd.f12) (by kernel_rfl) (by kernel_rfl) (by kernel_rfl) (by kernel_rfl) _ oCkFu oCk_ret
noncomputable def tbTDB:=tbTDL_1
noncomputable def tbKTDB:KT:=tbKTD
theorem tabTDB:Tab Tryd.prog tbTDB cxMd tbKTDB:=tabTDL_1
end Go.Proofs.YtiglikocfjhkcaaDoor
