/- The way back to a situation; lists of situations that are the same. -/
import Derived.Test.YtiglikocfjhkcaaDoorTD
import Derived.Test.YtiglikocfjhkcaaDoorProg
import Derived.KernelRfl
import Derived.Test.YtiglikocfjhkcaaDoorTCL
set_option linter.all false
set_option linter.unusedVariables false
set_option linter.unusedSimpArgs false
open Go Go.Abs Go.Proofs
namespace Go.Proofs.YtiglikocfjhkcaaDoor
noncomputable def tbUB:FuncId→List AV→List Blk→Res:=tbTDB
noncomputable def tbKUB:KT:=tbKTDB
theorem tabUB:Tab Tryd.prog tbUB cxMd tbKUB:=tabTDB
noncomputable def cx_oPv (F:Nat):Cx:={P:=Tryd.prog,C:=tbUB,K:=tbKUB,mode:=cxMd,fuel:=F,live:=liveTab [(8,[10,5,11,9,4,3,8]),(11,[53,52,51,10,5,11,9,4,3,8]),(17,[5,16,12,10])],pin:=0,nx:=true}
def oPv_K:CK:=CK.pair (CK.int IntKind.i64) (CK.pair (CK.int IntKind.i64) (CK.pair (CK.int IntKind.i64) (CK.pair (CK.slice 3 (CK.int IntKind.i64)) (CK.pair (CK.slice 50 (CK.pair (CK.int IntKind.i64) (CK.pair (CK.int IntKind.i64) (CK.pair (CK.int IntKind.i64) CK.bool)))) (CK.pair (CK.int IntKind.i64) (CK.pair (CK.int IntKind.i64) (CK.pair (CK.int IntKind.i64) (CK.pair (CK.slice 22 (CK.slice 3 (CK.int IntKind.i64))) (CK.pair (CK.slice 22 (CK.slice 3 (CK.int IntKind.i64))) (CK.slice 51 (CK.slice 4 CK.bool)))))))))))
def oPv_sh:List (Option Nat):=[some 5,some 6]
def oPv_R:CK:=CK.pair (CK.slice 59 (CK.pair (CK.slice 3 (CK.int IntKind.i64)) (CK.pair (CK.int IntKind.i64) (CK.slice 3 (CK.int IntKind.i64))))) (CK.pair (CK.slice 3 (CK.int IntKind.i64)) (CK.int IntKind.i64))
def oPv_re:List (Option Nat):=[none,none,none]
noncomputable def oPv_L0r (F:Nat) (n:Nat) (s11:Int) (h0_0:Int) (h0_1:Int) (h0_2:Int) (h0_3:List (List Int)) (h0_4:List (List Int)) (h0_5:List (List Bool)) (h1:List (List Int×Int×List Int)) (h2:List Int) (h3_0:Int) (h3_1:Int) (h3_2:Int) (h3_3:List Int) (h3_4:List (Int×Int×Int×Bool)) (h3_5:Int) (h3_7:Int) (h4:List ((List UInt8×List UInt8×Int)×Bool)) (h5:List (Int×Int)) (h6:List ((Int×Int×Int)×Int)):Res:=Lp (cx_oPv F) (loopBy (loopsOf (cx_oPv F) (bodyOf Tryd.f7) (endK (cx_oPv F) Tryd.f7)) 8) n {T:=fr 119 [(3,AV.ptr 0 0),(4,AV.sl 1 0 0 none),(5,AV.sl 2 0 0 none),(8,AV.ptr 3 0),(9,AV.mp 4),(10,AV.sl 5 0 0 none),(11,AV.int IntKind.i64 s11)],H:=[Blk.cells [AV.int IntKind.i64 h0_0,AV.int IntKind.i64 h0_1,AV.int IntKind.i64 h0_2,AV.ro (CK.slice 3 (CK.int IntKind.i64)) h0_3,AV.ro (CK.slice 3 (CK.int IntKind.i64)) h0_4,AV.ro (CK.slice 4 CK.bool) h0_5],Blk.row 0 59 (CK.pair (CK.slice 3 (CK.int IntKind.i64)) (CK.pair (CK.int IntKind.i64) (CK.slice 3 (CK.int IntKind.i64)))) h1,Blk.row 0 3 (CK.int IntKind.i64) h2,Blk.cells [AV.int IntKind.i64 h3_0,AV.int IntKind.i64 h3_1,AV.int IntKind.i64 h3_2,AV.ro (CK.int IntKind.i64) h3_3,AV.ro (CK.pair (CK.int IntKind.i64) (CK.pair (CK.int IntKind.i64) (CK.pair (CK.int IntKind.i64) CK.bool))) h3_4,AV.int IntKind.i64 h3_5,AV.nils,AV.int IntKind.i64 h3_7,AV.mp 6],Blk.map true false (CK.pair CK.str (CK.pair CK.str (CK.int IntKind.i64))) CK.bool h4,Blk.row 0 62 (CK.pair (CK.int IntKind.i64) (CK.int IntKind.i64)) h5,Blk.map true false (CK.pair (CK.int IntKind.i64) (CK.pair (CK.int IntKind.i64) (CK.int IntKind.i64))) (CK.int IntKind.i64) h6],ok:=true}
noncomputable def oPv_L0:Nat→Nat→Int→Int→Int→Int→List (List Int)→List (List Int)→List (List Bool)→List (List Int×Int×List Int)→List Int→Int→Int→Int→List Int→List (Int×Int×Int×Bool)→Int→Int→List ((List UInt8×List UInt8×Int)×Bool)→List (Int×Int)→List ((Int×Int×Int)×Int)→Res:=Classical.choose (hideE oPv_L0r)
theorem oPv_L0_def:oPv_L0=oPv_L0r:=Classical.choose_spec (hideE oPv_L0r)
noncomputable def oPv_L1r (F:Nat) (m0:Nat) (n:Nat) (s11:Int) (s51:List Bool) (s52:Int) (s53:Int) (h0_0:Int) (h0_1:Int) (h0_2:Int) (h0_3:List (List Int)) (h0_4:List (List Int)) (h0_5:List (List Bool)) (h1:List (List Int×Int×List Int)) (h2:List Int) (h3_0:Int) (h3_1:Int) (h3_2:Int) (h3_3:List Int) (h3_4:List (Int×Int×Int×Bool)) (h3_5:Int) (h3_7:Int) (h4:List ((List UInt8×List UInt8×Int)×Bool)) (h5:List (Int×Int)) (h6:List ((Int×Int×Int)×Int)):Res:=Lp (cx_oPv F) (loopBy (innersOf (cx_oPv F) (loopBy (loopsOf (cx_oPv F) (bodyOf Tryd.f7) (endK (cx_oPv F) Tryd.f7)) 8) m0) 11) n {T:=fr 119 [(3,AV.ptr 0 0),(4,AV.sl 1 0 0 none),(5,AV.sl 2 0 0 none),(8,AV.ptr 3 0),(9,AV.mp 4),(10,AV.sl 5 0 0 none),(11,AV.int IntKind.i64 s11),(51,AV.ro CK.bool s51),(52,AV.int IntKind.i64 s52),(53,AV.int IntKind.i64 s53)],H:=[Blk.cells [AV.int IntKind.i64 h0_0,AV.int IntKind.i64 h0_1,AV.int IntKind.i64 h0_2,AV.ro (CK.slice 3 (CK.int IntKind.i64)) h0_3,AV.ro (CK.slice 3 (CK.int IntKind.i64)) h0_4,AV.ro (CK.slice 4 CK.bool) h0_5],Blk.row 0 59 (CK.pair (CK.slice 3 (CK.int IntKind.i64)) (CK.pair (CK.int IntKind.i64) (CK.slice 3 (CK.int IntKind.i64)))) h1,Blk.row 0 3 (CK.int IntKind.i64) h2,Blk.cells [AV.int IntKind.i64 h3_0,AV.int IntKind.i64 h3_1,AV.int IntKind.i64 h3_2,AV.ro (CK.int IntKind.i64) h3_3,AV.ro (CK.pair (CK.int IntKind.i64) (CK.pair (CK.int IntKind.i64) (CK.pair (CK.int IntKind.i64) CK.bool))) h3_4,AV.int IntKind.i64 h3_5,AV.nils,AV.int IntKind.i64 h3_7,AV.mp 6],Blk.map true false (CK.pair CK.str (CK.pair CK.str (CK.int IntKind.i64))) CK.bool h4,Blk.row 0 62 (CK.pair (CK.int IntKind.i64) (CK.int IntKind.i64)) h5,Blk.map true false (CK.pair (CK.int IntKind.i64) (CK.pair (CK.int IntKind.i64) (CK.int IntKind.i64))) (CK.int IntKind.i64) h6],ok:=true}
noncomputable def oPv_L1:Nat→Nat→Nat→Int→List Bool→Int→Int→Int→Int→Int→List (List Int)→List (List Int)→List (List Bool)→List (List Int×Int×List Int)→List Int→Int→Int→Int→List Int→List (Int×Int×Int×Bool)→Int→Int→List ((List UInt8×List UInt8×Int)×Bool)→List (Int×Int)→List ((Int×Int×Int)×Int)→Res:=Classical.choose (hideE oPv_L1r)
theorem oPv_L1_def:oPv_L1=oPv_L1r:=Classical.choose_spec (hideE oPv_L1r)
noncomputable def oPv_L2r (F:Nat) (m0:Nat) (m1:Nat) (n:Nat) (s12:Int) (s16:Int) (h0:List Int) (h1:List (Int×Int)):Res:=Lp (cx_oPv F) (loopBy (innersOf (cx_oPv F) (loopBy (innersOf (cx_oPv F) (loopBy (loopsOf (cx_oPv F) (bodyOf Tryd.f7) (endK (cx_oPv F) Tryd.f7)) 8) m1) 11) m0) 17) n {T:=fr 119 [(5,AV.sl 0 0 0 none),(10,AV.sl 1 0 0 none),(12,AV.int IntKind.i64 s12),(16,AV.int IntKind.i64 s16)],H:=[Blk.row 0 3 (CK.int IntKind.i64) h0,Blk.row 0 62 (CK.pair (CK.int IntKind.i64) (CK.int IntKind.i64)) h1],ok:=true}
noncomputable def oPv_L2:Nat→Nat→Nat→Nat→Int→Int→List Int→List (Int×Int)→Res:=Classical.choose (hideE oPv_L2r)
theorem oPv_L2_def:oPv_L2=oPv_L2r:=Classical.choose_spec (hideE oPv_L2r)
theorem oPv_L0_succ (F:Nat) (n:Nat) (s11:Int) (h0_0:Int) (h0_1:Int) (h0_2:Int) (h0_3:List (List Int)) (h0_4:List (List Int)) (h0_5:List (List Bool)) (h1:List (List Int×Int×List Int)) (h2:List Int) (h3_0:Int) (h3_1:Int) (h3_2:Int) (h3_3:List Int) (h3_4:List (Int×Int×Int×Bool)) (h3_5:Int) (h3_7:Int) (h4:List ((List UInt8×List UInt8×Int)×Bool)) (h5:List (Int×Int)) (h6:List ((Int×Int×Int)×Int)):oPv_L0 F (n+1) s11 h0_0 h0_1 h0_2 h0_3 h0_4 h0_5 h1 h2 h3_0 h3_1 h3_2 h3_3 h3_4 h3_5 h3_7 h4 h5 h6=bif decide (s11<(↑(List.length h1):Int)) then bif decide (0≤s11)&&decide (s11<(↑(List.length h1):Int)) then bif decide (Int.toNat s11<List.length h1) then bif decide (0≤Prod.fst (Prod.snd (nth ([],0,[]) h1 (Int.toNat s11))))&&decide (Prod.fst (Prod.snd (nth ([],0,[]) h1 (Int.toNat s11)))<(↑(List.length h0_5):Int)) then oPv_L1 F n F s11 (nth [] h0_5 (Int.toNat (Prod.fst (Prod.snd (nth ([],0,[]) h1 (Int.toNat s11)))))) (↑(List.length (nth [] h0_5 (Int.toNat (Prod.fst (Prod.snd (nth ([],0,[]) h1 (Int.toNat s11))))))):Int) 0 h0_0 h0_1 h0_2 h0_3 h0_4 h0_5 h1 h2 h3_0 h3_1 h3_2 h3_3 h3_4 h3_5 h3_7 h4 h5 h6 else {ok:=false,val:=AV.junk} else {ok:=false,val:=AV.junk} else {ok:=false,val:=AV.junk} else {ok:=true,val:=AV.tup [AV.sl 0 0 0 none,AV.sl 1 0 0 none,AV.int IntKind.i64 0],heap:=[Blk.row 0 59 (CK.pair (CK.slice 3 (CK.int IntKind.i64)) (CK.pair (CK.int IntKind.i64) (CK.slice 3 (CK.int IntKind.i64)))) h1,Blk.row 0 3 (CK.int IntKind.i64) []]}:=by rewrite [oPv_L0_def,oPv_L1_def];kernel_rfl
theorem oPv_L1_succ (F:Nat) (m0:Nat) (n:Nat) (s11:Int) (s51:List Bool) (s52:Int) (s53:Int) (h0_0:Int) (h0_1:Int) (h0_2:Int) (h0_3:List (List Int)) (h0_4:List (List Int)) (h0_5:List (List Bool)) (h1:List (List Int×Int×List Int)) (h2:List Int) (h3_0:Int) (h3_1:Int) (h3_2:Int) (h3_3:List Int) (h3_4:List (Int×Int×Int×Bool)) (h3_5:Int) (h3_7:Int) (h4:List ((List UInt8×List UInt8×Int)×Bool)) (h5:List (Int×Int)) (h6:List ((Int×Int×Int)×Int)):oPv_L1 F m0 (n+1) s11 s51 s52 s53 h0_0 h0_1 h0_2 h0_3 h0_4 h0_5 h1 h2 h3_0 h3_1 h3_2 h3_3 h3_4 h3_5 h3_7 h4 h5 h6=bif decide (s53<s52) then bif decide (0≤s53)&&decide (s53<(↑(List.length s51):Int)) then bif !nth false s51 (Int.toNat s53) then oPv_L1 F m0 n s11 s51 s52 (IntKind.wrap IntKind.i64 (s53+1)) h0_0 h0_1 h0_2 h0_3 h0_4 h0_5 h1 h2 h3_0 h3_1 h3_2 h3_3 h3_4 h3_5 h3_7 h4 h5 h6 else bif decide (0≤s11)&&decide (s11<(↑(List.length h1):Int)) then bif decide (Int.toNat s11<List.length h1) then bif Res.ok (leadSpec [AV.ptr 0 0,AV.agg [AV.int IntKind.i64 h0_0,AV.int IntKind.i64 h0_1,AV.int IntKind.i64 h0_2,AV.ro (CK.slice 3 (CK.int IntKind.i64)) h0_3,AV.ro (CK.slice 3 (CK.int IntKind.i64)) h0_4,AV.ro (CK.slice 4 CK.bool) h0_5],AV.agg [AV.ro (CK.int IntKind.i64) ((Prod.fst (nth ([],0,[]) h1 (Int.toNat s11))):List Int),AV.int IntKind.i64 (Prod.fst (Prod.snd (nth ([],0,[]) h1 (Int.toNat s11)))),AV.ro (CK.int IntKind.i64) ((Prod.snd (Prod.snd (nth ([],0,[]) h1 (Int.toNat s11)))):List Int)],AV.int IntKind.i64 s53] [Blk.cells [AV.int IntKind.i64 h3_0,AV.int IntKind.i64 h3_1,AV.int IntKind.i64 h3_2,AV.ro (CK.int IntKind.i64) h3_3,AV.ro (CK.pair (CK.int IntKind.i64) (CK.pair (CK.int IntKind.i64) (CK.pair (CK.int IntKind.i64) CK.bool))) h3_4,AV.int IntKind.i64 h3_5,AV.nils,AV.int IntKind.i64 h3_7,AV.mp 1],Blk.map true false (CK.pair (CK.int IntKind.i64) (CK.pair (CK.int IntKind.i64) (CK.int IntKind.i64))) (CK.int IntKind.i64) h6]) then bif !Prod.snd (Prod.snd (Prod.snd (leadM (bodyX [Blk.cells [AV.int IntKind.i64 h3_0,AV.int IntKind.i64 h3_1,AV.int IntKind.i64 h3_2,AV.ro (CK.int IntKind.i64) h3_3,AV.ro (CK.pair (CK.int IntKind.i64) (CK.pair (CK.int IntKind.i64) (CK.pair (CK.int IntKind.i64) CK.bool))) h3_4,AV.int IntKind.i64 h3_5,AV.nils,AV.int IntKind.i64 h3_7,AV.mp 1],Blk.map true false (CK.pair (CK.int IntKind.i64) (CK.pair (CK.int IntKind.i64) (CK.int IntKind.i64))) (CK.int IntKind.i64) h6],ctX (AV.agg [AV.int IntKind.i64 h0_0,AV.int IntKind.i64 h0_1,AV.int IntKind.i64 h0_2,AV.ro (CK.slice 3 (CK.int IntKind.i64)) h0_3,AV.ro (CK.slice 3 (CK.int IntKind.i64)) h0_4,AV.ro (CK.slice 4 CK.bool) h0_5]),siX (AV.agg [AV.ro (CK.int IntKind.i64) ((Prod.fst (nth ([],0,[]) h1 (Int.toNat s11))):List Int),AV.int IntKind.i64 (Prod.fst (Prod.snd (nth ([],0,[]) h1 (Int.toNat s11)))),AV.ro (CK.int IntKind.i64) ((Prod.snd (Prod.snd (nth ([],0,[]) h1 (Int.toNat s11)))):List Int)]),s53)))) then oPv_L2 F n m0 F s53 s11 h2 h5 else bif keyOfOk (Prod.fst (leadM (bodyX [Blk.cells [AV.int IntKind.i64 h3_0,AV.int IntKind.i64 h3_1,AV.int IntKind.i64 h3_2,AV.ro (CK.int IntKind.i64) h3_3,AV.ro (CK.pair (CK.int IntKind.i64) (CK.pair (CK.int IntKind.i64) (CK.pair (CK.int IntKind.i64) CK.bool))) h3_4,AV.int IntKind.i64 h3_5,AV.nils,AV.int IntKind.i64 h3_7,AV.mp 1],Blk.map true false (CK.pair (CK.int IntKind.i64) (CK.pair (CK.int IntKind.i64) (CK.int IntKind.i64))) (CK.int IntKind.i64) h6],ctX (AV.agg [AV.int IntKind.i64 h0_0,AV.int IntKind.i64 h0_1,AV.int IntKind.i64 h0_2,AV.ro (CK.slice 3 (CK.int IntKind.i64)) h0_3,AV.ro (CK.slice 3 (CK.int IntKind.i64)) h0_4,AV.ro (CK.slice 4 CK.bool) h0_5]),siX (AV.agg [AV.ro (CK.int IntKind.i64) ((Prod.fst (nth ([],0,[]) h1 (Int.toNat s11))):List Int),AV.int IntKind.i64 (Prod.fst (Prod.snd (nth ([],0,[]) h1 (Int.toNat s11)))),AV.ro (CK.int IntKind.i64) ((Prod.snd (Prod.snd (nth ([],0,[]) h1 (Int.toNat s11)))):List Int)]),s53)),Prod.fst (Prod.snd (leadM (bodyX [Blk.cells [AV.int IntKind.i64 h3_0,AV.int IntKind.i64 h3_1,AV.int IntKind.i64 h3_2,AV.ro (CK.int IntKind.i64) h3_3,AV.ro (CK.pair (CK.int IntKind.i64) (CK.pair (CK.int IntKind.i64) (CK.pair (CK.int IntKind.i64) CK.bool))) h3_4,AV.int IntKind.i64 h3_5,AV.nils,AV.int IntKind.i64 h3_7,AV.mp 1],Blk.map true false (CK.pair (CK.int IntKind.i64) (CK.pair (CK.int IntKind.i64) (CK.int IntKind.i64))) (CK.int IntKind.i64) h6],ctX (AV.agg [AV.int IntKind.i64 h0_0,AV.int IntKind.i64 h0_1,AV.int IntKind.i64 h0_2,AV.ro (CK.slice 3 (CK.int IntKind.i64)) h0_3,AV.ro (CK.slice 3 (CK.int IntKind.i64)) h0_4,AV.ro (CK.slice 4 CK.bool) h0_5]),siX (AV.agg [AV.ro (CK.int IntKind.i64) ((Prod.fst (nth ([],0,[]) h1 (Int.toNat s11))):List Int),AV.int IntKind.i64 (Prod.fst (Prod.snd (nth ([],0,[]) h1 (Int.toNat s11)))),AV.ro (CK.int IntKind.i64) ((Prod.snd (Prod.snd (nth ([],0,[]) h1 (Int.toNat s11)))):List Int)]),s53))),Prod.fst (Prod.snd (Prod.snd (leadM (bodyX [Blk.cells [AV.int IntKind.i64 h3_0,AV.int IntKind.i64 h3_1,AV.int IntKind.i64 h3_2,AV.ro (CK.int IntKind.i64) h3_3,AV.ro (CK.pair (CK.int IntKind.i64) (CK.pair (CK.int IntKind.i64) (CK.pair (CK.int IntKind.i64) CK.bool))) h3_4,AV.int IntKind.i64 h3_5,AV.nils,AV.int IntKind.i64 h3_7,AV.mp 1],Blk.map true false (CK.pair (CK.int IntKind.i64) (CK.pair (CK.int IntKind.i64) (CK.int IntKind.i64))) (CK.int IntKind.i64) h6],ctX (AV.agg [AV.int IntKind.i64 h0_0,AV.int IntKind.i64 h0_1,AV.int IntKind.i64 h0_2,AV.ro (CK.slice 3 (CK.int IntKind.i64)) h0_3,AV.ro (CK.slice 3 (CK.int IntKind.i64)) h0_4,AV.ro (CK.slice 4 CK.bool) h0_5]),siX (AV.agg [AV.ro (CK.int IntKind.i64) ((Prod.fst (nth ([],0,[]) h1 (Int.toNat s11))):List Int),AV.int IntKind.i64 (Prod.fst (Prod.snd (nth ([],0,[]) h1 (Int.toNat s11)))),AV.ro (CK.int IntKind.i64) ((Prod.snd (Prod.snd (nth ([],0,[]) h1 (Int.toNat s11)))):List Int)]),s53))))) then bif getM (CK.pair CK.str (CK.pair CK.str (CK.int IntKind.i64))) false h4 ((Prod.fst (keyOfM (Prod.fst (leadM (bodyX [Blk.cells [AV.int IntKind.i64 h3_0,AV.int IntKind.i64 h3_1,AV.int IntKind.i64 h3_2,AV.ro (CK.int IntKind.i64) h3_3,AV.ro (CK.pair (CK.int IntKind.i64) (CK.pair (CK.int IntKind.i64) (CK.pair (CK.int IntKind.i64) CK.bool))) h3_4,AV.int IntKind.i64 h3_5,AV.nils,AV.int IntKind.i64 h3_7,AV.mp 1],Blk.map true false (CK.pair (CK.int IntKind.i64) (CK.pair (CK.int IntKind.i64) (CK.int IntKind.i64))) (CK.int IntKind.i64) h6],ctX (AV.agg [AV.int IntKind.i64 h0_0,AV.int IntKind.i64 h0_1,AV.int IntKind.i64 h0_2,AV.ro (CK.slice 3 (CK.int IntKind.i64)) h0_3,AV.ro (CK.slice 3 (CK.int IntKind.i64)) h0_4,AV.ro (CK.slice 4 CK.bool) h0_5]),siX (AV.agg [AV.ro (CK.int IntKind.i64) ((Prod.fst (nth ([],0,[]) h1 (Int.toNat s11))):List Int),AV.int IntKind.i64 (Prod.fst (Prod.snd (nth ([],0,[]) h1 (Int.toNat s11)))),AV.ro (CK.int IntKind.i64) ((Prod.snd (Prod.snd (nth ([],0,[]) h1 (Int.toNat s11)))):List Int)]),s53)),Prod.fst (Prod.snd (leadM (bodyX [Blk.cells [AV.int IntKind.i64 h3_0,AV.int IntKind.i64 h3_1,AV.int IntKind.i64 h3_2,AV.ro (CK.int IntKind.i64) h3_3,AV.ro (CK.pair (CK.int IntKind.i64) (CK.pair (CK.int IntKind.i64) (CK.pair (CK.int IntKind.i64) CK.bool))) h3_4,AV.int IntKind.i64 h3_5,AV.nils,AV.int IntKind.i64 h3_7,AV.mp 1],Blk.map true false (CK.pair (CK.int IntKind.i64) (CK.pair (CK.int IntKind.i64) (CK.int IntKind.i64))) (CK.int IntKind.i64) h6],ctX (AV.agg [AV.int IntKind.i64 h0_0,AV.int IntKind.i64 h0_1,AV.int IntKind.i64 h0_2,AV.ro (CK.slice 3 (CK.int IntKind.i64)) h0_3,AV.ro (CK.slice 3 (CK.int IntKind.i64)) h0_4,AV.ro (CK.slice 4 CK.bool) h0_5]),siX (AV.agg [AV.ro (CK.int IntKind.i64) ((Prod.fst (nth ([],0,[]) h1 (Int.toNat s11))):List Int),AV.int IntKind.i64 (Prod.fst (Prod.snd (nth ([],0,[]) h1 (Int.toNat s11)))),AV.ro (CK.int IntKind.i64) ((Prod.snd (Prod.snd (nth ([],0,[]) h1 (Int.toNat s11)))):List Int)]),s53))),Prod.fst (Prod.snd (Prod.snd (leadM (bodyX [Blk.cells [AV.int IntKind.i64 h3_0,AV.int IntKind.i64 h3_1,AV.int IntKind.i64 h3_2,AV.ro (CK.int IntKind.i64) h3_3,AV.ro (CK.pair (CK.int IntKind.i64) (CK.pair (CK.int IntKind.i64) (CK.pair (CK.int IntKind.i64) CK.bool))) h3_4,AV.int IntKind.i64 h3_5,AV.nils,AV.int IntKind.i64 h3_7,AV.mp 1],Blk.map true false (CK.pair (CK.int IntKind.i64) (CK.pair (CK.int IntKind.i64) (CK.int IntKind.i64))) (CK.int IntKind.i64) h6],ctX (AV.agg [AV.int IntKind.i64 h0_0,AV.int IntKind.i64 h0_1,AV.int IntKind.i64 h0_2,AV.ro (CK.slice 3 (CK.int IntKind.i64)) h0_3,AV.ro (CK.slice 3 (CK.int IntKind.i64)) h0_4,AV.ro (CK.slice 4 CK.bool) h0_5]),siX (AV.agg [AV.ro (CK.int IntKind.i64) ((Prod.fst (nth ([],0,[]) h1 (Int.toNat s11))):List Int),AV.int IntKind.i64 (Prod.fst (Prod.snd (nth ([],0,[]) h1 (Int.toNat s11)))),AV.ro (CK.int IntKind.i64) ((Prod.snd (Prod.snd (nth ([],0,[]) h1 (Int.toNat s11)))):List Int)]),s53)))))),Prod.fst (Prod.snd (keyOfM (Prod.fst (leadM (bodyX [Blk.cells [AV.int IntKind.i64 h3_0,AV.int IntKind.i64 h3_1,AV.int IntKind.i64 h3_2,AV.ro (CK.int IntKind.i64) h3_3,AV.ro (CK.pair (CK.int IntKind.i64) (CK.pair (CK.int IntKind.i64) (CK.pair (CK.int IntKind.i64) CK.bool))) h3_4,AV.int IntKind.i64 h3_5,AV.nils,AV.int IntKind.i64 h3_7,AV.mp 1],Blk.map true false (CK.pair (CK.int IntKind.i64) (CK.pair (CK.int IntKind.i64) (CK.int IntKind.i64))) (CK.int IntKind.i64) h6],ctX (AV.agg [AV.int IntKind.i64 h0_0,AV.int IntKind.i64 h0_1,AV.int IntKind.i64 h0_2,AV.ro (CK.slice 3 (CK.int IntKind.i64)) h0_3,AV.ro (CK.slice 3 (CK.int IntKind.i64)) h0_4,AV.ro (CK.slice 4 CK.bool) h0_5]),siX (AV.agg [AV.ro (CK.int IntKind.i64) ((Prod.fst (nth ([],0,[]) h1 (Int.toNat s11))):List Int),AV.int IntKind.i64 (Prod.fst (Prod.snd (nth ([],0,[]) h1 (Int.toNat s11)))),AV.ro (CK.int IntKind.i64) ((Prod.snd (Prod.snd (nth ([],0,[]) h1 (Int.toNat s11)))):List Int)]),s53)),Prod.fst (Prod.snd (leadM (bodyX [Blk.cells [AV.int IntKind.i64 h3_0,AV.int IntKind.i64 h3_1,AV.int IntKind.i64 h3_2,AV.ro (CK.int IntKind.i64) h3_3,AV.ro (CK.pair (CK.int IntKind.i64) (CK.pair (CK.int IntKind.i64) (CK.pair (CK.int IntKind.i64) CK.bool))) h3_4,AV.int IntKind.i64 h3_5,AV.nils,AV.int IntKind.i64 h3_7,AV.mp 1],Blk.map true false (CK.pair (CK.int IntKind.i64) (CK.pair (CK.int IntKind.i64) (CK.int IntKind.i64))) (CK.int IntKind.i64) h6],ctX (AV.agg [AV.int IntKind.i64 h0_0,AV.int IntKind.i64 h0_1,AV.int IntKind.i64 h0_2,AV.ro (CK.slice 3 (CK.int IntKind.i64)) h0_3,AV.ro (CK.slice 3 (CK.int IntKind.i64)) h0_4,AV.ro (CK.slice 4 CK.bool) h0_5]),siX (AV.agg [AV.ro (CK.int IntKind.i64) ((Prod.fst (nth ([],0,[]) h1 (Int.toNat s11))):List Int),AV.int IntKind.i64 (Prod.fst (Prod.snd (nth ([],0,[]) h1 (Int.toNat s11)))),AV.ro (CK.int IntKind.i64) ((Prod.snd (Prod.snd (nth ([],0,[]) h1 (Int.toNat s11)))):List Int)]),s53))),Prod.fst (Prod.snd (Prod.snd (leadM (bodyX [Blk.cells [AV.int IntKind.i64 h3_0,AV.int IntKind.i64 h3_1,AV.int IntKind.i64 h3_2,AV.ro (CK.int IntKind.i64) h3_3,AV.ro (CK.pair (CK.int IntKind.i64) (CK.pair (CK.int IntKind.i64) (CK.pair (CK.int IntKind.i64) CK.bool))) h3_4,AV.int IntKind.i64 h3_5,AV.nils,AV.int IntKind.i64 h3_7,AV.mp 1],Blk.map true false (CK.pair (CK.int IntKind.i64) (CK.pair (CK.int IntKind.i64) (CK.int IntKind.i64))) (CK.int IntKind.i64) h6],ctX (AV.agg [AV.int IntKind.i64 h0_0,AV.int IntKind.i64 h0_1,AV.int IntKind.i64 h0_2,AV.ro (CK.slice 3 (CK.int IntKind.i64)) h0_3,AV.ro (CK.slice 3 (CK.int IntKind.i64)) h0_4,AV.ro (CK.slice 4 CK.bool) h0_5]),siX (AV.agg [AV.ro (CK.int IntKind.i64) ((Prod.fst (nth ([],0,[]) h1 (Int.toNat s11))):List Int),AV.int IntKind.i64 (Prod.fst (Prod.snd (nth ([],0,[]) h1 (Int.toNat s11)))),AV.ro (CK.int IntKind.i64) ((Prod.snd (Prod.snd (nth ([],0,[]) h1 (Int.toNat s11)))):List Int)]),s53))))))),Prod.snd (Prod.snd (keyOfM (Prod.fst (leadM (bodyX [Blk.cells [AV.int IntKind.i64 h3_0,AV.int IntKind.i64 h3_1,AV.int IntKind.i64 h3_2,AV.ro (CK.int IntKind.i64) h3_3,AV.ro (CK.pair (CK.int IntKind.i64) (CK.pair (CK.int IntKind.i64) (CK.pair (CK.int IntKind.i64) CK.bool))) h3_4,AV.int IntKind.i64 h3_5,AV.nils,AV.int IntKind.i64 h3_7,AV.mp 1],Blk.map true false (CK.pair (CK.int IntKind.i64) (CK.pair (CK.int IntKind.i64) (CK.int IntKind.i64))) (CK.int IntKind.i64) h6],ctX (AV.agg [AV.int IntKind.i64 h0_0,AV.int IntKind.i64 h0_1,AV.int IntKind.i64 h0_2,AV.ro (CK.slice 3 (CK.int IntKind.i64)) h0_3,AV.ro (CK.slice 3 (CK.int IntKind.i64)) h0_4,AV.ro (CK.slice 4 CK.bool) h0_5]),siX (AV.agg [AV.ro (CK.int IntKind.i64) ((Prod.fst (nth ([],0,[]) h1 (Int.toNat s11))):List Int),AV.int IntKind.i64 (Prod.fst (Prod.snd (nth ([],0,[]) h1 (Int.toNat s11)))),AV.ro (CK.int IntKind.i64) ((Prod.snd (Prod.snd (nth ([],0,[]) h1 (Int.toNat s11)))):List Int)]),s53)),Prod.fst (Prod.snd (leadM (bodyX [Blk.cells [AV.int IntKind.i64 h3_0,AV.int IntKind.i64 h3_1,AV.int IntKind.i64 h3_2,AV.ro (CK.int IntKind.i64) h3_3,AV.ro (CK.pair (CK.int IntKind.i64) (CK.pair (CK.int IntKind.i64) (CK.pair (CK.int IntKind.i64) CK.bool))) h3_4,AV.int IntKind.i64 h3_5,AV.nils,AV.int IntKind.i64 h3_7,AV.mp 1],Blk.map true false (CK.pair (CK.int IntKind.i64) (CK.pair (CK.int IntKind.i64) (CK.int IntKind.i64))) (CK.int IntKind.i64) h6],ctX (AV.agg [AV.int IntKind.i64 h0_0,AV.int IntKind.i64 h0_1,AV.int IntKind.i64 h0_2,AV.ro (CK.slice 3 (CK.int IntKind.i64)) h0_3,AV.ro (CK.slice 3 (CK.int IntKind.i64)) h0_4,AV.ro (CK.slice 4 CK.bool) h0_5]),siX (AV.agg [AV.ro (CK.int IntKind.i64) ((Prod.fst (nth ([],0,[]) h1 (Int.toNat s11))):List Int),AV.int IntKind.i64 (Prod.fst (Prod.snd (nth ([],0,[]) h1 (Int.toNat s11)))),AV.ro (CK.int IntKind.i64) ((Prod.snd (Prod.snd (nth ([],0,[]) h1 (Int.toNat s11)))):List Int)]),s53))),Prod.fst (Prod.snd (Prod.snd (leadM (bodyX [Blk.cells [AV.int IntKind.i64 h3_0,AV.int IntKind.i64 h3_1,AV.int IntKind.i64 h3_2,AV.ro (CK.int IntKind.i64) h3_3,AV.ro (CK.pair (CK.int IntKind.i64) (CK.pair (CK.int IntKind.i64) (CK.pair (CK.int IntKind.i64) CK.bool))) h3_4,AV.int IntKind.i64 h3_5,AV.nils,AV.int IntKind.i64 h3_7,AV.mp 1],Blk.map true false (CK.pair (CK.int IntKind.i64) (CK.pair (CK.int IntKind.i64) (CK.int IntKind.i64))) (CK.int IntKind.i64) h6],ctX (AV.agg [AV.int IntKind.i64 h0_0,AV.int IntKind.i64 h0_1,AV.int IntKind.i64 h0_2,AV.ro (CK.slice 3 (CK.int IntKind.i64)) h0_3,AV.ro (CK.slice 3 (CK.int IntKind.i64)) h0_4,AV.ro (CK.slice 4 CK.bool) h0_5]),siX (AV.agg [AV.ro (CK.int IntKind.i64) ((Prod.fst (nth ([],0,[]) h1 (Int.toNat s11))):List Int),AV.int IntKind.i64 (Prod.fst (Prod.snd (nth ([],0,[]) h1 (Int.toNat s11)))),AV.ro (CK.int IntKind.i64) ((Prod.snd (Prod.snd (nth ([],0,[]) h1 (Int.toNat s11)))):List Int)]),s53)))))))):(List UInt8×(List UInt8×Int))) then oPv_L1 F m0 n s11 s51 s52 (IntKind.wrap IntKind.i64 (s53+1)) h0_0 h0_1 h0_2 h0_3 h0_4 h0_5 h1 h2 h3_0 h3_1 h3_2 h3_3 h3_4 h3_5 h3_7 h4 h5 h6 else bif decide ((↑(List.length h1):Int)=20000) then {ok:=true,val:=AV.tup [AV.sl 0 0 0 none,AV.sl 1 0 0 none,AV.int IntKind.i64 54],heap:=[Blk.row 0 59 (CK.pair (CK.slice 3 (CK.int IntKind.i64)) (CK.pair (CK.int IntKind.i64) (CK.slice 3 (CK.int IntKind.i64)))) [],Blk.row 0 3 (CK.int IntKind.i64) []]} else bif keyOfOk (Prod.fst (leadM (bodyX [Blk.cells [AV.int IntKind.i64 h3_0,AV.int IntKind.i64 h3_1,AV.int IntKind.i64 h3_2,AV.ro (CK.int IntKind.i64) h3_3,AV.ro (CK.pair (CK.int IntKind.i64) (CK.pair (CK.int IntKind.i64) (CK.pair (CK.int IntKind.i64) CK.bool))) h3_4,AV.int IntKind.i64 h3_5,AV.nils,AV.int IntKind.i64 h3_7,AV.mp 1],Blk.map true false (CK.pair (CK.int IntKind.i64) (CK.pair (CK.int IntKind.i64) (CK.int IntKind.i64))) (CK.int IntKind.i64) h6],ctX (AV.agg [AV.int IntKind.i64 h0_0,AV.int IntKind.i64 h0_1,AV.int IntKind.i64 h0_2,AV.ro (CK.slice 3 (CK.int IntKind.i64)) h0_3,AV.ro (CK.slice 3 (CK.int IntKind.i64)) h0_4,AV.ro (CK.slice 4 CK.bool) h0_5]),siX (AV.agg [AV.ro (CK.int IntKind.i64) ((Prod.fst (nth ([],0,[]) h1 (Int.toNat s11))):List Int),AV.int IntKind.i64 (Prod.fst (Prod.snd (nth ([],0,[]) h1 (Int.toNat s11)))),AV.ro (CK.int IntKind.i64) ((Prod.snd (Prod.snd (nth ([],0,[]) h1 (Int.toNat s11)))):List Int)]),s53)),Prod.fst (Prod.snd (leadM (bodyX [Blk.cells [AV.int IntKind.i64 h3_0,AV.int IntKind.i64 h3_1,AV.int IntKind.i64 h3_2,AV.ro (CK.int IntKind.i64) h3_3,AV.ro (CK.pair (CK.int IntKind.i64) (CK.pair (CK.int IntKind.i64) (CK.pair (CK.int IntKind.i64) CK.bool))) h3_4,AV.int IntKind.i64 h3_5,AV.nils,AV.int IntKind.i64 h3_7,AV.mp 1],Blk.map true false (CK.pair (CK.int IntKind.i64) (CK.pair (CK.int IntKind.i64) (CK.int IntKind.i64))) (CK.int IntKind.i64) h6],ctX (AV.agg [AV.int IntKind.i64 h0_0,AV.int IntKind.i64 h0_1,AV.int IntKind.i64 h0_2,AV.ro (CK.slice 3 (CK.int IntKind.i64)) h0_3,AV.ro (CK.slice 3 (CK.int IntKind.i64)) h0_4,AV.ro (CK.slice 4 CK.bool) h0_5]),siX (AV.agg [AV.ro (CK.int IntKind.i64) ((Prod.fst (nth ([],0,[]) h1 (Int.toNat s11))):List Int),AV.int IntKind.i64 (Prod.fst (Prod.snd (nth ([],0,[]) h1 (Int.toNat s11)))),AV.ro (CK.int IntKind.i64) ((Prod.snd (Prod.snd (nth ([],0,[]) h1 (Int.toNat s11)))):List Int)]),s53))),Prod.fst (Prod.snd (Prod.snd (leadM (bodyX [Blk.cells [AV.int IntKind.i64 h3_0,AV.int IntKind.i64 h3_1,AV.int IntKind.i64 h3_2,AV.ro (CK.int IntKind.i64) h3_3,AV.ro (CK.pair (CK.int IntKind.i64) (CK.pair (CK.int IntKind.i64) (CK.pair (CK.int IntKind.i64) CK.bool))) h3_4,AV.int IntKind.i64 h3_5,AV.nils,AV.int IntKind.i64 h3_7,AV.mp 1],Blk.map true false (CK.pair (CK.int IntKind.i64) (CK.pair (CK.int IntKind.i64) (CK.int IntKind.i64))) (CK.int IntKind.i64) h6],ctX (AV.agg [AV.int IntKind.i64 h0_0,AV.int IntKind.i64 h0_1,AV.int IntKind.i64 h0_2,AV.ro (CK.slice 3 (CK.int IntKind.i64)) h0_3,AV.ro (CK.slice 3 (CK.int IntKind.i64)) h0_4,AV.ro (CK.slice 4 CK.bool) h0_5]),siX (AV.agg [AV.ro (CK.int IntKind.i64) ((Prod.fst (nth ([],0,[]) h1 (Int.toNat s11))):List Int),AV.int IntKind.i64 (Prod.fst (Prod.snd (nth ([],0,[]) h1 (Int.toNat s11)))),AV.ro (CK.int IntKind.i64) ((Prod.snd (Prod.snd (nth ([],0,[]) h1 (Int.toNat s11)))):List Int)]),s53))))) then bif Nat.ble 0 (List.length h1)&&decide (Nat.mul (Nat.add (List.length h1) 1) 56≤140737488355328) then bif Nat.ble 0 (List.length h5)&&decide (Nat.mul (Nat.add (List.length h5) 1) 16≤140737488355328) then oPv_L1 F m0 n s11 s51 s52 (IntKind.wrap IntKind.i64 (s53+1)) h0_0 h0_1 h0_2 h0_3 h0_4 h0_5 (h1++[(Prod.fst (leadM (bodyX [Blk.cells [AV.int IntKind.i64 h3_0,AV.int IntKind.i64 h3_1,AV.int IntKind.i64 h3_2,AV.ro (CK.int IntKind.i64) h3_3,AV.ro (CK.pair (CK.int IntKind.i64) (CK.pair (CK.int IntKind.i64) (CK.pair (CK.int IntKind.i64) CK.bool))) h3_4,AV.int IntKind.i64 h3_5,AV.nils,AV.int IntKind.i64 h3_7,AV.mp 1],Blk.map true false (CK.pair (CK.int IntKind.i64) (CK.pair (CK.int IntKind.i64) (CK.int IntKind.i64))) (CK.int IntKind.i64) h6],ctX (AV.agg [AV.int IntKind.i64 h0_0,AV.int IntKind.i64 h0_1,AV.int IntKind.i64 h0_2,AV.ro (CK.slice 3 (CK.int IntKind.i64)) h0_3,AV.ro (CK.slice 3 (CK.int IntKind.i64)) h0_4,AV.ro (CK.slice 4 CK.bool) h0_5]),siX (AV.agg [AV.ro (CK.int IntKind.i64) ((Prod.fst (nth ([],0,[]) h1 (Int.toNat s11))):List Int),AV.int IntKind.i64 (Prod.fst (Prod.snd (nth ([],0,[]) h1 (Int.toNat s11)))),AV.ro (CK.int IntKind.i64) ((Prod.snd (Prod.snd (nth ([],0,[]) h1 (Int.toNat s11)))):List Int)]),s53)),Prod.fst (Prod.snd (leadM (bodyX [Blk.cells [AV.int IntKind.i64 h3_0,AV.int IntKind.i64 h3_1,AV.int IntKind.i64 h3_2,AV.ro (CK.int IntKind.i64) h3_3,AV.ro (CK.pair (CK.int IntKind.i64) (CK.pair (CK.int IntKind.i64) (CK.pair (CK.int IntKind.i64) CK.bool))) h3_4,AV.int IntKind.i64 h3_5,AV.nils,AV.int IntKind.i64 h3_7,AV.mp 1],Blk.map true false (CK.pair (CK.int IntKind.i64) (CK.pair (CK.int IntKind.i64) (CK.int IntKind.i64))) (CK.int IntKind.i64) h6],ctX (AV.agg [AV.int IntKind.i64 h0_0,AV.int IntKind.i64 h0_1,AV.int IntKind.i64 h0_2,AV.ro (CK.slice 3 (CK.int IntKind.i64)) h0_3,AV.ro (CK.slice 3 (CK.int IntKind.i64)) h0_4,AV.ro (CK.slice 4 CK.bool) h0_5]),siX (AV.agg [AV.ro (CK.int IntKind.i64) ((Prod.fst (nth ([],0,[]) h1 (Int.toNat s11))):List Int),AV.int IntKind.i64 (Prod.fst (Prod.snd (nth ([],0,[]) h1 (Int.toNat s11)))),AV.ro (CK.int IntKind.i64) ((Prod.snd (Prod.snd (nth ([],0,[]) h1 (Int.toNat s11)))):List Int)]),s53))),Prod.fst (Prod.snd (Prod.snd (leadM (bodyX [Blk.cells [AV.int IntKind.i64 h3_0,AV.int IntKind.i64 h3_1,AV.int IntKind.i64 h3_2,AV.ro (CK.int IntKind.i64) h3_3,AV.ro (CK.pair (CK.int IntKind.i64) (CK.pair (CK.int IntKind.i64) (CK.pair (CK.int IntKind.i64) CK.bool))) h3_4,AV.int IntKind.i64 h3_5,AV.nils,AV.int IntKind.i64 h3_7,AV.mp 1],Blk.map true false (CK.pair (CK.int IntKind.i64) (CK.pair (CK.int IntKind.i64) (CK.int IntKind.i64))) (CK.int IntKind.i64) h6],ctX (AV.agg [AV.int IntKind.i64 h0_0,AV.int IntKind.i64 h0_1,AV.int IntKind.i64 h0_2,AV.ro (CK.slice 3 (CK.int IntKind.i64)) h0_3,AV.ro (CK.slice 3 (CK.int IntKind.i64)) h0_4,AV.ro (CK.slice 4 CK.bool) h0_5]),siX (AV.agg [AV.ro (CK.int IntKind.i64) ((Prod.fst (nth ([],0,[]) h1 (Int.toNat s11))):List Int),AV.int IntKind.i64 (Prod.fst (Prod.snd (nth ([],0,[]) h1 (Int.toNat s11)))),AV.ro (CK.int IntKind.i64) ((Prod.snd (Prod.snd (nth ([],0,[]) h1 (Int.toNat s11)))):List Int)]),s53)))))]) h2 h3_0 h3_1 h3_2 h3_3 h3_4 h3_5 h3_7 (insM (CK.pair CK.str (CK.pair CK.str (CK.int IntKind.i64))) h4 ((Prod.fst (keyOfM (Prod.fst (leadM (bodyX [Blk.cells [AV.int IntKind.i64 h3_0,AV.int IntKind.i64 h3_1,AV.int IntKind.i64 h3_2,AV.ro (CK.int IntKind.i64) h3_3,AV.ro (CK.pair (CK.int IntKind.i64) (CK.pair (CK.int IntKind.i64) (CK.pair (CK.int IntKind.i64) CK.bool))) h3_4,AV.int IntKind.i64 h3_5,AV.nils,AV.int IntKind.i64 h3_7,AV.mp 1],Blk.map true false (CK.pair (CK.int IntKind.i64) (CK.pair (CK.int IntKind.i64) (CK.int IntKind.i64))) (CK.int IntKind.i64) h6],ctX (AV.agg [AV.int IntKind.i64 h0_0,AV.int IntKind.i64 h0_1,AV.int IntKind.i64 h0_2,AV.ro (CK.slice 3 (CK.int IntKind.i64)) h0_3,AV.ro (CK.slice 3 (CK.int IntKind.i64)) h0_4,AV.ro (CK.slice 4 CK.bool) h0_5]),siX (AV.agg [AV.ro (CK.int IntKind.i64) ((Prod.fst (nth ([],0,[]) h1 (Int.toNat s11))):List Int),AV.int IntKind.i64 (Prod.fst (Prod.snd (nth ([],0,[]) h1 (Int.toNat s11)))),AV.ro (CK.int IntKind.i64) ((Prod.snd (Prod.snd (nth ([],0,[]) h1 (Int.toNat s11)))):List Int)]),s53)),Prod.fst (Prod.snd (leadM (bodyX [Blk.cells [AV.int IntKind.i64 h3_0,AV.int IntKind.i64 h3_1,AV.int IntKind.i64 h3_2,AV.ro (CK.int IntKind.i64) h3_3,AV.ro (CK.pair (CK.int IntKind.i64) (CK.pair (CK.int IntKind.i64) (CK.pair (CK.int IntKind.i64) CK.bool))) h3_4,AV.int IntKind.i64 h3_5,AV.nils,AV.int IntKind.i64 h3_7,AV.mp 1],Blk.map true false (CK.pair (CK.int IntKind.i64) (CK.pair (CK.int IntKind.i64) (CK.int IntKind.i64))) (CK.int IntKind.i64) h6],ctX (AV.agg [AV.int IntKind.i64 h0_0,AV.int IntKind.i64 h0_1,AV.int IntKind.i64 h0_2,AV.ro (CK.slice 3 (CK.int IntKind.i64)) h0_3,AV.ro (CK.slice 3 (CK.int IntKind.i64)) h0_4,AV.ro (CK.slice 4 CK.bool) h0_5]),siX (AV.agg [AV.ro (CK.int IntKind.i64) ((Prod.fst (nth ([],0,[]) h1 (Int.toNat s11))):List Int),AV.int IntKind.i64 (Prod.fst (Prod.snd (nth ([],0,[]) h1 (Int.toNat s11)))),AV.ro (CK.int IntKind.i64) ((Prod.snd (Prod.snd (nth ([],0,[]) h1 (Int.toNat s11)))):List Int)]),s53))),Prod.fst (Prod.snd (Prod.snd (leadM (bodyX [Blk.cells [AV.int IntKind.i64 h3_0,AV.int IntKind.i64 h3_1,AV.int IntKind.i64 h3_2,AV.ro (CK.int IntKind.i64) h3_3,AV.ro (CK.pair (CK.int IntKind.i64) (CK.pair (CK.int IntKind.i64) (CK.pair (CK.int IntKind.i64) CK.bool))) h3_4,AV.int IntKind.i64 h3_5,AV.nils,AV.int IntKind.i64 h3_7,AV.mp 1],Blk.map true false (CK.pair (CK.int IntKind.i64) (CK.pair (CK.int IntKind.i64) (CK.int IntKind.i64))) (CK.int IntKind.i64) h6],ctX (AV.agg [AV.int IntKind.i64 h0_0,AV.int IntKind.i64 h0_1,AV.int IntKind.i64 h0_2,AV.ro (CK.slice 3 (CK.int IntKind.i64)) h0_3,AV.ro (CK.slice 3 (CK.int IntKind.i64)) h0_4,AV.ro (CK.slice 4 CK.bool) h0_5]),siX (AV.agg [AV.ro (CK.int IntKind.i64) ((Prod.fst (nth ([],0,[]) h1 (Int.toNat s11))):List Int),AV.int IntKind.i64 (Prod.fst (Prod.snd (nth ([],0,[]) h1 (Int.toNat s11)))),AV.ro (CK.int IntKind.i64) ((Prod.snd (Prod.snd (nth ([],0,[]) h1 (Int.toNat s11)))):List Int)]),s53)))))),Prod.fst (Prod.snd (keyOfM (Prod.fst (leadM (bodyX [Blk.cells [AV.int IntKind.i64 h3_0,AV.int IntKind.i64 h3_1,AV.int IntKind.i64 h3_2,AV.ro (CK.int IntKind.i64) h3_3,AV.ro (CK.pair (CK.int IntKind.i64) (CK.pair (CK.int IntKind.i64) (CK.pair (CK.int IntKind.i64) CK.bool))) h3_4,AV.int IntKind.i64 h3_5,AV.nils,AV.int IntKind.i64 h3_7,AV.mp 1],Blk.map true false (CK.pair (CK.int IntKind.i64) (CK.pair (CK.int IntKind.i64) (CK.int IntKind.i64))) (CK.int IntKind.i64) h6],ctX (AV.agg [AV.int IntKind.i64 h0_0,AV.int IntKind.i64 h0_1,AV.int IntKind.i64 h0_2,AV.ro (CK.slice 3 (CK.int IntKind.i64)) h0_3,AV.ro (CK.slice 3 (CK.int IntKind.i64)) h0_4,AV.ro (CK.slice 4 CK.bool) h0_5]),siX (AV.agg [AV.ro (CK.int IntKind.i64) ((Prod.fst (nth ([],0,[]) h1 (Int.toNat s11))):List Int),AV.int IntKind.i64 (Prod.fst (Prod.snd (nth ([],0,[]) h1 (Int.toNat s11)))),AV.ro (CK.int IntKind.i64) ((Prod.snd (Prod.snd (nth ([],0,[]) h1 (Int.toNat s11)))):List Int)]),s53)),Prod.fst (Prod.snd (leadM (bodyX [Blk.cells [AV.int IntKind.i64 h3_0,AV.int IntKind.i64 h3_1,AV.int IntKind.i64 h3_2,AV.ro (CK.int IntKind.i64) h3_3,AV.ro (CK.pair (CK.int IntKind.i64) (CK.pair (CK.int IntKind.i64) (CK.pair (CK.int IntKind.i64) CK.bool))) h3_4,AV.int IntKind.i64 h3_5,AV.nils,AV.int IntKind.i64 h3_7,AV.mp 1],Blk.map true false (CK.pair (CK.int IntKind.i64) (CK.pair (CK.int IntKind.i64) (CK.int IntKind.i64))) (CK.int IntKind.i64) h6],ctX (AV.agg [AV.int IntKind.i64 h0_0,AV.int IntKind.i64 h0_1,AV.int IntKind.i64 h0_2,AV.ro (CK.slice 3 (CK.int IntKind.i64)) h0_3,AV.ro (CK.slice 3 (CK.int IntKind.i64)) h0_4,AV.ro (CK.slice 4 CK.bool) h0_5]),siX (AV.agg [AV.ro (CK.int IntKind.i64) ((Prod.fst (nth ([],0,[]) h1 (Int.toNat s11))):List Int),AV.int IntKind.i64 (Prod.fst (Prod.snd (nth ([],0,[]) h1 (Int.toNat s11)))),AV.ro (CK.int IntKind.i64) ((Prod.snd (Prod.snd (nth ([],0,[]) h1 (Int.toNat s11)))):List Int)]),s53))),Prod.fst (Prod.snd (Prod.snd (leadM (bodyX [Blk.cells [AV.int IntKind.i64 h3_0,AV.int IntKind.i64 h3_1,AV.int IntKind.i64 h3_2,AV.ro (CK.int IntKind.i64) h3_3,AV.ro (CK.pair (CK.int IntKind.i64) (CK.pair (CK.int IntKind.i64) (CK.pair (CK.int IntKind.i64) CK.bool))) h3_4,AV.int IntKind.i64 h3_5,AV.nils,AV.int IntKind.i64 h3_7,AV.mp 1],Blk.map true false (CK.pair (CK.int IntKind.i64) (CK.pair (CK.int IntKind.i64) (CK.int IntKind.i64))) (CK.int IntKind.i64) h6],ctX (AV.agg [AV.int IntKind.i64 h0_0,AV.int IntKind.i64 h0_1,AV.int IntKind.i64 h0_2,AV.ro (CK.slice 3 (CK.int IntKind.i64)) h0_3,AV.ro (CK.slice 3 (CK.int IntKind.i64)) h0_4,AV.ro (CK.slice 4 CK.bool) h0_5]),siX (AV.agg [AV.ro (CK.int IntKind.i64) ((Prod.fst (nth ([],0,[]) h1 (Int.toNat s11))):List Int),AV.int IntKind.i64 (Prod.fst (Prod.snd (nth ([],0,[]) h1 (Int.toNat s11)))),AV.ro (CK.int IntKind.i64) ((Prod.snd (Prod.snd (nth ([],0,[]) h1 (Int.toNat s11)))):List Int)]),s53))))))),Prod.snd (Prod.snd (keyOfM (Prod.fst (leadM (bodyX [Blk.cells [AV.int IntKind.i64 h3_0,AV.int IntKind.i64 h3_1,AV.int IntKind.i64 h3_2,AV.ro (CK.int IntKind.i64) h3_3,AV.ro (CK.pair (CK.int IntKind.i64) (CK.pair (CK.int IntKind.i64) (CK.pair (CK.int IntKind.i64) CK.bool))) h3_4,AV.int IntKind.i64 h3_5,AV.nils,AV.int IntKind.i64 h3_7,AV.mp 1],Blk.map true false (CK.pair (CK.int IntKind.i64) (CK.pair (CK.int IntKind.i64) (CK.int IntKind.i64))) (CK.int IntKind.i64) h6],ctX (AV.agg [AV.int IntKind.i64 h0_0,AV.int IntKind.i64 h0_1,AV.int IntKind.i64 h0_2,AV.ro (CK.slice 3 (CK.int IntKind.i64)) h0_3,AV.ro (CK.slice 3 (CK.int IntKind.i64)) h0_4,AV.ro (CK.slice 4 CK.bool) h0_5]),siX (AV.agg [AV.ro (CK.int IntKind.i64) ((Prod.fst (nth ([],0,[]) h1 (Int.toNat s11))):List Int),AV.int IntKind.i64 (Prod.fst (Prod.snd (nth ([],0,[]) h1 (Int.toNat s11)))),AV.ro (CK.int IntKind.i64) ((Prod.snd (Prod.snd (nth ([],0,[]) h1 (Int.toNat s11)))):List Int)]),s53)),Prod.fst (Prod.snd (leadM (bodyX [Blk.cells [AV.int IntKind.i64 h3_0,AV.int IntKind.i64 h3_1,AV.int IntKind.i64 h3_2,AV.ro (CK.int IntKind.i64) h3_3,AV.ro (CK.pair (CK.int IntKind.i64) (CK.pair (CK.int IntKind.i64) (CK.pair (CK.int IntKind.i64) CK.bool))) h3_4,AV.int IntKind.i64 h3_5,AV.nils,AV.int IntKind.i64 h3_7,AV.mp 1],Blk.map true false (CK.pair (CK.int IntKind.i64) (CK.pair (CK.int IntKind.i64) (CK.int IntKind.i64))) (CK.int IntKind.i64) h6],ctX (AV.agg [AV.int IntKind.i64 h0_0,AV.int IntKind.i64 h0_1,AV.int IntKind.i64 h0_2,AV.ro (CK.slice 3 (CK.int IntKind.i64)) h0_3,AV.ro (CK.slice 3 (CK.int IntKind.i64)) h0_4,AV.ro (CK.slice 4 CK.bool) h0_5]),siX (AV.agg [AV.ro (CK.int IntKind.i64) ((Prod.fst (nth ([],0,[]) h1 (Int.toNat s11))):List Int),AV.int IntKind.i64 (Prod.fst (Prod.snd (nth ([],0,[]) h1 (Int.toNat s11)))),AV.ro (CK.int IntKind.i64) ((Prod.snd (Prod.snd (nth ([],0,[]) h1 (Int.toNat s11)))):List Int)]),s53))),Prod.fst (Prod.snd (Prod.snd (leadM (bodyX [Blk.cells [AV.int IntKind.i64 h3_0,AV.int IntKind.i64 h3_1,AV.int IntKind.i64 h3_2,AV.ro (CK.int IntKind.i64) h3_3,AV.ro (CK.pair (CK.int IntKind.i64) (CK.pair (CK.int IntKind.i64) (CK.pair (CK.int IntKind.i64) CK.bool))) h3_4,AV.int IntKind.i64 h3_5,AV.nils,AV.int IntKind.i64 h3_7,AV.mp 1],Blk.map true false (CK.pair (CK.int IntKind.i64) (CK.pair (CK.int IntKind.i64) (CK.int IntKind.i64))) (CK.int IntKind.i64) h6],ctX (AV.agg [AV.int IntKind.i64 h0_0,AV.int IntKind.i64 h0_1,AV.int IntKind.i64 h0_2,AV.ro (CK.slice 3 (CK.int IntKind.i64)) h0_3,AV.ro (CK.slice 3 (CK.int IntKind.i64)) h0_4,AV.ro (CK.slice 4 CK.bool) h0_5]),siX (AV.agg [AV.ro (CK.int IntKind.i64) ((Prod.fst (nth ([],0,[]) h1 (Int.toNat s11))):List Int),AV.int IntKind.i64 (Prod.fst (Prod.snd (nth ([],0,[]) h1 (Int.toNat s11)))),AV.ro (CK.int IntKind.i64) ((Prod.snd (Prod.snd (nth ([],0,[]) h1 (Int.toNat s11)))):List Int)]),s53)))))))):(List UInt8×(List UInt8×Int))) true) (h5++[(s11,s53)]) h6 else {ok:=false,val:=AV.junk} else {ok:=false,val:=AV.junk} else {ok:=false,val:=AV.junk} else {ok:=false,val:=AV.junk} else {ok:=false,val:=AV.junk} else {ok:=false,val:=AV.junk} else {ok:=false,val:=AV.junk} else {ok:=false,val:=AV.junk} else oPv_L0 F m0 (IntKind.wrap IntKind.i64 (s11+1)) h0_0 h0_1 h0_2 h0_3 h0_4 h0_5 h1 h2 h3_0 h3_1 h3_2 h3_3 h3_4 h3_5 h3_7 h4 h5 h6:=by rewrite [oPv_L0_def,oPv_L1_def,oPv_L2_def];kernel_rfl
theorem oPv_L2_succ (F:Nat) (m0:Nat) (m1:Nat) (n:Nat) (s12:Int) (s16:Int) (h0:List Int) (h1:List (Int×Int)):oPv_L2 F m0 m1 (n+1) s12 s16 h0 h1=bif decide (0≤s16)&&decide (s16<(↑(List.length h1):Int)) then bif decide (Int.toNat s16<List.length h1) then bif decide (Prod.fst (nth (0,0) h1 (Int.toNat s16))≥0) then bif decide (0≤s16)&&decide (s16<(↑(List.length h1):Int)) then bif decide (Int.toNat s16<List.length h1) then bif decide (Nat.mul (Nat.add 1 (List.length h0)) 8≤140737488355328) then bif decide (0≤s16)&&decide (s16<(↑(List.length h1):Int)) then bif decide (Int.toNat s16<List.length h1) then oPv_L2 F m0 m1 n s12 (Prod.fst (nth (0,0) h1 (Int.toNat s16))) (Prod.snd (nth (0,0) h1 (Int.toNat s16))::h0) h1 else {ok:=false,val:=AV.junk} else {ok:=false,val:=AV.junk} else {ok:=false,val:=AV.junk} else {ok:=false,val:=AV.junk} else {ok:=false,val:=AV.junk} else bif Nat.ble 0 (List.length h0)&&decide (Nat.mul (Nat.add (List.length h0) 1) 8≤140737488355328) then {ok:=true,val:=AV.tup [AV.sl 0 0 0 none,AV.sl 1 0 0 none,AV.int IntKind.i64 0],heap:=[Blk.row 0 59 (CK.pair (CK.slice 3 (CK.int IntKind.i64)) (CK.pair (CK.int IntKind.i64) (CK.slice 3 (CK.int IntKind.i64)))) [],Blk.row 0 3 (CK.int IntKind.i64) (h0++[s12])]} else {ok:=false,val:=AV.junk} else {ok:=false,val:=AV.junk} else {ok:=false,val:=AV.junk}:=by rewrite [oPv_L2_def];kernel_rfl
theorem oPv_eq (F:Nat) (a0_0:Int) (a0_1:Int) (a0_2:Int) (a0_3:List Int) (a0_4:List (Int×Int×Int×Bool)) (a1_0:Int) (a1_1:Int) (a1_2:Int) (a1_3:List (List Int)) (a1_4:List (List Int)) (a1_5:List (List Bool)):runF (cx_oPv F) Tryd.f7 [AV.agg [AV.int IntKind.i64 a0_0,AV.int IntKind.i64 a0_1,AV.int IntKind.i64 a0_2,AV.ro (CK.int IntKind.i64) a0_3,AV.ro (CK.pair (CK.int IntKind.i64) (CK.pair (CK.int IntKind.i64) (CK.pair (CK.int IntKind.i64) CK.bool))) a0_4],AV.agg [AV.int IntKind.i64 a1_0,AV.int IntKind.i64 a1_1,AV.int IntKind.i64 a1_2,AV.ro (CK.slice 3 (CK.int IntKind.i64)) a1_3,AV.ro (CK.slice 3 (CK.int IntKind.i64)) a1_4,AV.ro (CK.slice 4 CK.bool) a1_5]] []=bif oFitsOk (a0_0,a0_1,a0_2,a0_3,a0_4,a1_0,a1_1,a1_2,a1_3,a1_4,a1_5) then bif oFitsM (a0_0,a0_1,a0_2,a0_3,a0_4,a1_0,a1_1,a1_2,a1_3,a1_4,a1_5) !=0 then {ok:=true,val:=AV.tup [AV.sl 0 0 0 none,AV.sl 1 0 0 none,AV.int IntKind.i64 (oFitsM (a0_0,a0_1,a0_2,a0_3,a0_4,a1_0,a1_1,a1_2,a1_3,a1_4,a1_5))],heap:=[Blk.row 0 59 (CK.pair (CK.slice 3 (CK.int IntKind.i64)) (CK.pair (CK.int IntKind.i64) (CK.slice 3 (CK.int IntKind.i64)))) [],Blk.row 0 3 (CK.int IntKind.i64) []]} else bif newBodyOk (a0_0,a0_1,a0_2,a0_3,a0_4) then bif oFirstOk (a0_0,a0_1,a0_2,a0_3,a0_4,a1_0,a1_1,a1_2,a1_3,a1_4,a1_5) then bif keyOfOk (Prod.fst (oFirstM (a0_0,a0_1,a0_2,a0_3,a0_4,a1_0,a1_1,a1_2,a1_3,a1_4,a1_5)),Prod.fst (Prod.snd (oFirstM (a0_0,a0_1,a0_2,a0_3,a0_4,a1_0,a1_1,a1_2,a1_3,a1_4,a1_5))),Prod.snd (Prod.snd (oFirstM (a0_0,a0_1,a0_2,a0_3,a0_4,a1_0,a1_1,a1_2,a1_3,a1_4,a1_5)))) then oPv_L0 F F 0 a1_0 a1_1 a1_2 a1_3 a1_4 a1_5 [(Prod.fst (oFirstM (a0_0,a0_1,a0_2,a0_3,a0_4,a1_0,a1_1,a1_2,a1_3,a1_4,a1_5)),Prod.fst (Prod.snd (oFirstM (a0_0,a0_1,a0_2,a0_3,a0_4,a1_0,a1_1,a1_2,a1_3,a1_4,a1_5))),Prod.snd (Prod.snd (oFirstM (a0_0,a0_1,a0_2,a0_3,a0_4,a1_0,a1_1,a1_2,a1_3,a1_4,a1_5))))] [] a0_0 a0_1 a0_2 a0_3 a0_4 a0_0 (↑(cntI a0_4):Int) [((Prod.fst (keyOfM (Prod.fst (oFirstM (a0_0,a0_1,a0_2,a0_3,a0_4,a1_0,a1_1,a1_2,a1_3,a1_4,a1_5)),Prod.fst (Prod.snd (oFirstM (a0_0,a0_1,a0_2,a0_3,a0_4,a1_0,a1_1,a1_2,a1_3,a1_4,a1_5))),Prod.snd (Prod.snd (oFirstM (a0_0,a0_1,a0_2,a0_3,a0_4,a1_0,a1_1,a1_2,a1_3,a1_4,a1_5))))),Prod.fst (Prod.snd (keyOfM (Prod.fst (oFirstM (a0_0,a0_1,a0_2,a0_3,a0_4,a1_0,a1_1,a1_2,a1_3,a1_4,a1_5)),Prod.fst (Prod.snd (oFirstM (a0_0,a0_1,a0_2,a0_3,a0_4,a1_0,a1_1,a1_2,a1_3,a1_4,a1_5))),Prod.snd (Prod.snd (oFirstM (a0_0,a0_1,a0_2,a0_3,a0_4,a1_0,a1_1,a1_2,a1_3,a1_4,a1_5)))))),Prod.snd (Prod.snd (keyOfM (Prod.fst (oFirstM (a0_0,a0_1,a0_2,a0_3,a0_4,a1_0,a1_1,a1_2,a1_3,a1_4,a1_5)),Prod.fst (Prod.snd (oFirstM (a0_0,a0_1,a0_2,a0_3,a0_4,a1_0,a1_1,a1_2,a1_3,a1_4,a1_5))),Prod.snd (Prod.snd (oFirstM (a0_0,a0_1,a0_2,a0_3,a0_4,a1_0,a1_1,a1_2,a1_3,a1_4,a1_5))))))),true)] [(-1,0)] (bodyMap a0_4 0 0 []) else {ok:=false,val:=AV.junk} else {ok:=false,val:=AV.junk} else {ok:=false,val:=AV.junk} else {ok:=false,val:=AV.junk}:=by rewrite [oPv_L0_def];kernel_rfl
noncomputable def oPv_run (F:Nat) (x:CT oPv_K):Res:=runF (cx_oPv F) Tryd.f7 (groupA oPv_sh (enc oPv_K x)) []
theorem oPv_arg (F:Nat) (a0_0:Int) (a0_1:Int) (a0_2:Int) (a0_3:List Int) (a0_4:List (Int×Int×Int×Bool)) (a1_0:Int) (a1_1:Int) (a1_2:Int) (a1_3:List (List Int)) (a1_4:List (List Int)) (a1_5:List (List Bool)):oPv_run F (a0_0,a0_1,a0_2,a0_3,a0_4,a1_0,a1_1,a1_2,a1_3,a1_4,a1_5)=runF (cx_oPv F) Tryd.f7 [AV.agg [AV.int IntKind.i64 a0_0,AV.int IntKind.i64 a0_1,AV.int IntKind.i64 a0_2,AV.ro (CK.int IntKind.i64) a0_3,AV.ro (CK.pair (CK.int IntKind.i64) (CK.pair (CK.int IntKind.i64) (CK.pair (CK.int IntKind.i64) CK.bool))) a0_4],AV.agg [AV.int IntKind.i64 a1_0,AV.int IntKind.i64 a1_1,AV.int IntKind.i64 a1_2,AV.ro (CK.slice 3 (CK.int IntKind.i64)) a1_3,AV.ro (CK.slice 3 (CK.int IntKind.i64)) a1_4,AV.ro (CK.slice 4 CK.bool) a1_5]] []:=by kernel_rfl
def turn (from' by':List Int):Nat→Int→List Int→Option (List Int)
 |0,_,_=>none
 |n+1,i,acc=>bif decide (i>0) then (bif decide (i<(from'.length:Int))&&decide (i<(by'.length:Int)) then turn from' by' n (nth 0 from' i.toNat) (acc++[nth 0 by' i.toNat]) else none) else some acc
abbrev BaZ:=List Int×List Int×Int
def turned (z:BaZ):Option (List Int):=turn z.1 z.2.1 (z.1.length+1) z.2.2 []
def backOk:BaZ→Bool:=fun z=>decide (z.1.length<1000000)&&(turned z).isSome
def backM:BaZ→List Int:=fun z=>((turned z).getD []).reverse
abbrev PvT:=Sit×List Int
abbrev dT:PvT:=(([],0,[]),[])
inductive PW where
 |go (ts:List PvT)
 |brk (w:List Int)
 |full
def toS (r:List Int×Int×List Int×Bool):Sit:=(r.1,r.2.1,r.2.2.1)
def pvW (f:Sit→Nat→List Int×Int×List Int×Bool) (lets:Sit→Nat→Bool) (t:PvT):Nat→Nat→List PvT→PW
 |0,_,ts=> .go ts
 | j+1,a,ts=>bif !lets t.1 a then pvW f lets t j (a+1) ts else bif !(f t.1 a).2.2.2 then .brk (t.2++[(a:Int)]) else
   bif decide (toS (f t.1 a)∈ts.map (·.1)) then pvW f lets t j (a+1) ts else bif decide (ts.length=20000) then .full else
    pvW f lets t j (a+1) (ts++[(toS (f t.1 a),t.2++[(a:Int)])])
def pvL (f:Sit→Nat→List Int×Int×List Int×Bool) (lets:Sit→Nat→Bool) (words:Nat):Nat→Nat→List PvT→PW
 |0,_,ts=> .go ts
 | n+1,i,ts=>bif decide (i<ts.length) then (match pvW f lets (nth dT ts i) words 0 ts with
   | .go ts'=>pvL f lets words n (i+1) ts'
   |r=>r) else .go ts
def pwR:PW→List Sit×List Int×Int
 | .go ts=>(ts.map (·.1),[],0)
 | .brk w=>([],w,0)
 | .full=>([],[],54)
abbrev PvZ:=Int×Int×Int×List Int×List Mo×Int×Int×Int×List (List Int)×List (List Int)×List (List Bool)
def ltF (k w h:Int) (ms:List Mo) (n p:List (List Int)) (s:Sit) (a:Nat):List Int×Int×List Int×Bool:=ltB k w h ms n p s.1 s.2.1 s.2.2 a
def letF (l:List (List Bool)) (s:Sit) (a:Nat):Bool:=nth false (nth [] l s.2.1.toNat) a
def pvM:PvZ→List Sit×List Int×Int:=fun (k,w,h,c,ms,i,o,dl,n,p,l)=>
 bif decide (askedM (k,w,h,c,ms,i,o,dl,n,p,l)=0) then pwR (pvL (ltF k w h ms n p) (letF l) (2^i.toNat) 20001 0 [((c,0,List.replicate dl.toNat 0),[])]) else ([],[],askedM (k,w,h,c,ms,i,o,dl,n,p,l))
def pvOk:PvZ→Bool:=fun (k,w,h,c,ms,i,o,dl,n,p,l)=>decide (c.length<big∧ms.length<big)
structure Came (ts:List PvT) (fr by':List Int):Prop where
 lf:fr.length=ts.length
 lb:by'.length=ts.length
 zero:(nth dT ts 0).2=[]
 step:∀i,0<i→i<ts.length→0≤nth 0 fr i∧nth 0 fr i<(i:Int)∧(nth dT ts i).2=(nth dT ts (nth 0 fr i).toNat).2++[nth 0 by' i]
theorem Came.one (s:Sit) (a b:Int):Came [(s,[])] [a] [b]:=⟨rfl,rfl,rfl,fun i h1 h2=>by simp at h2;omega⟩
theorem Came.app {ts:List PvT} {fr by':List Int} (c:Came ts fr by') (s:Sit) {i:Nat} (hi:i<ts.length) (a:Int):Came (ts++[(s,(nth dT ts i).2++[a])]) (fr++[(i:Int)]) (by'++[a]):=by
 refine ⟨by simp[c.lf],by simp[c.lb],?_,fun j h1 h2=> ?_⟩
 ·rw[nth_append,if_pos (by omega)];exact c.zero
 ·simp only[List.length_append,List.length_cons,List.length_nil,Nat.zero_add] at h2
  by_cases hj:j<ts.length
  ·obtain ⟨e1,e2,e3⟩:=c.step j h1 hj
   rw[nth_appL 0 fr [(i:Int)] j (by have:=c.lf;omega),nth_appL dT ts _ j hj,nth_appL 0 by' [a] j (by have:=c.lb;omega),nth_appL dT ts _ (nth 0 fr j).toNat (by omega)]
   exact ⟨e1,e2,e3⟩
  ·have hj':j=ts.length:=by omega
   subst hj'
   have q1:nth 0 (fr++[(i:Int)]) ts.length=i:=by rw[nth_append,if_neg (by have:=c.lf;omega),c.lf,Nat.sub_self];rfl
   have q2:nth 0 (by'++[a]) ts.length=a:=by rw[nth_append,if_neg (by have:=c.lb;omega),c.lb,Nat.sub_self];rfl
   have q3:nth dT (ts++[(s,(nth dT ts i).2++[a])]) ts.length=(s,(nth dT ts i).2++[a]):=by rw[nth_append,if_neg (by omega),Nat.sub_self];rfl
   have q4:nth dT (ts++[(s,(nth dT ts i).2++[a])]) i=nth dT ts i:=by rw[nth_append,if_pos hi]
   rw[q1,q2,q3,Int.toNat_natCast,q4]
   exact ⟨by omega,by omega,rfl⟩
theorem Came.turns {ts:List PvT} {fr by':List Int} (c:Came ts fr by'):∀(n i:Nat) (acc:List Int),i<ts.length→i<n→turn fr by' n (i:Int) acc=some (acc++(nth dT ts i).2.reverse)
 |0,_,_,_,h=>by omega
 |n+1,0,acc,_,_=>by simp[turn,c.zero]
 |n+1,i+1,acc,hi,hn=>by
  obtain ⟨e1,e2,e3⟩:=c.step (i+1) (by omega) hi
  have hl:=c.lf
  have hb:=c.lb
  rw[turn,decide_eq_true (show ((i+1:Nat):Int)>0 by omega),decide_eq_true (show ((i+1:Nat):Int)<fr.length by omega),decide_eq_true (show ((i+1:Nat):Int)<by'.length by omega),Int.toNat_natCast,e3]
  have ih:=Came.turns c n (nth 0 fr (i+1)).toNat (acc++[nth 0 by' (i+1)]) (by omega) (by omega)
  rw[show (((nth 0 fr (i+1)).toNat:Nat):Int)=nth 0 fr (i+1) by omega] at ih
  simp only[Bool.and_self,cond_true,ih,List.reverse_append,List.reverse_cons,List.reverse_nil,List.nil_append,List.append_assoc,List.cons_append]
theorem Came.back {ts:List PvT} {fr by':List Int} (c:Came ts fr by') {i:Nat} (hi:i<ts.length) (hl:ts.length≤20000):backOk (fr,by',(i:Int))=true∧backM (fr,by',(i:Int))=(nth dT ts i).2:=by
 have e:=c.turns (fr.length+1) i [] hi (by have:=c.lf;omega)
 have hf:=c.lf
 simp only[backOk,backM,turned,e,Option.isSome_some,Bool.and_true,decide_eq_true_eq,Option.getD_some,List.nil_append,List.reverse_reverse,and_true]
 omega
theorem Came.len {ts:List PvT} {fr by':List Int} (c:Came ts fr by'):∀(n i:Nat),i<ts.length→i<n→(nth dT ts i).2.length≤i
 |0,_,_,h=>by omega
 |n+1,0,_,_=>by rw[c.zero];exact Nat.le_refl 0
 |n+1,i+1,hi,hn=>by
  obtain ⟨e1,e2,e3⟩:=c.step (i+1) (by omega) hi
  have ih:=Came.len c n (nth 0 fr (i+1)).toNat (by omega) (by omega)
  rw[e3]
  simp only[List.length_append,List.length_cons,List.length_nil]
  omega
theorem asked_pos {k w h:Int} {c:List Int} {ms:List Mo} {i o dl:Int} {n p:List (List Int)} {l:List (List Bool)} (ha:askedM (k,w,h,c,ms,i,o,dl,n,p,l)=0):1≤n.length:=by
 simp only[askedM] at ha
 cases h1:organB k w h c ms with
 |false=>rw[h1] at ha;simp at ha
 | true=>
  cases h2:contractOk i o dl n p l with
  |false=>rw[h1,h2] at ha;simp at ha
  |true=>
   simp only[contractOk,Bool.and_eq_true,decide_eq_true_eq] at h2
   exact h2.1.2.2.2.2.2.2.1
theorem form_first {k w h:Int} {c:List Int} {ms:List Mo} {i o dl:Int} {n p:List (List Int)} {l:List (List Bool)} (v:OrgV k w h c ms) (ct:CtV i o dl n p l) (hn:1≤n.length):fB k w h ms o dl n (c,0,List.replicate dl.toNat 0)=true:=by
 have hl:=ct.late
 have ho:=ct.outs
 simp only[fB,formB,v.to,Bool.true_and,Bool.and_eq_true,decide_eq_true_eq,List.length_replicate]
 refine ⟨⟨by omega,by omega⟩,by omega,List.all_eq_true.2 fun x hx=> ?_⟩
 rw[List.eq_of_mem_replicate hx]
 simp only[fineB,Bool.and_eq_true,decide_eq_true_eq]
 rw[shl_one ho.1 (by omega)]
 exact ⟨by omega,Int.pow_pos (by omega)⟩
abbrev LtF:=Sit→Nat→List Int×Int×List Int×Bool
structure Inv (f:LtF) (lets:Sit→Nat→Bool) (words:Nat) (I:Nat→Nat→List PvT→Prop):Prop where
 skip:∀ {i a:Nat} {ts:List PvT},i<ts.length→a<words→I i a ts→lets (nth dT ts i).1 a=false→I i (a+1) ts
 same:∀ {i a:Nat} {ts:List PvT},i<ts.length→a<words→I i a ts→lets (nth dT ts i).1 a=true→(f (nth dT ts i).1 a).2.2.2=true→toS (f (nth dT ts i).1 a)∈ts.map (·.1)→I i (a+1) ts
 app:∀ {i a:Nat} {ts:List PvT},i<ts.length→a<words→I i a ts→lets (nth dT ts i).1 a=true→(f (nth dT ts i).1 a).2.2.2=true→¬toS (f (nth dT ts i).1 a)∈ts.map (·.1)→ts.length≠20000→
  I i (a+1) (ts++[(toS (f (nth dT ts i).1 a),(nth dT ts i).2++[(a:Int)])])
 next:∀ {i:Nat} {ts:List PvT},i<ts.length→I i words ts→I (i+1) 0 ts
def Brk (f:LtF) (lets:Sit→Nat→Bool) (words:Nat) (I:Nat→Nat→List PvT→Prop) (w:List Int):Prop:=
 ∃i a ts,i<ts.length∧a<words∧I i a ts∧lets (nth dT ts i).1 a=true∧(f (nth dT ts i).1 a).2.2.2=false∧w=(nth dT ts i).2++[(a:Int)]
def Ful (f:LtF) (lets:Sit→Nat→Bool) (words:Nat) (I:Nat→Nat→List PvT→Prop):Prop:=
 ∃i a ts,i<ts.length∧a<words∧I i a ts∧lets (nth dT ts i).1 a=true∧(f (nth dT ts i).1 a).2.2.2=true∧(¬toS (f (nth dT ts i).1 a)∈ts.map (·.1))∧ts.length=20000
section
variable {f:LtF} {lets:Sit→Nat→Bool} {words:Nat} {I:Nat→Nat→List PvT→Prop}
theorem pvW_ind (v:Inv f lets words I) (i:Nat) (t:PvT):∀(j a:Nat) (ts:List PvT),a+j=words→i<ts.length→nth dT ts i=t→I i a ts→
  (∀ts',pvW f lets t j a ts= .go ts'→i<ts'.length∧I i words ts')∧(∀w,pvW f lets t j a ts= .brk w→Brk f lets words I w)∧(pvW f lets t j a ts= .full→Ful f lets words I)
 |0,a,ts,ha,hi,ht,h=>by
  have:a=words:=by omega
  subst this
  exact ⟨fun ts' e=>by simp only[pvW,PW.go.injEq] at e;subst e;exact ⟨hi,h⟩,fun w e=>by simp[pvW] at e,fun e=>by simp[pvW] at e⟩
 | j +1,a,ts,ha,hi,ht,h=>by
  have hw:a<words:=by omega
  have ih:=fun ts=>pvW_ind v i t j (a+1) ts (by omega)
  simp only[pvW]
  cases hl:lets t.1 a with
  |false=>exact ih ts hi ht (v.skip hi hw h (by rw[ht];exact hl))
  | true=>
   cases hok:(f t.1 a).2.2.2 with
   |false=>
    refine ⟨fun ts' e=>by simp at e,fun w e=> ?_,fun e=>by simp at e⟩
    simp only[Bool.not_true,Bool.not_false,cond_true,cond_false,PW.brk.injEq] at e
    exact ⟨i,a,ts,hi,hw,h,by rw[ht];exact hl,by rw[ht];exact hok,by rw[ht];exact e.symm⟩
   | true=>
    by_cases hm:toS (f t.1 a)∈ts.map (·.1)
    ·rw[decide_eq_true hm]
     exact ih ts hi ht (v.same hi hw h (by rw[ht];exact hl) (by rw[ht];exact hok) (by rw[ht];exact hm))
    ·rw[decide_eq_false hm]
     by_cases hx:ts.length=20000
     ·rw[decide_eq_true hx]
      refine ⟨fun ts' e=>by simp at e,fun w e=>by simp at e,fun e=> ?_⟩
      exact ⟨i,a,ts,hi,hw,h,by rw[ht];exact hl,by rw[ht];exact hok,by rw[ht];exact hm,hx⟩
     ·rw[decide_eq_false hx]
      have:=v.app hi hw h (by rw[ht];exact hl) (by rw[ht];exact hok) (by rw[ht];exact hm) hx
      rw[ht] at this
      exact ih _ (by simp;omega) (by rw[nth_appL dT ts _ i hi];exact ht) this
theorem pvL_ind (v:Inv f lets words I):∀(n i:Nat) (ts:List PvT),i≤ts.length→I i 0 ts→
  (∀ts',pvL f lets words n i ts= .go ts'→∃i',I i' 0 ts'∧i'≤ts'.length∧(ts'.length=i'∨i'=i+n))∧(∀w,pvL f lets words n i ts= .brk w→Brk f lets words I w)∧(pvL f lets words n i ts= .full→Ful f lets words I)
 |0,i,ts,hi,h=>⟨fun ts' e=>by simp only[pvL,PW.go.injEq] at e;subst e;exact ⟨i,h,hi,Or.inr rfl⟩,fun w e=>by simp[pvL] at e,fun e=>by simp[pvL] at e⟩
 | n+1,i,ts,hi,h=>by
  simp only[pvL]
  by_cases hlt:i<ts.length
  ·rw[decide_eq_true hlt,cond_true]
   obtain ⟨h1,h2,h3⟩:=pvW_ind v i (nth dT ts i) words 0 ts (by omega) hlt rfl h
   cases hw:pvW f lets (nth dT ts i) words 0 ts with
   |go ts'=>
    obtain ⟨q1,q2⟩:=h1 ts' hw
    obtain ⟨g1,g2,g3⟩:=pvL_ind v n (i+1) ts' (by omega) (v.next q1 q2)
    refine ⟨fun ts'' e=> ?_,g2,g3⟩
    obtain ⟨i',a1,a2,a3⟩:=g1 ts'' e
    exact ⟨i',a1,a2,by omega⟩
   |brk w=>exact ⟨fun ts' e=>by simp at e,fun w' e=>by simp only[PW.brk.injEq] at e;subst e;exact h2 w hw,fun e=>by simp at e⟩
   |full=>exact ⟨fun ts' e=>by simp at e,fun w' e=>by simp at e,fun _=>h3 hw⟩
  ·rw[decide_eq_false hlt,cond_false]
   exact ⟨fun ts' e=>by simp only[PW.go.injEq] at e;subst e;exact ⟨i,h,hi,by omega⟩,fun w e=>by simp at e,fun e=>by simp at e⟩
end
section
variable {k w h:Int} {c:List Int} {ms:List Mo} {i o dl:Int} {n p:List (List Int)} {l:List (List Bool)}
def FewI (k w h:Int) (ms:List Mo) (o dl:Int) (n:List (List Int)) (_ _:Nat) (ts:List PvT):Prop:=ts.length≤20000∧∀t∈ts,fB k w h ms o dl n t.1=true∧t.2.length<ts.length
theorem few_inv (ct:CtV i o dl n p l):Inv (ltF k w h ms n p) (letF l) (2^i.toNat) (FewI k w h ms o dl n) where
 skip _ _ h _:=h
 same _ _ h _ _ _:=h
 app:=fun {q a ts} hq ha hI _ hok _ hx=>by
  obtain ⟨h1,h2⟩:=hI
  obtain ⟨f1,f2⟩:=h2 _ (nth_mem dT ts hq)
  refine ⟨by simp;omega,fun t ht=> ?_⟩
  rcases List.mem_append.1 ht with h|h
  ·have:=h2 t h
   exact ⟨this.1,by simp;omega⟩
  ·rcases List.mem_singleton.1 h with rfl
   exact ⟨lt_form ct ha f1 hok,by simp;omega⟩
 next _ h:=h
theorem few_one (v:OrgV k w h c ms) (ct:CtV i o dl n p l) (hn:1≤n.length):FewI k w h ms o dl n 0 0 [((c,0,List.replicate dl.toNat 0),[])]:=
 ⟨by simp,fun t ht=>by rcases List.mem_singleton.1 ht with rfl;exact ⟨form_first v ct hn,by simp⟩⟩
theorem form_fit (ct:CtV i o dl n p l) {s:Sit} (hf:fB k w h ms o dl n s=true):sitFit s=true:=by
 have hf':=hf
 simp only[fB,formB,Bool.and_eq_true,decide_eq_true_eq] at hf'
 obtain ⟨h1,_,h4,_⟩:=hf'
 have v:=OrgV.of h1
 have hl:=ct.late
 obtain ⟨hw,hh,hc,_,_,_,_⟩:=orgG_spec v.good
 have hlen:w*h≤24*24:=Int.mul_le_mul hw.2 hh.2 (by omega) (by omega)
 exact decide_eq_true ⟨by simp only[big];omega,by simp only[big];omega⟩
theorem pvM_few (ha:askedM (k,w,h,c,ms,i,o,dl,n,p,l)=0):((pvM (k,w,h,c,ms,i,o,dl,n,p,l)).1.length≤20000∧∀s∈(pvM (k,w,h,c,ms,i,o,dl,n,p,l)).1,fB k w h ms o dl n s=true)∧(pvM (k,w,h,c,ms,i,o,dl,n,p,l)).2.1.length≤20000:=by
 obtain ⟨v,ct,_⟩:=asked0 ha
 obtain ⟨g1,g2,g3⟩:=pvL_ind (few_inv (k:=k) (w:=w) (h:=h) (ms:=ms) ct) 20001 0 [((c,0,List.replicate dl.toNat 0),[])] (by simp) (few_one v ct (asked_pos ha))
 simp only[pvM,ha,decide_true,cond_true]
 cases hr:pvL (ltF k w h ms n p) (letF l) (2^i.toNat) 20001 0 [((c,0,List.replicate dl.toNat 0),[])] with
 |go ts=>
  obtain ⟨_,⟨h1,h2⟩,_⟩:=g1 ts hr
  refine ⟨⟨by simpa [pwR] using h1,fun s hs=> ?_⟩,by simp[pwR]⟩
  simp only[pwR,List.mem_map] at hs
  obtain ⟨t,ht,rfl⟩:=hs
  exact (h2 t ht).1
 |brk w=>
  obtain ⟨q,a,ts,hq,ha',⟨h1,h2⟩,_,_,rfl⟩:=g2 w hr
  have:=(h2 _ (nth_mem dT ts hq)).2
  refine ⟨⟨by simp[pwR],fun s hs=>by simp[pwR] at hs⟩,?_⟩
  simp only[pwR,List.length_append,List.length_cons,List.length_nil]
  omega
 |full=>exact ⟨⟨by simp[pwR],fun s hs=>by simp[pwR] at hs⟩,by simp[pwR]⟩
end
abbrev badR:Res:={ok:=false,val:= .junk}
def resP (l:List Sit) (w:List Int) (e:Int):Res:={ok:=true,val:=AV.tup [AV.sl 0 0 0 none,AV.sl 1 0 0 none,AV.int IntKind.i64 e],heap:=[Blk.row 0 59 SitK l,Blk.row 0 3 (CK.int IntKind.i64) w]}
def outP (g:List PvT→Res):PW→Res
 | .go ts=>g ts
 | .brk w=>resP [] w 0
 | .full=>resP [] [] 54
def pwRes (r:PW):Res:=outP (fun ts=>resP (ts.map (·.1)) [] 0) r
theorem pwRes_eq (r:PW):pwRes r=resP (pwR r).1 (pwR r).2.1 (pwR r).2.2:=by cases r<;>rfl
theorem ret_resP (l:List Sit) (w:List Int) (e:Int):Ret oPv_re oPv_R (resP l w e) ((l,w,e):List Sit×List Int×Int):=by
 have hh:roVs (resP l w e)=[.ro SitK l, .ro (.int .i64) w, .int .i64 e]:=rfl
 refine ⟨rfl,rfl,?_,?_,?_,?_,fun ws h=>by cases h;simp⟩
 ·rw[hh];rfl
 ·rw[hh];rfl
 ·rw[hh];simp[oPv_R,flatA,cellsA,decOk,nth,isRo,isInt,isB,dropL,width]
 ·rw[hh]
  exact (congrArg (fun (x:List Sit)=>((x,asL (.int .i64) (.ro (.int .i64) w),e):List Sit×List Int×Int)) (asL_ro SitK l)).trans (congrArg (fun (x:List Int)=>((l,x,e):List Sit×List Int×Int)) (asL_ro (.int .i64) w))
structure PvI (k w h:Int) (ms:List Mo) (o dl:Int) (n:List (List Int)) (ts:List PvT) (fr by' so:List Int):Prop where
 came:Came ts fr by'
 tab:TabI (ts.map (·.1)) so
 size:so.length=40008
 few:1≤ts.length∧ts.length≤20000
 form:∀t∈ts,fB k w h ms o dl n t.1=true
section
variable {k w h:Int} {c:List Int} {ms:List Mo} {i o dl:Int} {n p:List (List Int)} {l:List (List Bool)}
end
abbrev CmT:=List (Int×Int)
theorem oPv_t1 (F m0 m:Nat) (q:Int) (row:List Bool) (rl a:Int) (i o dl:Int) (n p:List (List Int)) (l:List (List Bool)) (list:List Sit) (br:List Int) (k w h:Int) (c:List Int) (ms:List Mo) (rk ins:Int) (mk:MK) (cm:CmT) (m4:MM):
  oPv_L1 F m0 (m+1) q row rl a i o dl n p l list br k w h c ms rk ins mk cm m4=
  bif decide (a<rl) then bif decide (0≤a)&&decide (a<(row.length:Int)) then bif !nth false row a.toNat then oPv_L1 F m0 m q row rl (IntKind.wrap .i64 (a+1)) i o dl n p l list br k w h c ms rk ins mk cm m4 else
   bif decide (0≤q)&&decide (q<(list.length:Int)) then bif decide (q.toNat<list.length) then
   bif leadOk ((k,w,h,c,ms,rk,ins,m4),(i,o,dl,n,p,l),nth ([],0,[]) list q.toNat,a) then bif !(leadM ((k,w,h,c,ms,rk,ins,m4),(i,o,dl,n,p,l),nth ([],0,[]) list q.toNat,a)).2.2.2 then oPv_L2 F m m0 F a q br cm else
    bif keyOfOk (toS (leadM ((k,w,h,c,ms,rk,ins,m4),(i,o,dl,n,p,l),nth ([],0,[]) list q.toNat,a))) then
     bif getK mk (keyOfM (toS (leadM ((k,w,h,c,ms,rk,ins,m4),(i,o,dl,n,p,l),nth ([],0,[]) list q.toNat,a)))) then oPv_L1 F m0 m q row rl (IntKind.wrap .i64 (a+1)) i o dl n p l list br k w h c ms rk ins mk cm m4 else
     bif decide ((list.length:Int)=20000) then resP [] [] 54 else bif keyOfOk (toS (leadM ((k,w,h,c,ms,rk,ins,m4),(i,o,dl,n,p,l),nth ([],0,[]) list q.toNat,a))) then
      bif Nat.ble 0 (List.length list)&&decide (Nat.mul (Nat.add (List.length list) 1) 56≤140737488355328) then bif Nat.ble 0 (List.length cm)&&decide (Nat.mul (Nat.add (List.length cm) 1) 16≤140737488355328) then
       oPv_L1 F m0 m q row rl (IntKind.wrap .i64 (a+1)) i o dl n p l (list++[toS (leadM ((k,w,h,c,ms,rk,ins,m4),(i,o,dl,n,p,l),nth ([],0,[]) list q.toNat,a))]) br k w h c ms rk ins (insK mk (keyOfM (toS (leadM ((k,w,h,c,ms,rk,ins,m4),(i,o,dl,n,p,l),nth ([],0,[]) list q.toNat,a))))) (cm++[(q,a)]) m4
      else badR else badR else badR
    else badR else badR else badR else badR else badR
  else oPv_L0 F m0 (IntKind.wrap .i64 (q+1)) i o dl n p l list br k w h c ms rk ins mk cm m4:=(oPv_L1_succ ..).trans (by kernel_rfl)
theorem oPv_t2 (F m0 m1 m:Nat) (a q:Int) (br:List Int) (cm:CmT):oPv_L2 F m0 m1 (m+1) a q br cm=
  bif decide (0≤q)&&decide (q<(cm.length:Int)) then bif decide (q.toNat<cm.length) then bif decide ((nth (0,0) cm q.toNat).1≥0) then bif decide (0≤q)&&decide (q<(cm.length:Int)) then bif decide (q.toNat<cm.length) then bif decide (Nat.mul (Nat.add 1 (List.length br)) 8≤140737488355328) then bif decide (0≤q)&&decide (q<(cm.length:Int)) then bif decide (q.toNat<cm.length) then
   oPv_L2 F m0 m1 m a (nth (0,0) cm q.toNat).1 ((nth (0,0) cm q.toNat).2::br) cm else badR else badR else badR else badR else badR
  else bif Nat.ble 0 (List.length br)&&decide (Nat.mul (Nat.add (List.length br) 1) 8≤140737488355328) then resP [] (br++[a]) 0 else badR else badR else badR:=(oPv_L2_succ ..).trans (by kernel_rfl)
theorem oPv_b (F m0 m1:Nat) {ts:List PvT} {cm:CmT} (hc:Came ts (cm.map (·.1)) (cm.map (·.2))) (h0:(nth (0,0) cm 0).1<0) (hl:ts.length≤20000) (a:Int):∀(f q:Nat) (br:List Int),q<ts.length→q<f→br.length+q≤40000→
  oPv_L2 F m0 m1 f a q br cm=resP [] ((nth dT ts q).2++(br++[a])) 0
 |0,q,_,_,h,_=>by omega
 | f+1,q,br,hq,hf,hb=>by
  have hcl:cm.length=ts.length:=by have:=hc.lf;rwa [List.length_map] at this
  rw[oPv_t2,Int.toNat_natCast]
  rw[decide_eq_true (show Nat.mul (Nat.add br.length 1) 8≤140737488355328 from by show (br.length+1)*8≤_;omega),decide_eq_true (show Nat.mul (Nat.add 1 br.length) 8≤140737488355328 from by show (1+br.length)*8≤_;omega)]
  simp only[show (0:Int)≤(q:Int) by omega,show (q:Int)<(cm.length:Int) by omega,show q<cm.length by omega,decide_true,Bool.and_self,cond_true,nble,Nat.zero_le]
  by_cases hq0:q=0
  ·subst hq0
   simp only[show ¬(nth (0,0) cm 0).1≥0 by omega,decide_false,cond_false,hc.zero,List.nil_append]
  ·obtain ⟨e1,e2,e3⟩:=hc.step q (by omega) hq
   rw[nth_map (0,0) 0 (·.1) cm q (by omega)] at e1 e2 e3
   rw[nth_map (0,0) 0 (·.2) cm q (by omega)] at e3
   have ih:=oPv_b F m0 m1 hc h0 hl a f (nth (0,0) cm q).1.toNat ((nth (0,0) cm q).2::br) (by omega) (by omega) (by simp;omega)
   rw[show (((nth (0,0) cm q).1.toNat:Nat):Int)=(nth (0,0) cm q).1 by omega] at ih
   simp only[show (nth (0,0) cm q).1≥0 from e1,decide_true,cond_true]
   rw[ih,e3]
   simp
structure PwI (k w h:Int) (ms:List Mo) (o dl:Int) (n:List (List Int)) (ts:List PvT) (cm:CmT) (mk:MK):Prop where
 came:Came ts (cm.map (·.1)) (cm.map (·.2))
 zero:(nth (0,0) cm 0).1<0
 keys:∀s,fB k w h ms o dl n s=true→getK mk (keyOfM s)=decide (s∈ts.map (·.1))
 few:1≤ts.length∧ts.length≤20000
 form:∀t∈ts,fB k w h ms o dl n t.1=true
section
variable {k w h:Int} {c:List Int} {ms:List Mo} {i o dl:Int} {n p:List (List Int)} {l:List (List Bool)}
theorem key_same (ct:CtV i o dl n p l) {s t:Sit} (hs:fB k w h ms o dl n s=true) (ht:fB k w h ms o dl n t=true):decide (keyOfM s=keyOfM t)=decide (s=t):=by
 rw[Bool.eq_iff_iff,decide_eq_true_iff,decide_eq_true_iff]
 exact ⟨fun h=>keyOf_inj (form_bytes ct.outs hs) (form_bytes ct.outs ht) h,fun h=>by rw[h]⟩
theorem keys_app (ct:CtV i o dl n p l) {mk:MK} {sl:List Sit} (hk:∀s,fB k w h ms o dl n s=true→getK mk (keyOfM s)=decide (s∈sl)) {t:Sit} (ht:fB k w h ms o dl n t=true) (s:Sit) (hs:fB k w h ms o dl n s=true):
  getK (insK mk (keyOfM t)) (keyOfM s)=decide (s∈sl++[t]):=by
 rw[getK_insK,key_same ct hs ht,hk s hs,Bool.eq_iff_iff]
 simp only[Bool.or_eq_true,decide_eq_true_eq,List.mem_append,List.mem_singleton]
 exact Or.comm
theorem oPv_w (F m0:Nat) (hF:20001≤F) (ct:CtV i o dl n p l) (c0:List Int) (ins:Int) {t:PvT} {q:Nat} (hform:fB k w h ms o dl n t.1=true):∀(j f a:Nat) (ts:List PvT) (cm:CmT) (mk:MK),a+j=2^i.toNat→j<f→q<ts.length→nth dT ts q=t→PwI k w h ms o dl n ts cm mk→
  ∃ cm' mk',(∀ts',pvW (ltF k w h ms n p) (letF l) t j a ts= .go ts'→q<ts'.length∧PwI k w h ms o dl n ts' cm' mk')∧
   oPv_L1 F m0 f q (nth [] l t.1.2.1.toNat) ((nth [] l t.1.2.1.toNat).length:Int) a i o dl n p l (ts.map (·.1)) [] k w h c0 ms k ins mk cm (bodyMap ms 0 0 [])=
    outP (fun ts'=>oPv_L0 F m0 ((q+1:Nat):Int) i o dl n p l (ts'.map (·.1)) [] k w h c0 ms k ins mk' cm' (bodyMap ms 0 0 [])) (pvW (ltF k w h ms n p) (letF l) t j a ts)
 |j,0,a,_,_,_,_,h,_,_,_=>by omega
 | 0,f+1,a,ts,cm,mk,ha,_,hq,ht,iv=>by
  have hfo:=hform
  simp only[fB,formB,Bool.and_eq_true,decide_eq_true_eq] at hfo
  obtain ⟨⟨_,_,r3⟩,_⟩:=ct.row t.1.2.1.toNat (by have:=hfo.2.1;omega)
  have hfew:=iv.few
  refine ⟨cm,mk,fun ts' e=> ?_,?_⟩
  ·simp only[pvW,PW.go.injEq] at e;subst e;exact ⟨hq,iv⟩
  ·rw[oPv_t1,wrap_succ (i:=q) (by omega),r3]
   simp only[show ¬(a:Int)<((2^i.toNat:Nat):Int) by omega,decide_false,cond_false,pvW,outP]
 | j + 1,f+1,a,ts,cm,mk,ha,hf',hq,ht,iv=>by
  have hp:=pow_le16 ct.ins
  have hfew:=iv.few
  obtain ⟨g1,g2,g3,⟨g4,g5,g6⟩,g7⟩:=form_lt (l:=l) ct hform (a:=a) (by omega)
  have hfo:=hform
  simp only[fB,formB,Bool.and_eq_true] at hfo
  have v:=OrgV.of hfo.1
  have ih:=fun ts cm mk=>oPv_w F m0 hF ct c0 ins (q:=q) hform j f (a+1) ts cm mk (by omega) (by omega)
  have hcl:cm.length=ts.length:=by have:=iv.came.lf;rwa [List.length_map] at this
  have hn:nth ([],0,[]) (ts.map (·.1)) q=t.1:=by rw[nth_map dT ([],0,[]) (·.1) ts q hq,ht]
  rw[oPv_t1,wrap_succ (i:=a) (by omega),Int.toNat_natCast,Int.toNat_natCast,hn,leadOk_of ct hform c0 ins (show a<2^i.toNat by omega),show leadM ((k,w,h,c0,ms,k,ins,bodyMap ms 0 0 []),(i,o,dl,n,p,l),t.1,(a:Int))=ltF k w h ms n p t.1 a from leadM_lt v c0 ins i o dl n p l (a:Int)]
  simp only[List.length_map,show (0:Int)≤(a:Int) by omega,show (a:Int)<((nth [] l t.1.2.1.toNat).length:Int) by omega,show (0:Int)≤(q:Int) by omega,show (q:Int)<(ts.length:Int) by omega,hq,decide_true,Bool.and_self,cond_true,pvW]
  rw[show letF l t.1 a=nth false (nth [] l t.1.2.1.toNat) a from rfl]
  cases nth false (nth [] l t.1.2.1.toNat) a with
  |false=>exact ih ts cm mk hq ht iv
  | true=>
   cases hok:(ltF k w h ms n p t.1 a).2.2.2 with
   |false=>
    refine ⟨cm,mk,fun ts' e=>by simp at e,?_⟩
    simp only[Bool.not_true,Bool.not_false,cond_true,cond_false,outP]
    rw[oPv_b F f m0 iv.came iv.zero hfew.2 (a:Int) F q [] hq (by omega) (by simp;omega),ht]
    rfl
   | true=>
    have hnf:fB k w h ms o dl n (toS (ltF k w h ms n p t.1 a))=true:=lt_form ct (show a<2^i.toNat by omega) hform hok
    rw[form_key ct hnf,iv.keys _ hnf]
    cases hm:decide (toS (ltF k w h ms n p t.1 a)∈ts.map (·.1)) with
    |true=>exact ih ts cm mk hq ht iv
    | false=>
     rw[show decide (((ts.length:Nat):Int)=20000)=decide (ts.length=20000) by rw[Bool.eq_iff_iff,decide_eq_true_iff,decide_eq_true_iff];omega]
     cases hx:decide (ts.length=20000) with
     |true=>exact ⟨cm,mk,fun ts' e=>by simp at e,rfl⟩
     | false=>
      have hx':=of_decide_eq_false hx
      have hca:=iv.came.app (toS (ltF k w h ms n p t.1 a)) hq (a:Int)
      rw[ht] at hca
      obtain ⟨cm',mk',r1,r2⟩:=ih (ts++[(toS (ltF k w h ms n p t.1 a),t.2++[(a:Int)])]) (cm++[((q:Int),(a:Int))]) (insK mk (keyOfM (toS (ltF k w h ms n p t.1 a))))
       (by simp;omega) (by rw[nth_append,if_pos hq];exact ht)
       ⟨by rw[List.map_append,List.map_append];exact hca,by rw[nth_append,if_pos (by omega)];exact iv.zero,fun s hs=>by rw[List.map_append];exact keys_app ct iv.keys hnf s hs,by simp;omega,fun x hx=>by
        rcases List.mem_append.1 hx with h|h
        ·exact iv.form x h
        ·rcases List.mem_singleton.1 h with rfl;exact hnf⟩
      refine ⟨cm',mk',r1,?_⟩
      rw[decide_eq_true (show Nat.mul (Nat.add ts.length 1) 56≤140737488355328 from by show (ts.length+1)*56≤_;omega),decide_eq_true (show Nat.mul (Nat.add cm.length 1) 16≤140737488355328 from by show (cm.length+1)*16≤_;omega)]
      rw[List.map_append] at r2
      simp only[nble,Nat.zero_le,decide_true,Bool.and_self,Bool.not_true,Bool.not_false,cond_true,cond_false]
      exact r2
theorem oPv_s (F:Nat) (hF:20001≤F) (ct:CtV i o dl n p l) (c0:List Int) (ins:Int):∀(j f q:Nat) (ts:List PvT) (cm:CmT) (mk:MK),q+j=20001→j<f→q≤ts.length→PwI k w h ms o dl n ts cm mk→
  oPv_L0 F f q i o dl n p l (ts.map (·.1)) [] k w h c0 ms k ins mk cm (bodyMap ms 0 0 [])=pwRes (pvL (ltF k w h ms n p) (letF l) (2^i.toNat) j q ts)
 |j,0,q,_,_,_,_,h,_,_=>by omega
 |0,f+1,q,ts,cm,mk,hq,_,hl,iv=>by have:=iv.few;omega
 | j+1,f+1,q,ts,cm,mk,hq,hf,hl,iv=>by
  have hpw:=pow_le16 ct.ins
  rw[oPv_L0_succ,List.length_map,Int.toNat_natCast]
  by_cases hlt:q<ts.length
  ·have hmem:=nth_mem dT ts hlt
   have hform:=iv.form _ hmem
   have hfo:=hform
   have hlen:=ct.len
   simp only[fB,formB,Bool.and_eq_true,decide_eq_true_eq] at hfo
   obtain ⟨cm',mk',r1,r2⟩:=oPv_w F f hF ct c0 ins (t:=nth dT ts q) (q:=q) hform (2^i.toNat) F 0 ts cm mk (by omega) (by omega) hlt rfl iv
   rw[show ((0:Nat):Int)=0 from rfl] at r2
   rw[nth_map dT ([],0,[]) (·.1) ts q hlt,r2]
   simp only[show (q:Int)<ts.length by omega,show (0:Int)≤q by omega,hlt,hfo.2.1.1,show (nth dT ts q).1.2.1<(l.length:Int) by have:=hfo.2.1.2;omega,decide_true,Bool.and_self,cond_true,pvL]
   cases hw:pvW (ltF k w h ms n p) (letF l) (nth dT ts q) (2^i.toNat) 0 ts with
   |go ts'=>
    obtain ⟨q1,q2⟩:=r1 ts' hw
    exact oPv_s F hF ct c0 ins j f (q+1) ts' cm' mk' (by omega) (by omega) q1 q2
   |brk w=>rfl
   |full=>rfl
  ·simp only[show ¬(q:Int)<ts.length by omega,hlt,decide_false,cond_false,pvL];rfl
end
def oPvOk:PvZ→Bool:=pvOk
def oPvM:PvZ→List Sit×List Int×Int:=pvM
def oPvFu:PvZ→Nat:=fun _=>20010
theorem oPv_txt (F:Nat) (k w h:Int) (c:List Int) (ms:List Mo) (i o dl:Int) (n p:List (List Int)) (l:List (List Bool)):oPv_run F (k,w,h,c,ms,i,o,dl,n,p,l)=
  bif oFitsOk (k,w,h,c,ms,i,o,dl,n,p,l) then bif oFitsM (k,w,h,c,ms,i,o,dl,n,p,l) !=0 then resP [] [] (oFitsM (k,w,h,c,ms,i,o,dl,n,p,l)) else
   bif newBodyOk (k,w,h,c,ms) then bif oFirstOk (k,w,h,c,ms,i,o,dl,n,p,l) then bif keyOfOk (oFirstM (k,w,h,c,ms,i,o,dl,n,p,l)) then
    oPv_L0 F F 0 i o dl n p l [oFirstM (k,w,h,c,ms,i,o,dl,n,p,l)] [] k w h c ms k (cntI ms:Nat) (insK [] (keyOfM (oFirstM (k,w,h,c,ms,i,o,dl,n,p,l)))) [(-1,0)] (bodyMap ms 0 0 []) else badR else badR else badR else badR:=
 (oPv_arg ..).trans ((oPv_eq ..).trans (by kernel_rfl))
theorem oPv_ret (z:PvZ) (hk:oPvOk z=true):Ret oPv_re oPv_R (oPv_run (oPvFu z) z) (oPvM z):=by
 obtain ⟨k,w,h,c,ms,i,o,dl,n,p,l⟩:=z
 simp only[oPvOk,pvOk,decide_eq_true_eq] at hk
 obtain ⟨hc,hm⟩:=hk
 refine Ret.of (r':=resP (pvM (k,w,h,c,ms,i,o,dl,n,p,l)).1 (pvM (k,w,h,c,ms,i,o,dl,n,p,l)).2.1 (pvM (k,w,h,c,ms,i,o,dl,n,p,l)).2.2) ?_ (ret_resP _ _ _)
 refine (oPv_txt 20010 k w h c ms i o dl n p l).trans ?_
 rw[show oFitsOk (k,w,h,c,ms,i,o,dl,n,p,l)=true from decide_eq_true ⟨hc,hm⟩,show oFitsM (k,w,h,c,ms,i,o,dl,n,p,l)=askedM (k,w,h,c,ms,i,o,dl,n,p,l) from rfl,beq_ne]
 simp only[cond_true,pvM]
 by_cases ha:askedM (k,w,h,c,ms,i,o,dl,n,p,l)=0
 ·obtain ⟨v,ct,_⟩:=asked0 ha
  have hlate:=ct.late
  obtain ⟨hw,hh,hcl,_,_,_,_⟩:=orgG_spec v.good
  have hlen:w*h≤24*24:=Int.mul_le_mul hw.2 hh.2 (by omega) (by omega)
  have hml:=v.len
  have hff:=form_first v ct (asked_pos ha)
  rw[decide_eq_true ha,show newBodyOk (k,w,h,c,ms)=true from decide_eq_true (by omega),show oFirstOk (k,w,h,c,ms,i,o,dl,n,p,l)=true from decide_eq_true ⟨by omega,by omega,by omega⟩,show oFirstM (k,w,h,c,ms,i,o,dl,n,p,l)=(c,0,List.replicate dl.toNat 0) from rfl,form_key ct hff]
  simp only[Bool.not_true,cond_false,cond_true]
  have e:=oPv_s 20010 (by omega) (k:=k) (w:=w) (h:=h) (ms:=ms) ct c (cntI ms:Nat) 20001 20010 0 [((c,0,List.replicate dl.toNat 0),[])] [(-1,0)] (insK [] (keyOfM (c,0,List.replicate dl.toNat 0))) (by omega) (by omega) (by simp)
   ⟨Came.one _ _ _,by show (-1:Int)<0;omega,fun s hs=>keys_app ct (sl:=[]) (fun s _=>rfl) hff s hs,by simp,fun t ht=>by
    rcases List.mem_singleton.1 ht with rfl;exact hff⟩
  rw[←pwRes_eq]
  exact e
 ·rw[decide_eq_false ha];rfl
noncomputable def tbUBL_1:FuncId→List AV→List Blk→Res:=addC 7 (tspec oPv_sh oPv_K oPv_re oPv_R oPvOk oPvM) tbUB
theorem tabUBL_1:Tab Tryd.prog tbUBL_1 cxMd tbKUB:=Tab.addTy (os:=[]) tabUB tabUB (KK:=oPv_K) (R:=oPv_R) (fn:=Tryd.f7) (by kernel_rfl) (by kernel_rfl) (by kernel_rfl) (by kernel_rfl) _ oPvFu oPv_ret
noncomputable def tbUBB:FuncId→List AV→List Blk→Res:=tbUBL_1
noncomputable def tbKUBB:KT:=tbKUB
theorem tabUBB:Tab Tryd.prog tbUBB cxMd tbKUBB:=tabUBL_1
end Go.Proofs.YtiglikocfjhkcaaDoor
