/- A step of an organ, by the document; and what a stream is. -/
import Derived.Test.YtiglikocfjhkcaaGreatDoorSQ
import Derived.Test.YtiglikocfjhkcaaGreatDoorProg
import Derived.KernelRfl
set_option linter.all false
set_option linter.unusedVariables false
set_option linter.unusedSimpArgs false
open Go Go.Abs Go.Proofs
namespace Go.Proofs.YtiglikocfjhkcaaGreatDoor
noncomputable def tbSR_1:=addC 20 (inl Tryz.prog tbSQB cxMd tbKSQB Tryz.f20) tbSQB
noncomputable def tbKSR_1:KT:=addK 20 (inlK Tryz.prog tbSQB cxMd tbKSQB Tryz.f20) tbKSQB
theorem tabSR_1:Tab Tryz.prog tbSR_1 cxMd tbKSR_1:=Tab.addInl tabSQB tabSQB (fn:=Tryz.f20) (by kernel_rfl) (by kernel_rfl) (by kernel_rfl)
noncomputable def tbSR:=tbSR_1
noncomputable def tbKSR:KT:=tbKSR_1
theorem tabSR:Tab Tryz.prog tbSR cxMd tbKSR:=tabSR_1
noncomputable def cx_stepped (F:Nat):Cx:={P:=Tryz.prog,C:=tbSR,K:=tbKSR,mode:=cxMd,fuel:=F,live:=liveTab [(7,[4,2,1,7,6]),(10,[8,4,2,1,7,6]),(15,[6,2,10,4])],pin:=0,nx:=true}
noncomputable def cx_rStream (F:Nat):Cx:={P:=Tryz.prog,C:=tbSR,K:=tbKSR,mode:=cxMd,fuel:=F,live:=liveTab [(4,[0,1,5])],pin:=0,nx:=true}
def stepped_K:CK:=CK.pair KI (CK.pair KI (CK.pair KI (CK.pair KL (CK.pair (CK.slice 66 MoK) KI))))
def stepped_sh:List (Option Nat):=[some 5,none]
noncomputable def stepped_L0r (F n:Nat) (s1 s7 h0_0 h0_1 h0_2:Int) (h0_3:List Int) (h0_4:List Mo) (h1_0 h1_1 h1_2 h2_0 h2_1 h2_2:Int) (h3:List Int) (h4:List Mo) (h5:List Int) (h6:List Mo):Res:=Lp (cx_stepped F) (loopBy (loopsOf (cx_stepped F) (bodyOf Tryz.f21) (endK (cx_stepped F) Tryz.f21)) 7) n {T:=fr 81 [(1,AV.int .i64 s1),(2,AV.ptr 0 0),(4,AV.ptr 1 0),(6,AV.ptr 2 0),(7,AV.int .i64 s7)],H:=[Blk.cells [AV.int .i64 h0_0,AV.int .i64 h0_1,AV.int .i64 h0_2,AV.ro KI h0_3,AV.ro MoK h0_4],Blk.cells [AV.int .i64 h1_0,AV.int .i64 h1_1,AV.int .i64 h1_2,AV.sl 3 0 0 none,AV.sl 4 0 0 none],Blk.cells [AV.int .i64 h2_0,AV.int .i64 h2_1,AV.int .i64 h2_2,AV.sl 5 0 0 none,AV.sl 6 0 0 none],Blk.row 0 3 KI h3,Blk.row 0 66 MoK h4,Blk.row 0 3 KI h5,Blk.row 0 66 MoK h6],ok:=true}
noncomputable def stepped_L0:=Classical.choose (hideE stepped_L0r)
theorem stepped_L0_def:stepped_L0=stepped_L0r:=Classical.choose_spec (hideE stepped_L0r)
noncomputable def stepped_L1r (F m0 n:Nat) (s1 s7 s8 h0_0 h0_1 h0_2:Int) (h0_3:List Int) (h0_4:List Mo) (h1_0 h1_1 h1_2 h2_0 h2_1 h2_2:Int) (h3:List Int) (h4:List Mo) (h5:List Int) (h6:List Mo):Res:=Lp (cx_stepped F) (loopBy (innersOf (cx_stepped F) (loopBy (loopsOf (cx_stepped F) (bodyOf Tryz.f21) (endK (cx_stepped F) Tryz.f21)) 7) m0) 10) n {T:=fr 81 [(1,AV.int .i64 s1),(2,AV.ptr 0 0),(4,AV.ptr 1 0),(6,AV.ptr 2 0),(7,AV.int .i64 s7),(8,AV.int .i64 s8)],H:=[Blk.cells [AV.int .i64 h0_0,AV.int .i64 h0_1,AV.int .i64 h0_2,AV.ro KI h0_3,AV.ro MoK h0_4],Blk.cells [AV.int .i64 h1_0,AV.int .i64 h1_1,AV.int .i64 h1_2,AV.sl 3 0 0 none,AV.sl 4 0 0 none],Blk.cells [AV.int .i64 h2_0,AV.int .i64 h2_1,AV.int .i64 h2_2,AV.sl 5 0 0 none,AV.sl 6 0 0 none],Blk.row 0 3 KI h3,Blk.row 0 66 MoK h4,Blk.row 0 3 KI h5,Blk.row 0 66 MoK h6],ok:=true}
noncomputable def stepped_L1:=Classical.choose (hideE stepped_L1r)
theorem stepped_L1_def:stepped_L1=stepped_L1r:=Classical.choose_spec (hideE stepped_L1r)
noncomputable def stepped_L2r (F n:Nat) (s10 h0_0 h0_1 h0_2:Int) (h0_3:List Int) (h0_4:List Mo) (h1_0 h1_1 h1_2 h2_0 h2_1 h2_2:Int) (h3:List Int) (h4:List Mo) (h5:List Int) (h6:List Mo):Res:=Lp (cx_stepped F) (loopBy (loopsOf (cx_stepped F) (bodyOf Tryz.f21) (endK (cx_stepped F) Tryz.f21)) 15) n {T:=fr 81 [(2,AV.ptr 0 0),(4,AV.ptr 1 0),(6,AV.ptr 2 0),(10,AV.int .i64 s10)],H:=[Blk.cells [AV.int .i64 h0_0,AV.int .i64 h0_1,AV.int .i64 h0_2,AV.ro KI h0_3,AV.ro MoK h0_4],Blk.cells [AV.int .i64 h1_0,AV.int .i64 h1_1,AV.int .i64 h1_2,AV.sl 3 0 0 none,AV.sl 4 0 0 none],Blk.cells [AV.int .i64 h2_0,AV.int .i64 h2_1,AV.int .i64 h2_2,AV.sl 5 0 0 none,AV.sl 6 0 0 none],Blk.row 0 3 KI h3,Blk.row 0 66 MoK h4,Blk.row 0 3 KI h5,Blk.row 0 66 MoK h6],ok:=true}
noncomputable def stepped_L2:=Classical.choose (hideE stepped_L2r)
theorem stepped_L2_def:stepped_L2=stepped_L2r:=Classical.choose_spec (hideE stepped_L2r)
theorem stepped_L0_succ (F n:Nat) (s1 s7 h0_0 h0_1 h0_2:Int) (h0_3:List Int) (h0_4:List Mo) (h1_0 h1_1 h1_2 h2_0 h2_1 h2_2:Int) (h3:List Int) (h4:List Mo) (h5:List Int) (h6:List Mo):stepped_L0 F (n+1) s1 s7 h0_0 h0_1 h0_2 h0_3 h0_4 h1_0 h1_1 h1_2 h2_0 h2_1 h2_2 h3 h4 h5 h6=bif decide (s7<h0_2) then stepped_L1 F n F s1 s7 0 h0_0 h0_1 h0_2 h0_3 h0_4 h1_0 h1_1 h1_2 h2_0 h2_1 h2_2 h3 h4 h5 h6 else stepped_L2 F F 0 h0_0 h0_1 h0_2 h0_3 h0_4 h1_0 h1_1 h1_2 h2_0 h2_1 h2_2 h3 h4 h5 h6:=by rewrite [stepped_L0_def,stepped_L1_def,stepped_L2_def];kernel_rfl
theorem stepped_L1_succ (F m0 n:Nat) (s1 s7 s8 h0_0 h0_1 h0_2:Int) (h0_3:List Int) (h0_4:List Mo) (h1_0 h1_1 h1_2 h2_0 h2_1 h2_2:Int) (h3:List Int) (h4:List Mo) (h5:List Int) (h6:List Mo):stepped_L1 F m0 (n+1) s1 s7 s8 h0_0 h0_1 h0_2 h0_3 h0_4 h1_0 h1_1 h1_2 h2_0 h2_1 h2_2 h3 h4 h5 h6=bif decide (s8<h0_1) then bif rNxOk (h0_0,h0_1,h0_2,h0_3,h0_4,s1,s8,s7) then bif Nat.ble 0 (List.length h5)&&decide (Nat.mul (Nat.add (List.length h5) 1) 8≤140737488355328) then stepped_L1 F m0 n s1 s7 (IntKind.wrap .i64 (s8+1)) h0_0 h0_1 h0_2 h0_3 h0_4 h1_0 h1_1 h1_2 h2_0 h2_1 h2_2 h3 h4 (h5++[rNxM (h0_0,h0_1,h0_2,h0_3,h0_4,s1,s8,s7)]) h6 else BR else BR else stepped_L0 F m0 s1 (IntKind.wrap .i64 (s7+1)) h0_0 h0_1 h0_2 h0_3 h0_4 h1_0 h1_1 h1_2 h2_0 h2_1 h2_2 h3 h4 h5 h6:=by rewrite [stepped_L0_def,stepped_L1_def];kernel_rfl
theorem stepped_L2_succ (F n:Nat) (s10 h0_0 h0_1 h0_2:Int) (h0_3:List Int) (h0_4:List Mo) (h1_0 h1_1 h1_2 h2_0 h2_1 h2_2:Int) (h3:List Int) (h4:List Mo) (h5:List Int) (h6:List Mo):stepped_L2 F (n+1) s10 h0_0 h0_1 h0_2 h0_3 h0_4 h1_0 h1_1 h1_2 h2_0 h2_1 h2_2 h3 h4 h5 h6=bif decide (s10<(h0_4.length:Int)) then bif decide (0≤s10)&&decide (s10<(h0_4.length:Int)) then bif (nth (0,0,0,false) h0_4 (Int.toNat s10)).2.2.2 then bif decide (0≤IntKind.wrap .i64 (IntKind.wrap .i64 ((nth (0,0,0,false) h0_4 (Int.toNat s10)).2.1*h0_1)+(nth (0,0,0,false) h0_4 (Int.toNat s10)).1))&&decide (IntKind.wrap .i64 (IntKind.wrap .i64 ((nth (0,0,0,false) h0_4 (Int.toNat s10)).2.1*h0_1)+(nth (0,0,0,false) h0_4 (Int.toNat s10)).1)<(h5.length:Int)) then bif decide (Int.toNat (IntKind.wrap .i64 (IntKind.wrap .i64 ((nth (0,0,0,false) h0_4 (Int.toNat s10)).2.1*h0_1)+(nth (0,0,0,false) h0_4 (Int.toNat s10)).1))<List.length h5) then bif !leadsM (nth 0 h5 (Int.toNat (IntKind.wrap .i64 (IntKind.wrap .i64 ((nth (0,0,0,false) h0_4 (Int.toNat s10)).2.1*h0_1)+(nth (0,0,0,false) h0_4 (Int.toNat s10)).1))),(nth (0,0,0,false) h0_4 (Int.toNat s10)).2.2.1) then {ok:=true,val:=AV.tup [AV.agg [AV.int .i64 0,AV.int .i64 0,AV.int .i64 0,AV.sl 0 0 0 none,AV.sl 1 0 0 none],AV.bool false],heap:=[Blk.row 0 3 KI [],Blk.row 0 66 MoK []]} else stepped_L2 F n (IntKind.wrap .i64 (s10+1)) h0_0 h0_1 h0_2 h0_3 h0_4 h1_0 h1_1 h1_2 h2_0 h2_1 h2_2 h3 h4 h5 h6 else BR else BR else stepped_L2 F n (IntKind.wrap .i64 (s10+1)) h0_0 h0_1 h0_2 h0_3 h0_4 h1_0 h1_1 h1_2 h2_0 h2_1 h2_2 h3 h4 h5 h6 else BR else {ok:=true,val:=AV.tup [AV.agg [AV.int .i64 h2_0,AV.int .i64 h2_1,AV.int .i64 h2_2,AV.sl 0 0 0 none,AV.sl 1 0 0 none],AV.bool true],heap:=[Blk.row 0 3 KI h5,Blk.row 0 66 MoK h6]}:=by rewrite [stepped_L2_def];kernel_rfl
theorem stepped_eq (F:Nat) (a0_0 a0_1 a0_2:Int) (a0_3:List Int) (a0_4:List Mo) (a1:Int):runF (cx_stepped F) Tryz.f21 [AV.agg [AV.int .i64 a0_0,AV.int .i64 a0_1,AV.int .i64 a0_2,AV.ro KI a0_3,AV.ro MoK a0_4],AV.int .i64 a1] []=bif leakyOk (a0_0,a0_1,a0_2,a0_3,a0_4,a1) then bif leakyM (a0_0,a0_1,a0_2,a0_3,a0_4,a1) then {ok:=true,val:=AV.tup [AV.agg [AV.int .i64 0,AV.int .i64 0,AV.int .i64 0,AV.sl 0 0 0 none,AV.sl 1 0 0 none],AV.bool false],heap:=[Blk.row 0 3 KI [],Blk.row 0 66 MoK []]} else bif decide (Nat.mul (Nat.add 0 (List.length a0_4)) 32≤140737488355328) then stepped_L0 F F a1 0 a0_0 a0_1 a0_2 a0_3 a0_4 0 0 0 a0_0 a0_1 a0_2 [] [] [] a0_4 else BR else BR:=by rewrite [stepped_L0_def];kernel_rfl
noncomputable def stepped_run (F:Nat) (x:CT stepped_K):Res:=runF (cx_stepped F) Tryz.f21 (groupA stepped_sh (enc stepped_K x)) []
theorem stepped_arg (F:Nat) (a0_0 a0_1 a0_2:Int) (a0_3:List Int) (a0_4:List Mo) (a1:Int):stepped_run F (a0_0,a0_1,a0_2,a0_3,a0_4,a1)=runF (cx_stepped F) Tryz.f21 [AV.agg [AV.int .i64 a0_0,AV.int .i64 a0_1,AV.int .i64 a0_2,AV.ro KI a0_3,AV.ro MoK a0_4],AV.int .i64 a1] []:=by kernel_rfl
def rStream_K:CK:=CK.pair KL KI
def rStream_sh:List (Option Nat):=[none,none]
def rStream_R:CK:=CK.int .i64
def rStream_re:List (Option Nat):=[none]
noncomputable def rStream_L0r (F n:Nat) (s0:List Int) (s1 s5:Int):Res:=Lp (cx_rStream F) (loopBy (loopsOf (cx_rStream F) (bodyOf Tryz.f27) (endK (cx_rStream F) Tryz.f27)) 4) n {T:=fr 22 [(0,AV.ro KI s0),(1,AV.int .i64 s1),(5,AV.int .i64 s5)],H:=[],ok:=true}
noncomputable def rStream_L0:=Classical.choose (hideE rStream_L0r)
theorem rStream_L0_def:rStream_L0=rStream_L0r:=Classical.choose_spec (hideE rStream_L0r)
theorem rStream_L0_succ (F n:Nat) (s0:List Int) (s1 s5:Int):rStream_L0 F (n+1) s0 s1 s5=bif decide (s5<(s0.length:Int)) then bif decide (0≤s5)&&decide (s5<(s0.length:Int)) then bif decide (nth 0 s0 (Int.toNat s5)≥0) then bif decide (0≤IntKind.wrap .u64 s1) then bif !decide (nth 0 s0 (Int.toNat s5)<shlI .i64 1 (IntKind.wrap .u64 s1)) then {ok:=true,val:=AV.int .i64 52} else rStream_L0 F n s0 s1 (IntKind.wrap .i64 (s5+1)) else BR else {ok:=true,val:=AV.int .i64 52} else BR else {ok:=true,val:=AV.int .i64 0}:=by rewrite [rStream_L0_def];kernel_rfl
theorem rStream_eq (F:Nat) (a0:List Int) (a1:Int):runF (cx_rStream F) Tryz.f27 [AV.ro KI a0,AV.int .i64 a1] []=bif decide ((a0.length:Int)>4096) then {ok:=true,val:=AV.int .i64 52} else rStream_L0 F F a0 a1 0:=by rewrite [rStream_L0_def];kernel_rfl
noncomputable def rStream_run (F:Nat) (x:CT rStream_K):Res:=runF (cx_rStream F) Tryz.f27 (groupA rStream_sh (enc rStream_K x)) []
theorem rStream_arg (F:Nat) (a0:List Int) (a1:Int):rStream_run F (a0,a1)=runF (cx_rStream F) Tryz.f27 [AV.ro KI a0,AV.int .i64 a1] []:=by kernel_rfl
def nxI (k w h:Int) (cells:List Int) (ms:List Mo) (word:Int) (i:Nat):Int:=nxV k w h cells ms word ((i % w.toNat:Nat):Int) ((i / w.toNat:Nat):Int)
def upTo (f:Nat→Int) (n:Nat):List Int:=(List.range n).map f
theorem upTo_succ (f:Nat→Int) (n:Nat):upTo f (n+1)=upTo f n++[f n]:=by simp[upTo,List.range_succ]
theorem upTo_len (f:Nat→Int) (n:Nat):(upTo f n).length=n:=by simp[upTo]
theorem upTo_congr {f g:Nat→Int} {n:Nat} (h:∀i,i<n→f i=g i):upTo f n=upTo g n:=List.map_congr_left fun i hi=>h i (List.mem_range.1 hi)
theorem setAll_upTo (f:Nat→Int):∀(j i:Nat),setAll f j i (upTo f i++List.replicate j 0)=upTo f (i+j)
 |0,i=>by simp[setAll]
 | j+1,i=>by
  have hs:(upTo f i++List.replicate (j+1) 0).set i (f i)=upTo f (i+1)++List.replicate j 0:=by
   rw[upTo_succ,List.set_append_right _ _ (by rw[upTo_len];omega),upTo_len,Nat.sub_self,List.replicate_succ,List.set_cons_zero,List.append_assoc];rfl
  rw[setAll,hs,setAll_upTo f j (i+1),show i+1+j=i+(j+1) by omega]
theorem afterM_upTo (w h rk:Int) (m:MM) (l:List Int) (word:Int):afterM w h rk m l word=upTo (cellI w h rk [] m l word) l.length:=by
 have:=setAll_upTo (cellI w h rk [] m l word) l.length 0
 rw[Nat.zero_add] at this
 exact this
def noR:Res:={ok:=true,val:=AV.tup [AV.agg [AV.int .i64 0,AV.int .i64 0,AV.int .i64 0,AV.sl 0 0 0 none,AV.sl 1 0 0 none],AV.bool false],heap:=[Blk.row 0 3 KI [],Blk.row 0 66 MoK []]}
def yesR (k w h:Int) (cs:List Int) (ms:List Mo):Res:={ok:=true,val:=AV.tup [AV.agg [AV.int .i64 k,AV.int .i64 w,AV.int .i64 h,AV.sl 0 0 0 none,AV.sl 1 0 0 none],AV.bool true],heap:=[Blk.row 0 3 KI cs,Blk.row 0 66 MoK ms]}
theorem sd_L2 (F:Nat) {k w h:Int} {cells:List Int} {ms ms2:List Mo} {cs:List Int} {a b c d e f:Int} {d1 d2:_} (hw:1≤w∧w≤24) (hh:1≤h∧h≤24) (hl:(cs.length:Int)=w*h) (hms:ms.all (mIn w h)=true) (hx:ms.length<1000):∀(j n i:Nat),i+j=ms.length→j<n→
  stepped_L2 F n i k w h cells ms a b c d e f d1 d2 cs ms2=bif badL w cs (ms.drop i) then noR else yesR d e f cs ms2
 |j,0,i,_,h=>by omega
 |0,n+1,i,hi,_=>by
  rw[stepped_L2_succ,drop_len ms (by omega)]
  simp only[show ¬((i:Int)<ms.length) by omega,decide_false,cond_false,badL,List.any_nil]
  rfl
 | j+1,n+1,i,hi,hn=>by
  have ih:=sd_L2 F (k:=k) (cells:=cells) (cs:=cs) (ms2:=ms2) (a:=a) (b:=b) (c:=c) (d:=d) (e:=e) (f:=f) (d1:=d1) (d2:=d2) hw hh hl hms hx j n (i+1) (by omega) (by omega)
  have hq:mIn w h (nth (0,0,0,false) ms i)=true:=List.all_eq_true.1 hms _ (nth_mem (0,0,0,false) ms (show i<ms.length by omega))
  rw[stepped_L2_succ,drop_nth (0,0,0,false) ms (show i<ms.length by omega),Int.toNat_natCast,wrap_succ (i:=i) (by omega),ih]
  revert hq
  generalize nth (0,0,0,false) ms i=q
  obtain ⟨x,y,z,o⟩:=q
  intro hq
  obtain ⟨r1,r2⟩:=inR_iff.1 hq
  have r3:0≤x∧x<w:=r1
  have r4:0≤y∧y<h:=r2
  obtain ⟨i1,i2,i3,i4⟩:=idx_ok hw hh hl r3 r4
  have i5:(y*w+x).toNat<cs.length:=by omega
  simp only[show (i:Int)<ms.length by omega,show (0:Int)≤i by omega,decide_true,Bool.and_self,cond_true,wrap_id (n:=y*w) (by omega) (by omega),wrap_id (n:=y*w+x) (by omega) (by omega),i3,i4,i5,badL,List.any_cons]
  cases o with
  |false=>simp only[cond_false,Bool.false_and,Bool.false_or]
  |true=>
   simp only[cond_true,Bool.true_and]
   cases leadsM (nth 0 cs (y*w+x).toNat,z)<;>rfl
theorem sd_x (F:Nat) {k:Int} {W H:Nat} {cells:List Int} {ms ms2:List Mo} {word:Int} {a b c d e f:Int} {d1 d2:_} (g:orgG k W H cells ms=true) {y:Nat} (hy:y<H) (m0:Nat):∀(j n x:Nat),x+j=W→j<n→
  stepped_L1 F m0 n word (y:Int) (x:Int) k W H cells ms a b c d e f d1 d2 (upTo (nxI k W H cells ms word) (y*W+x)) ms2=stepped_L0 F m0 word ((y+1:Nat):Int) k W H cells ms a b c d e f d1 d2 (upTo (nxI k W H cells ms word) ((y+1)*W)) ms2
 |j,0,x,_,h=>by omega
 |0,n+1,x,hx,_=>by
  obtain ⟨hw,hh,hl,hrk,_,_,_⟩:=orgG_spec g
  have hxW:x=W:=by omega
  rw[stepped_L1_succ,wrap_succ (i:=y) (by omega),hxW,Nat.succ_mul]
  simp only[show ¬((W:Int)<W) by omega,decide_false,cond_false]
 | j+1,n+1,x,hx,hn=>by
  obtain ⟨hw,hh,hl,hrk,_,_,_⟩:=orgG_spec g
  have ih:=sd_x F g hy (ms2:=ms2) (word:=word) (a:=a) (b:=b) (c:=c) (d:=d) (e:=e) (f:=f) (d1:=d1) (d2:=d2) m0 j n (x+1) (by omega) (by omega)
  have hb:y*W+x<1000:=by
   have:y*W+x<H*W:=by
    have:(y+1)*W≤H*W:=Nat.mul_le_mul_right _ hy
    rw[Nat.succ_mul] at this;omega
   have:H*W≤24*24:=Nat.mul_le_mul (by omega) (by omega)
   omega
  have o:rNxOk (k,(W:Int),(H:Int),cells,ms,word,(x:Int),(y:Int))=true:=by
   simp only[rNxOk,g,Bool.true_and];exact inR_nat (by omega) hy
  have e1:rNxM (k,(W:Int),(H:Int),cells,ms,word,(x:Int),(y:Int))=nxI k W H cells ms word (y*W+x):=by
   simp only[rNxM,nxI,Int.toNat_natCast];rw[(yx W (show x<W by omega)).1,(yx W (show x<W by omega)).2]
  rw[stepped_L1_succ,wrap_succ (i:=x) (by omega),o,e1,←upTo_succ,upTo_len,show y*W+x+1=y*W+(x+1) by omega,ih]
  simp only[show ((x:Int)<W) by omega,decide_true,cond_true,nble,Nat.zero_le,Bool.true_and]
  rw[decide_eq_true (show Nat.mul (Nat.add (y*W+x) 1) 8≤140737488355328 from by show (y*W+x+1)*8≤_;omega)]
  rfl
theorem sd_y (F:Nat) (hF:1100≤F) {k:Int} {W H:Nat} {cells:List Int} {ms ms2:List Mo} {word:Int} {a b c d e f:Int} {d1 d2:_} (g:orgG k W H cells ms=true):∀(j n y:Nat),y+j=H→j<n→
  stepped_L0 F n word (y:Int) k W H cells ms a b c d e f d1 d2 (upTo (nxI k W H cells ms word) (y*W)) ms2=bif badL W (upTo (nxI k W H cells ms word) (H*W)) ms then noR else yesR d e f (upTo (nxI k W H cells ms word) (H*W)) ms2
 |j,0,y,_,h=>by omega
 |0,n+1,y,hy,_=>by
  obtain ⟨hw,hh,hl,hrk,hx,_,hm⟩:=orgG_spec g
  have:=sd_L2 F (k:=k) (cells:=cells) (ms:=ms) (ms2:=ms2) (cs:=upTo (nxI k W H cells ms word) (H*W)) (a:=a) (b:=b) (c:=c) (d:=d) (e:=e) (f:=f) (d1:=d1) (d2:=d2) hw hh (by rw[upTo_len,Int.natCast_mul,Int.mul_comm]) hm hx ms.length F 0 (by omega) (by omega)
  rw[List.drop_zero] at this
  rw[stepped_L0_succ,show y=H by omega]
  simp only[show ¬((H:Int)<H) by omega,decide_false,cond_false]
  exact this
 |j+1,n+1,y,hy,hn=>by
  obtain ⟨hw,hh,hl,hrk,_,_,_⟩:=orgG_spec g
  have ih:=sd_y F hF g (ms2:=ms2) (word:=word) (a:=a) (b:=b) (c:=c) (d:=d) (e:=e) (f:=f) (d1:=d1) (d2:=d2) j n (y+1) (by omega) (by omega)
  have lx:=sd_x F g (ms2:=ms2) (word:=word) (a:=a) (b:=b) (c:=c) (d:=d) (e:=e) (f:=f) (d1:=d1) (d2:=d2) (show y<H by omega) n W F 0 (by omega) (by omega)
  rw[stepped_L0_succ]
  simp only[show ((y:Int)<H) by omega,decide_true,cond_true]
  exact lx.trans ih
abbrev OrgB:=Int×Int×Int×List Int×List Mo×Bool
def steppedOk:LyZ→Bool:=fun (k,w,h,cells,ms,_)=>orgG k w h cells ms
def steppedM:LyZ→OrgB:=fun (k,w,h,cells,ms,word)=>
 bif leakyM (k,w,h,cells,ms,word) then (0,0,0,[],[],false) else bif badL w (upTo (nxI k w h cells ms word) cells.length) ms then (0,0,0,[],[],false) else (k,w,h,upTo (nxI k w h cells ms word) cells.length,ms,true)
def steppedFu:LyZ→Nat:=fun _=>1100
def steppedR (z:LyZ):Res:={ok:=true,val:=AV.tup [AV.agg [AV.int .i64 (steppedM z).1,AV.int .i64 (steppedM z).2.1,AV.int .i64 (steppedM z).2.2.1,AV.sl 0 0 0 none,AV.sl 1 0 0 none],AV.bool (steppedM z).2.2.2.2.2],heap:=[Blk.row 0 3 KI (steppedM z).2.2.2.1,Blk.row 0 66 MoK (steppedM z).2.2.2.2.1]}
theorem stepped_retR (z:LyZ) (hk:steppedOk z=true):stepped_run (steppedFu z) z=steppedR z∧(steppedR z).ok=true:=by
 obtain ⟨k,w,h,cells,ms,word⟩:=z
 have g:orgG k w h cells ms=true:=hk
 obtain ⟨hw,hh,hl,hrk,hx,_,_⟩:=orgG_spec g
 obtain ⟨W,rfl⟩:∃a:Nat,w=a:=⟨w.toNat,by omega⟩
 obtain ⟨H,rfl⟩:∃b:Nat,h=b:=⟨h.toNat,by omega⟩
 have hlen:cells.length=H*W:=by rw[Nat.mul_comm];exact_mod_cast hl
 have sy:=sd_y 1100 (by omega) g (ms2:=ms) (word:=word) (a:=0) (b:=0) (c:=0) (d:=k) (e:=W) (f:=H) (d1:=[]) (d2:=[]) H 1100 0 (by omega) (by omega)
 rw[Nat.zero_mul,←hlen] at sy
 refine ⟨(stepped_arg ..).trans ((stepped_eq ..).trans ?_),rfl⟩
 rw[show leakyOk (k,(W:Int),(H:Int),cells,ms,word)=true from g,decide_eq_true (show Nat.mul (Nat.add 0 ms.length) 32≤140737488355328 from by show (0+ms.length)*32≤_;omega)]
 simp only[cond_true,steppedR,steppedM]
 cases leakyM (k,(W:Int),(H:Int),cells,ms,word) with
 |true=>rfl
 |false=>
  simp only[cond_false]
  refine Eq.trans ?_ (sy.trans ?_)
  ·rfl
  ·cases badL W (upTo (nxI k W H cells ms word) cells.length) ms<;>rfl
def fineB (bits a:Int):Bool:=decide (0≤a)&&decide (a<shlI .i64 1 bits)
def rStreamOk:List Int×Int→Bool:=fun (_,bits)=>decide (0≤bits∧bits≤1000)
def rStreamM:List Int×Int→Int:=fun (l,bits)=>bif decide ((l.length:Int)>4096) then 52 else bif l.all (fineB bits) then 0 else 52
def rStreamFu:List Int×Int→Nat:=fun (l,_)=>l.length+1
theorem rStream_L0_spec (F:Nat) {l:List Int} {bits:Int} (hb:0≤bits∧bits≤1000) (hl:l.length≤4096):∀(j n i:Nat),i+j=l.length→j<n→
  rStream_L0 F n l bits i={ok:=true,val:=AV.int .i64 (bif (l.drop i).all (fineB bits) then 0 else 52)}
 |j,0,i,_,h=>by omega
 |0,n+1,i,hi,_=>by
  rw[rStream_L0_succ,drop_len l (by omega)]
  simp only[show ¬((i:Int)<l.length) by omega,decide_false,cond_false,List.all_nil,cond_true]
 |j+1,n+1,i,hi,hn=>by
  have ih:=rStream_L0_spec F (l:=l) hb hl j n (i+1) (by omega) (by omega)
  rw[rStream_L0_succ,drop_nth 0 l (show i<l.length by omega),Int.toNat_natCast,wrap_succ (i:=i) (by omega),wrapu_id (n:=bits) (by omega) (by omega),ih]
  simp only[show (i:Int)<l.length by omega,show (0:Int)≤i by omega,hb.1,decide_true,Bool.and_self,cond_true,List.all_cons,fineB,ge_iff_le]
  cases decide (0≤nth 0 l i)<;>cases decide (nth 0 l i<shlI .i64 1 bits)<;>rfl
theorem rStream_ret (z:List Int×Int) (hk:rStreamOk z=true):Ret rStream_re rStream_R (rStream_run (rStreamFu z) z) (rStreamM z):=by
 obtain ⟨l,bits⟩:=z
 simp only[rStreamOk,decide_eq_true_eq] at hk
 refine Ret.of (r':={ok:=true,val:=AV.int .i64 (rStreamM (l,bits))}) ((rStream_arg ..).trans ((rStream_eq ..).trans ?_)) (Ret.int _ _)
 simp only[rStreamM]
 by_cases hl:(l.length:Int)>4096
 ·rw[decide_eq_true hl];rfl
 ·rw[decide_eq_false hl]
  simp only[cond_false]
  have:=rStream_L0_spec (l.length+1) hk (show l.length≤4096 by omega) l.length (l.length+1) 0 (by omega) (by omega)
  rw[List.drop_zero] at this
  exact this
noncomputable def tbSRL_1:=addC 21 (tspecR stepped_sh stepped_K steppedOk steppedR) tbSR
theorem tabSRL_1:Tab Tryz.prog tbSRL_1 cxMd tbKSR:=Tab.addTyR (os:=[]) tabSR tabSR (KK:=stepped_K) (fn:=Tryz.f21) (by kernel_rfl) (by kernel_rfl) (by kernel_rfl) (by kernel_rfl) _ steppedFu stepped_retR
noncomputable def tbSRL_2:=addC 27 (tspec rStream_sh rStream_K rStream_re rStream_R rStreamOk rStreamM) tbSRL_1
theorem tabSRL_2:Tab Tryz.prog tbSRL_2 cxMd tbKSR:=Tab.addTy (os:=[]) tabSRL_1 tabSR (KK:=rStream_K) (R:=rStream_R) (fn:=Tryz.f27) (by kernel_rfl) (by kernel_rfl) (by kernel_rfl) (by kernel_rfl) _ rStreamFu rStream_ret
noncomputable def tbSRB:=tbSRL_2
noncomputable def tbKSRB:KT:=tbKSR
theorem tabSRB:Tab Tryz.prog tbSRB cxMd tbKSRB:=tabSRL_2
noncomputable def tbST:=tbSRB
noncomputable def tbKST:KT:=tbKSRB
theorem tabST:Tab Tryz.prog tbST cxMd tbKST:=tabSRB
noncomputable def cx_inRange (F:Nat):Cx:={P:=Tryz.prog,C:=tbST,K:=tbKST,mode:=cxMd,fuel:=F,live:=liveTab [(2,[8,0,7,1,9])],pin:=0,nx:=true}
noncomputable def cx_sameInts (F:Nat):Cx:={P:=Tryz.prog,C:=tbST,K:=tbKST,mode:=cxMd,fuel:=F,live:=liveTab [(4,[0,1,5])],pin:=0,nx:=true}
noncomputable def cx_rStep (F:Nat):Cx:={P:=Tryz.prog,C:=tbST,K:=tbKST,mode:=cxMd,fuel:=F,live:=liveTab [],pin:=0,nx:=true}
def inRange_K:CK:=CK.pair KL KI
def inRange_sh:List (Option Nat):=[none,none]
def inRange_R:CK:=CK.bool
def inRange_re:List (Option Nat):=[none]
noncomputable def inRange_L0r (F n:Nat) (s0:List Int) (s1:Int) (s7:List Int) (s8 s9:Int):Res:=Lp (cx_inRange F) (loopBy (loopsOf (cx_inRange F) (bodyOf Tryz.f28) (endK (cx_inRange F) Tryz.f28)) 2) n {T:=fr 25 [(0,AV.ro KI s0),(1,AV.int .i64 s1),(7,AV.ro KI s7),(8,AV.int .i64 s8),(9,AV.int .i64 s9)],H:=[],ok:=true}
noncomputable def inRange_L0:=Classical.choose (hideE inRange_L0r)
theorem inRange_L0_def:inRange_L0=inRange_L0r:=Classical.choose_spec (hideE inRange_L0r)
theorem inRange_L0_succ (F n:Nat) (s0:List Int) (s1:Int) (s7:List Int) (s8 s9:Int):inRange_L0 F (n+1) s0 s1 s7 s8 s9=bif decide (s9<s8) then bif decide (0≤s9)&&decide (s9<(s7.length:Int)) then bif decide (nth 0 s7 (Int.toNat s9)<0) then {ok:=true,val:=AV.bool false} else bif decide (0≤s1) then bif decide (nth 0 s7 (Int.toNat s9)≥shlI .i64 1 s1) then {ok:=true,val:=AV.bool false} else inRange_L0 F n s0 s1 s7 s8 (IntKind.wrap .i64 (s9+1)) else BR else BR else {ok:=true,val:=AV.bool (decide ((s0.length:Int)≤4096))}:=by rewrite [inRange_L0_def];kernel_rfl
theorem inRange_eq (F:Nat) (a0:List Int) (a1:Int):runF (cx_inRange F) Tryz.f28 [AV.ro KI a0,AV.int .i64 a1] []=inRange_L0 F F a0 a1 a0 (a0.length:Int) 0:=by rewrite [inRange_L0_def];kernel_rfl
noncomputable def inRange_run (F:Nat) (x:CT inRange_K):Res:=runF (cx_inRange F) Tryz.f28 (groupA inRange_sh (enc inRange_K x)) []
theorem inRange_arg (F:Nat) (a0:List Int) (a1:Int):inRange_run F (a0,a1)=runF (cx_inRange F) Tryz.f28 [AV.ro KI a0,AV.int .i64 a1] []:=by kernel_rfl
def sameInts_K:CK:=CK.pair KL KL
def sameInts_sh:List (Option Nat):=[none,none]
def sameInts_R:CK:=CK.bool
def sameInts_re:List (Option Nat):=[none]
noncomputable def sameInts_L0r (F n:Nat) (s0 s1:List Int) (s5:Int):Res:=Lp (cx_sameInts F) (loopBy (loopsOf (cx_sameInts F) (bodyOf Tryz.f12) (endK (cx_sameInts F) Tryz.f12)) 4) n {T:=fr 26 [(0,AV.ro KI s0),(1,AV.ro KI s1),(5,AV.int .i64 s5)],H:=[],ok:=true}
noncomputable def sameInts_L0:=Classical.choose (hideE sameInts_L0r)
theorem sameInts_L0_def:sameInts_L0=sameInts_L0r:=Classical.choose_spec (hideE sameInts_L0r)
theorem sameInts_L0_succ (F n:Nat) (s0 s1:List Int) (s5:Int):sameInts_L0 F (n+1) s0 s1 s5=bif decide (s5<(s0.length:Int)) then bif decide (0≤s5)&&decide (s5<(s0.length:Int)) then bif decide (0≤s5)&&decide (s5<(s1.length:Int)) then bif nth 0 s0 (Int.toNat s5) !=nth 0 s1 (Int.toNat s5) then {ok:=true,val:=AV.bool false} else sameInts_L0 F n s0 s1 (IntKind.wrap .i64 (s5+1)) else BR else BR else {ok:=true,val:=AV.bool true}:=by rewrite [sameInts_L0_def];kernel_rfl
theorem sameInts_eq (F:Nat) (a0 a1:List Int):runF (cx_sameInts F) Tryz.f12 [AV.ro KI a0,AV.ro KI a1] []=bif (a0.length:Int) !=(a1.length:Int) then {ok:=true,val:=AV.bool false} else sameInts_L0 F F a0 a1 0:=by rewrite [sameInts_L0_def];kernel_rfl
noncomputable def sameInts_run (F:Nat) (x:CT sameInts_K):Res:=runF (cx_sameInts F) Tryz.f12 (groupA sameInts_sh (enc sameInts_K x)) []
theorem sameInts_arg (F:Nat) (a0 a1:List Int):sameInts_run F (a0,a1)=runF (cx_sameInts F) Tryz.f12 [AV.ro KI a0,AV.ro KI a1] []:=by kernel_rfl
def rStep_K:CK:=CK.pair KI (CK.pair KI (CK.pair KI (CK.pair KL (CK.pair (CK.slice 66 MoK) KI))))
def rStep_sh:List (Option Nat):=[some 5,none]
def rStep_R:CK:=CK.pair KI (CK.pair KI (CK.pair KI (CK.pair KL (CK.pair (CK.slice 66 MoK) (CK.pair KI KI)))))
def rStep_re:List (Option Nat):=[some 5,none,none]
theorem rStep_eq (F:Nat) (a0_0 a0_1 a0_2:Int) (a0_3:List Int) (a0_4:List Mo) (a1:Int):runF (cx_rStep F) Tryz.f7 [AV.agg [AV.int .i64 a0_0,AV.int .i64 a0_1,AV.int .i64 a0_2,AV.ro KI a0_3,AV.ro MoK a0_4],AV.int .i64 a1] []=bif rVOk (a0_0,a0_1,a0_2,a0_3,a0_4) then bif rVM (a0_0,a0_1,a0_2,a0_3,a0_4) !=0 then {ok:=true,val:=AV.tup [AV.agg [AV.int .i64 0,AV.int .i64 0,AV.int .i64 0,AV.sl 0 0 0 none,AV.sl 1 0 0 none],AV.int .i64 0,AV.int .i64 (rVM (a0_0,a0_1,a0_2,a0_3,a0_4))],heap:=[Blk.row 0 3 KI [],Blk.row 0 66 MoK []]} else bif mouthsOk (a0_0,a0_1,a0_2,a0_3,a0_4) then bif decide (a1≥0) then bif decide (0≤IntKind.wrap .u64 (mouthsM (a0_0,a0_1,a0_2,a0_3,a0_4)).1) then bif !decide (a1<shlI .i64 1 (IntKind.wrap .u64 (mouthsM (a0_0,a0_1,a0_2,a0_3,a0_4)).1)) then {ok:=true,val:=AV.tup [AV.agg [AV.int .i64 0,AV.int .i64 0,AV.int .i64 0,AV.sl 0 0 0 none,AV.sl 1 0 0 none],AV.int .i64 0,AV.int .i64 52],heap:=[Blk.row 0 3 KI [],Blk.row 0 66 MoK []]} else bif steppedOk (a0_0,a0_1,a0_2,a0_3,a0_4,a1) then bif !(steppedM (a0_0,a0_1,a0_2,a0_3,a0_4,a1)).2.2.2.2.2 then {ok:=true,val:=AV.tup [AV.agg [AV.int .i64 0,AV.int .i64 0,AV.int .i64 0,AV.sl 0 0 0 none,AV.sl 1 0 0 none],AV.int .i64 0,AV.int .i64 53],heap:=[Blk.row 0 3 KI [],Blk.row 0 66 MoK []]} else bif saysOk (a0_0,a0_1,a0_2,a0_3,a0_4) then {ok:=true,val:=AV.tup [AV.agg [AV.int .i64 (steppedM (a0_0,a0_1,a0_2,a0_3,a0_4,a1)).1,AV.int .i64 (steppedM (a0_0,a0_1,a0_2,a0_3,a0_4,a1)).2.1,AV.int .i64 (steppedM (a0_0,a0_1,a0_2,a0_3,a0_4,a1)).2.2.1,AV.sl 0 0 0 none,AV.sl 1 0 0 none],AV.int .i64 (saysM (a0_0,a0_1,a0_2,a0_3,a0_4)),AV.int .i64 0],heap:=[Blk.row 0 3 KI (steppedM (a0_0,a0_1,a0_2,a0_3,a0_4,a1)).2.2.2.1,Blk.row 0 66 MoK (steppedM (a0_0,a0_1,a0_2,a0_3,a0_4,a1)).2.2.2.2.1]} else BR else BR else BR else {ok:=true,val:=AV.tup [AV.agg [AV.int .i64 0,AV.int .i64 0,AV.int .i64 0,AV.sl 0 0 0 none,AV.sl 1 0 0 none],AV.int .i64 0,AV.int .i64 52],heap:=[Blk.row 0 3 KI [],Blk.row 0 66 MoK []]} else BR else BR:=by kernel_rfl
noncomputable def rStep_run (F:Nat) (x:CT rStep_K):Res:=runF (cx_rStep F) Tryz.f7 (groupA rStep_sh (enc rStep_K x)) []
theorem rStep_arg (F:Nat) (a0_0 a0_1 a0_2:Int) (a0_3:List Int) (a0_4:List Mo) (a1:Int):rStep_run F (a0_0,a0_1,a0_2,a0_3,a0_4,a1)=runF (cx_rStep F) Tryz.f7 [AV.agg [AV.int .i64 a0_0,AV.int .i64 a0_1,AV.int .i64 a0_2,AV.ro KI a0_3,AV.ro MoK a0_4],AV.int .i64 a1] []:=by kernel_rfl
theorem fitsAll_spec {kind w h:Int} {cells:List Int} {ms:List Mo}:∀(l pre:List Mo),fitsAll kind w h cells ms pre l=true→(∀m∈l,mouthP kind w h cells ms m=true)∧dist l∧(∀m∈l,∀n∈pre,sameM n m=false)∧(∀m∈l,mouthL w cells m=true)
 |[],_,_=>⟨by simp,trivial,by simp,by simp⟩
 | m::l,pre,hf=>by
  simp only[fitsAll,fitB,Bool.and_eq_true,Bool.not_eq_true'] at hf
  obtain ⟨⟨h1,h2,h3⟩,h4⟩:=hf
  obtain ⟨g1,g2,g3,g4⟩:=fitsAll_spec l (pre++[m]) h4
  refine ⟨fun q hq=> ?_,⟨fun n hn=>g3 n hn m (by simp),g2⟩,fun q hq n hn=> ?_,fun q hq=> ?_⟩
  ·rcases List.mem_cons.1 hq with rfl|hq
   ·exact h1
   ·exact g1 q hq
  ·rcases List.mem_cons.1 hq with rfl|hq
   ·exact List.any_eq_false.1 h2 n hn |> fun x=>by simpa using x
   ·exact g3 q hq n (by simp[hn])
  ·rcases List.mem_cons.1 hq with rfl|hq
   ·exact h3
   ·exact g4 q hq
structure OrgV (k w h:Int) (cells:List Int) (ms:List Mo):Prop where
 good:orgG k w h cells ms=true
 fit:∀m∈ms,mouthP k w h cells ms m=true
 dist:dist ms
 lead:∀m∈ms,mouthL w cells m=true
 cell:cells.all (cellOk (rStatesM k))=true
 few:cntI ms≤4∧cntO ms≤4
theorem mouthP_G {k w h:Int} {cells:List Int} {ms:List Mo} {m:Mo} (hm:mouthP k w h cells ms m=true):mG w h m=true:=by
 simp only[mouthP,Bool.and_eq_true,decide_eq_true_eq,inR_within] at hm
 simp only[mG,Bool.and_eq_true]
 exact ⟨decide_eq_true hm.1,hm.2.1⟩
theorem OrgV.of {k w h:Int} {cells:List Int} {ms:List Mo} (hv:organB k w h cells ms=true):OrgV k w h cells ms:=by
 simp only[organB,shapeB,Bool.and_eq_true,decide_eq_true_eq] at hv
 obtain ⟨⟨hk,a,b,c,d,e⟩,h2,h3,h4⟩:=hv
 obtain ⟨g1,g2,g3,g4⟩:=fitsAll_spec ms [] h3
 have:=cnt_le ms
 refine ⟨?_,g1,g2,g4,h2,h4⟩
 simp only[orgG,Bool.and_eq_true,decide_eq_true_eq]
 exact ⟨⟨⟨a,b⟩,⟨c,d⟩,e,hk,by omega⟩,List.all_eq_true.2 fun m hm=>mouthP_G (g1 m hm)⟩
theorem OrgV.len {k w h:Int} {cells:List Int} {ms:List Mo} (v:OrgV k w h cells ms):ms.length≤8:=by
 have:=cnt_le ms
 have:=v.few
 omega
def inRangeOk:List Int×Int→Bool:=fun (xs,bits)=>decide (0≤bits∧bits≤62∧xs.length<big)
def inRangeM:List Int×Int→Bool:=fun (xs,bits)=>xs.all (fineB bits)&&decide ((xs.length:Int)≤4096)
def inRangeFu:List Int×Int→Nat:=fun (xs,_)=>xs.length+1
theorem inRange_L0_spec (F:Nat) (xs:List Int) (bits:Int) (hb:0≤bits∧bits≤62) (hx:xs.length<big):∀(k n i:Nat),i+k=xs.length→k<n→
  inRange_L0 F n xs bits xs xs.length i=resB ((xs.drop i).all (fineB bits)&&decide ((xs.length:Int)≤4096))
 |k,0,i,_,h=>by omega
 |0,n+1,i,hi,_=>by
  rw[inRange_L0_succ,drop_len xs (by omega)]
  simp only[show ¬((i:Int)<xs.length) by omega,decide_false,cond_false,List.all_nil,Bool.true_and]
  rfl
 | k+1,n+1,i,hi,hn=>by
  have ih:=inRange_L0_spec F xs bits hb hx k n (i+1) (by omega) (by omega)
  rw[inRange_L0_succ,wrapS (show i<big by omega),ih,drop_nth 0 xs (show i<xs.length by omega),Int.toNat_natCast]
  simp only[show (i:Int)<xs.length by omega,show (0:Int)≤i by omega,hb.1,decide_true,Bool.and_self,cond_true,List.all_cons,fineB]
  by_cases c1:nth 0 xs i<0
  ·simp[c1,show ¬0≤nth 0 xs i by omega];rfl
  ·by_cases c2:nth 0 xs i≥shlI .i64 1 bits
   ·simp[c1,c2,show ¬nth 0 xs i<shlI .i64 1 bits by omega];rfl
   ·simp[c1,c2,show 0≤nth 0 xs i by omega,show nth 0 xs i<shlI .i64 1 bits by omega]
theorem inRange_ret (z:List Int×Int) (hk:inRangeOk z=true):Ret inRange_re inRange_R (inRange_run (inRangeFu z) z) (inRangeM z):=by
 obtain ⟨xs,bits⟩:=z
 simp only[inRangeOk,decide_eq_true_eq] at hk
 refine Ret.of ((inRange_arg ..).trans ((inRange_eq ..).trans ?_)) (Ret.bool _)
 exact inRange_L0_spec (xs.length+1) xs bits ⟨hk.1,hk.2.1⟩ hk.2.2 xs.length (xs.length+1) 0 (by omega) (by omega)
def sameIntsOk:List Int×List Int→Bool:=fun (xs,_)=>decide (xs.length<big)
def sameIntsM:List Int×List Int→Bool:=fun (xs,ys)=>decide (xs=ys)
def sameIntsFu:List Int×List Int→Nat:=fun (xs,_)=>xs.length+1
theorem sameInts_L0_spec (F:Nat) (xs ys:List Int) (hx:xs.length<big) (hl:xs.length=ys.length):∀(k n i:Nat),i+k=xs.length→k<n→
  sameInts_L0 F n xs ys i=resB (decide (xs.drop i=ys.drop i))
 |k,0,i,_,h=>by omega
 |0,n+1,i,hi,_=>by
  rw[sameInts_L0_succ,drop_len xs (by omega),drop_len ys (by omega)]
  simp only[show ¬((i:Int)<xs.length) by omega,decide_false,cond_false,decide_true]
  rfl
 |k+1,n+1,i,hi,hn=>by
  have ih:=sameInts_L0_spec F xs ys hx hl k n (i+1) (by omega) (by omega)
  rw[sameInts_L0_succ,wrapS (show i<big by omega),ih,drop_nth 0 xs (show i<xs.length by omega),drop_nth 0 ys (show i<ys.length by omega),Int.toNat_natCast]
  simp only[show (i:Int)<xs.length by omega,show (i:Int)<ys.length by omega,show (0:Int)≤i by omega,decide_true,Bool.and_self,cond_true,beq_ne]
  by_cases c:nth 0 xs i=nth 0 ys i
  ·simp[c]
  ·simp[c];rfl
theorem sameInts_ret (z:List Int×List Int) (hk:sameIntsOk z=true):Ret sameInts_re sameInts_R (sameInts_run (sameIntsFu z) z) (sameIntsM z):=by
 obtain ⟨xs,ys⟩:=z
 simp only[sameIntsOk,decide_eq_true_eq] at hk
 refine Ret.of (r':=resB (sameIntsM (xs,ys))) ((sameInts_arg ..).trans ((sameInts_eq ..).trans ?_)) (Ret.bool _)
 simp only[beq_ne,Int.natCast_inj]
 by_cases hl:xs.length=ys.length
 ·have:=sameInts_L0_spec (xs.length+1) xs ys hk hl xs.length (xs.length+1) 0 (by omega) (by omega)
  rw[List.drop_zero,List.drop_zero] at this
  simp only[hl,decide_true,Bool.not_true,cond_false]
  exact this
 ·have:¬xs=ys:=fun h=>hl (by rw[h])
  simp[hl,sameIntsM,this];rfl
abbrev StO:=Int×Int×Int×List Int×List Mo×Int×Int
def errO (e:Int):StO:=(0,0,0,[],[],0,e)
def rStepOk:LyZ→Bool:=fun (k,w,h,cells,ms,_)=>decide (cells.length<9223372036854775807∧ms.length<9223372036854775807)
def rStepM:LyZ→StO:=fun (k,w,h,cells,ms,word)=>
 bif !organB k w h cells ms then errO 50 else bif !fineB (cntI ms:Nat) word then errO 52 else
  bif !(steppedM (k,w,h,cells,ms,word)).2.2.2.2.2 then errO 53 else
   ((steppedM (k,w,h,cells,ms,word)).1,(steppedM (k,w,h,cells,ms,word)).2.1,(steppedM (k,w,h,cells,ms,word)).2.2.1,(steppedM (k,w,h,cells,ms,word)).2.2.2.1,(steppedM (k,w,h,cells,ms,word)).2.2.2.2.1,toldL w cells ms 0 0,0)
def rStepFu:LyZ→Nat:=fun _=>1
theorem ret_stO {a b c t e:Int} {cs:List Int} {ms:List Mo} {r:Res} (h0:r.ok=true) (h1:(valsOf r.val).all isV=true) (h2:∀ws,r.val= .tup ws→ws.length≠1)
  (hh:roVs r=[.agg [.int .i64 a, .int .i64 b, .int .i64 c, .ro (.int .i64) cs, .ro MoK ms], .int .i64 t, .int .i64 e]):Ret rStep_re rStep_R r ((a,b,c,cs,ms,t,e):StO):=by
 refine ⟨h0,h1,?_,?_,?_,?_,h2⟩
 ·rw[hh];rfl
 ·rw[hh];rfl
 ·rw[hh];simp[rStep_R,flatA,cellsA,decOk,nth,isRo,isInt,isB,dropL,width]
 ·rw[hh]
  exact (congrArg (fun (x:List Int)=>((a,b,c,x,asL MoK (.ro MoK ms),t,e):StO)) (asL_ro (.int .i64) cs)).trans (congrArg (fun (x:List Mo)=>((a,b,c,cs,x,t,e):StO)) (asL_ro MoK ms))
def errSR (e:Int):Res:={ok:=true,val:=AV.tup [AV.agg [AV.int .i64 0,AV.int .i64 0,AV.int .i64 0,AV.sl 0 0 0 none,AV.sl 1 0 0 none],AV.int .i64 0,AV.int .i64 e],heap:=[Blk.row 0 3 KI [],Blk.row 0 66 MoK []]}
theorem Ret.errSR {e:Int}:Ret rStep_re rStep_R (errSR e) (errO e):=ret_stO rfl rfl (fun ws h=>by cases h;simp) rfl
def roSR (a b c t e:Int) (cs:List Int) (ms:List Mo):Res:={ok:=true,val:=AV.tup [AV.agg [AV.int .i64 a,AV.int .i64 b,AV.int .i64 c,AV.sl 0 0 0 none,AV.sl 1 0 0 none],AV.int .i64 t,AV.int .i64 e],heap:=[Blk.row 0 3 KI cs,Blk.row 0 66 MoK ms]}
theorem Ret.roSR {a b c t e:Int} {cs:List Int} {ms:List Mo}:Ret rStep_re rStep_R (roSR a b c t e cs ms) ((a,b,c,cs,ms,t,e):StO):=ret_stO rfl rfl (fun ws h=>by cases h;simp) rfl
theorem rStep_ret (z:LyZ) (hk:rStepOk z=true):Ret rStep_re rStep_R (rStep_run (rStepFu z) z) (rStepM z):=by
 obtain ⟨k,w,h,cells,ms,word⟩:=z
 have hk':cells.length<9223372036854775807∧ms.length<9223372036854775807:=of_decide_eq_true hk
 have o1:rVOk (k,w,h,cells,ms)=true:=decide_eq_true hk'
 have o2:mouthsOk (k,w,h,cells,ms)=true:=decide_eq_true hk'.2
 have e:=(rStep_arg 1 k w h cells ms word).trans (rStep_eq 1 k w h cells ms word)
 rw[o1,o2] at e
 cases hv:organB k w h cells ms with
 |false=>
  rw[show rVM (k,w,h,cells,ms)=50 by simp only[rVM,organM,hv,cond_false]] at e
  refine Ret.of (r':=errSR 50) (e.trans rfl) ?_
  simp only[rStepM,hv,Bool.not_false,cond_true]
  exact Ret.errSR
 | true=>
  have v:=OrgV.of hv
  have g:=v.good
  have hf:=v.few
  rw[show rVM (k,w,h,cells,ms)=0 by simp only[rVM,organM,hv,cond_true],show (mouthsM (k,w,h,cells,ms)).1=((cntI ms:Nat):Int) from rfl,wrapu_id (by omega) (by omega),show steppedOk (k,w,h,cells,ms,word)=true from g,show saysOk (k,w,h,cells,ms)=true from g,show decide (0≤((cntI ms:Nat):Int))=true from decide_eq_true (by omega)] at e
  simp only[rStepM,hv,Bool.not_true,cond_false,fineB]
  simp only[show ((0:Int) !=0)=false from rfl,cond_true,cond_false,ge_iff_le] at e
  revert e
  generalize steppedM (k,w,h,cells,ms,word)=q
  obtain ⟨a,b,c,cs,mm,y⟩:=q
  cases decide (0≤word) with
  |false=>exact fun e=>Ret.of (r':=errSR 52) e Ret.errSR
  | true=>
   cases decide (word<shlI .i64 1 ((cntI ms:Nat):Int)) with
   |false=>exact fun e=>Ret.of (r':=errSR 52) e Ret.errSR
   |true=>
    cases y with
    |false=>exact fun e=>Ret.of (r':=errSR 53) e Ret.errSR
    |true=>exact fun e=>Ret.of (r':=roSR a b c (toldL w cells ms 0 0) 0 cs mm) e Ret.roSR
noncomputable def tbSTL_1:=addC 28 (tspec inRange_sh inRange_K inRange_re inRange_R inRangeOk inRangeM) tbST
theorem tabSTL_1:Tab Tryz.prog tbSTL_1 cxMd tbKST:=Tab.addTy (os:=[]) tabST tabST (KK:=inRange_K) (R:=inRange_R) (fn:=Tryz.f28) (by kernel_rfl) (by kernel_rfl) (by kernel_rfl) (by kernel_rfl) _ inRangeFu inRange_ret
noncomputable def tbSTL_2:=addC 12 (tspec sameInts_sh sameInts_K sameInts_re sameInts_R sameIntsOk sameIntsM) tbSTL_1
theorem tabSTL_2:Tab Tryz.prog tbSTL_2 cxMd tbKST:=Tab.addTy (os:=[]) tabSTL_1 tabST (KK:=sameInts_K) (R:=sameInts_R) (fn:=Tryz.f12) (by kernel_rfl) (by kernel_rfl) (by kernel_rfl) (by kernel_rfl) _ sameIntsFu sameInts_ret
noncomputable def tbSTL_3:=addC 7 (tspec rStep_sh rStep_K rStep_re rStep_R rStepOk rStepM) tbSTL_2
theorem tabSTL_3:Tab Tryz.prog tbSTL_3 cxMd tbKST:=Tab.addTy (os:=[]) tabSTL_2 tabST (KK:=rStep_K) (R:=rStep_R) (fn:=Tryz.f7) (by kernel_rfl) (by kernel_rfl) (by kernel_rfl) (by kernel_rfl) _ rStepFu rStep_ret
noncomputable def tbSTB:=tbSTL_3
noncomputable def tbKSTB:KT:=tbKST
theorem tabSTB:Tab Tryz.prog tbSTB cxMd tbKSTB:=tabSTL_3
end Go.Proofs.YtiglikocfjhkcaaGreatDoor
