/- Streams, lists, and the document's Step. -/
import Derived.Test.YtiglikocfjhkcaaDoorSP1
import Derived.Test.YtiglikocfjhkcaaDoorProg
import Derived.KernelRfl
import Derived.Test.YtiglikocfjhkcaaDoorSOL
set_option linter.all false
set_option linter.unusedVariables false
set_option linter.unusedSimpArgs false
open Go Go.Abs Go.Proofs
namespace Go.Proofs.YtiglikocfjhkcaaDoor
noncomputable def tbST_1:=addC 23 (inl Tryd.prog tbSNB cxMd tbKSNB Tryd.f23) tbSNB
noncomputable def tbKST_1:KT:=addK 23 (inlK Tryd.prog tbSNB cxMd tbKSNB Tryd.f23) tbKSNB
theorem tabST_1:Tab Tryd.prog tbST_1 cxMd tbKST_1:=Tab.addInl tabSNB tabSNB (fn:=Tryd.f23) (by kernel_rfl) (by kernel_rfl) (by kernel_rfl)
noncomputable def tbST:=tbST_1
noncomputable def tbKST:KT:=tbKST_1
theorem tabST:Tab Tryd.prog tbST cxMd tbKST:=tabST_1
noncomputable def cx_inRange (F:Nat):Cx:={P:=Tryd.prog,C:=tbST,K:=tbKST,mode:=cxMd,fuel:=F,live:=liveTab [(2,[8,0,7,1,9])],pin:=0,nx:=true}
noncomputable def cx_sameInts (F:Nat):Cx:={P:=Tryd.prog,C:=tbST,K:=tbKST,mode:=cxMd,fuel:=F,live:=liveTab [(4,[0,1,5])],pin:=0,nx:=true}
def inRange_K:CK:=CK.pair KL KI
def inRange_sh:List (Option Nat):=[none,none]
def inRange_R:CK:=CK.bool
def inRange_re:List (Option Nat):=[none]
noncomputable def inRange_L0r (F n:Nat) (s0:List Int) (s1:Int) (s7:List Int) (s8 s9:Int):Res:=Lp (cx_inRange F) (loopBy (loopsOf (cx_inRange F) (bodyOf Tryd.f27) (endK (cx_inRange F) Tryd.f27)) 2) n {T:=fr 25 [(0,AV.ro KI s0),(1,AV.int .i64 s1),(7,AV.ro KI s7),(8,AV.int .i64 s8),(9,AV.int .i64 s9)],H:=[],ok:=true}
noncomputable def inRange_L0:=Classical.choose (hideE inRange_L0r)
theorem inRange_L0_def:inRange_L0=inRange_L0r:=Classical.choose_spec (hideE inRange_L0r)
theorem inRange_L0_succ (F n:Nat) (s0:List Int) (s1:Int) (s7:List Int) (s8 s9:Int):inRange_L0 F (n+1) s0 s1 s7 s8 s9=bif decide (s9<s8) then bif decide (0≤s9)&&decide (s9<(s7.length:Int)) then bif decide (nth 0 s7 (Int.toNat s9)<0) then {ok:=true,val:=AV.bool false} else bif decide (0≤s1) then bif decide (nth 0 s7 (Int.toNat s9)≥shlI .i64 1 s1) then {ok:=true,val:=AV.bool false} else inRange_L0 F n s0 s1 s7 s8 (IntKind.wrap .i64 (s9+1)) else BR else BR else {ok:=true,val:=AV.bool (decide ((s0.length:Int)≤4096))}:=by rewrite [inRange_L0_def];kernel_rfl
theorem inRange_eq (F:Nat) (a0:List Int) (a1:Int):runF (cx_inRange F) Tryd.f27 [AV.ro KI a0,AV.int .i64 a1] []=inRange_L0 F F a0 a1 a0 (a0.length:Int) 0:=by rewrite [inRange_L0_def];kernel_rfl
noncomputable def inRange_run (F:Nat) (x:CT inRange_K):Res:=runF (cx_inRange F) Tryd.f27 (groupA inRange_sh (enc inRange_K x)) []
theorem inRange_arg (F:Nat) (a0:List Int) (a1:Int):inRange_run F (a0,a1)=runF (cx_inRange F) Tryd.f27 [AV.ro KI a0,AV.int .i64 a1] []:=by kernel_rfl
def sameInts_K:CK:=CK.pair KL KL
def sameInts_sh:List (Option Nat):=[none,none]
def sameInts_R:CK:=CK.bool
def sameInts_re:List (Option Nat):=[none]
noncomputable def sameInts_L0r (F n:Nat) (s0 s1:List Int) (s5:Int):Res:=Lp (cx_sameInts F) (loopBy (loopsOf (cx_sameInts F) (bodyOf Tryd.f31) (endK (cx_sameInts F) Tryd.f31)) 4) n {T:=fr 26 [(0,AV.ro KI s0),(1,AV.ro KI s1),(5,AV.int .i64 s5)],H:=[],ok:=true}
noncomputable def sameInts_L0:=Classical.choose (hideE sameInts_L0r)
theorem sameInts_L0_def:sameInts_L0=sameInts_L0r:=Classical.choose_spec (hideE sameInts_L0r)
theorem sameInts_L0_succ (F n:Nat) (s0 s1:List Int) (s5:Int):sameInts_L0 F (n+1) s0 s1 s5=bif decide (s5<(s0.length:Int)) then bif decide (0≤s5)&&decide (s5<(s0.length:Int)) then bif decide (0≤s5)&&decide (s5<(s1.length:Int)) then bif nth 0 s0 (Int.toNat s5) !=nth 0 s1 (Int.toNat s5) then {ok:=true,val:=AV.bool false} else sameInts_L0 F n s0 s1 (IntKind.wrap .i64 (s5+1)) else BR else BR else {ok:=true,val:=AV.bool true}:=by rewrite [sameInts_L0_def];kernel_rfl
theorem sameInts_eq (F:Nat) (a0 a1:List Int):runF (cx_sameInts F) Tryd.f31 [AV.ro KI a0,AV.ro KI a1] []=bif (a0.length:Int) !=(a1.length:Int) then {ok:=true,val:=AV.bool false} else sameInts_L0 F F a0 a1 0:=by rewrite [sameInts_L0_def];kernel_rfl
noncomputable def sameInts_run (F:Nat) (x:CT sameInts_K):Res:=runF (cx_sameInts F) Tryd.f31 (groupA sameInts_sh (enc sameInts_K x)) []
theorem sameInts_arg (F:Nat) (a0 a1:List Int):sameInts_run F (a0,a1)=runF (cx_sameInts F) Tryd.f31 [AV.ro KI a0,AV.ro KI a1] []:=by kernel_rfl
theorem fitsAll_spec {kind w h:Int} {cells:List Int} {ms:List Mo}:∀(l pre:List Mo),fitsAll kind w h cells ms pre l=true→(∀m∈l,mouthP kind w h cells ms m=true)∧dist l∧(∀m∈l,∀n∈pre,sameM n m=false)∧(∀m∈l,mouthL w cells m=true)
 |[],_,_=>⟨by simp,trivial,by simp,by simp⟩
 | m::l,pre,hf=>by
  simp only[fitsAll,fitB,Bool.and_eq_true,Bool.not_eq_true'] at hf
  obtain ⟨⟨h1,h2,h3⟩,h4⟩:=hf
  obtain ⟨g1,g2,g3,g4⟩:=fitsAll_spec l (pre++[m]) h4
  refine ⟨fun q hq=> ?_,⟨fun n hn=>g3 n hn m (by simp),g2⟩,fun q hq n hn=> ?_,fun q hq=> ?_⟩
  ·rcases List.mem_cons.1 hq with rfl|hq
   ·exact h1
   ·exact g1 q hq
  ·rcases List.mem_cons.1 hq with rfl|hq
   ·exact List.any_eq_false.1 h2 n hn |> fun x=>by simpa using x
   ·exact g3 q hq n (by simp[hn])
  ·rcases List.mem_cons.1 hq with rfl|hq
   ·exact h3
   ·exact g4 q hq
structure OrgV (k w h:Int) (cells:List Int) (ms:List Mo):Prop where
 good:orgG k w h cells ms=true
 fit:∀m∈ms,mouthP k w h cells ms m=true
 dist:dist ms
 lead:∀m∈ms,mouthL w cells m=true
 cell:cells.all (cellOk (rStatesM k))=true
 few:cntI ms≤4∧cntO ms≤4
theorem mouthP_G {k w h:Int} {cells:List Int} {ms:List Mo} {m:Mo} (hm:mouthP k w h cells ms m=true):mG w h m=true:=by
 simp only[mouthP,Bool.and_eq_true,decide_eq_true_eq,inR_within] at hm
 simp only[mG,Bool.and_eq_true]
 exact ⟨decide_eq_true hm.1,hm.2.1⟩
theorem OrgV.of {k w h:Int} {cells:List Int} {ms:List Mo} (hv:organB k w h cells ms=true):OrgV k w h cells ms:=by
 simp only[organB,shapeB,Bool.and_eq_true,decide_eq_true_eq] at hv
 obtain ⟨⟨hk,a,b,c,d,e⟩,h2,h3,h4⟩:=hv
 obtain ⟨g1,g2,g3,g4⟩:=fitsAll_spec ms [] h3
 have:=cnt_le ms
 refine ⟨?_,g1,g2,g4,h2,h4⟩
 simp only[orgG,Bool.and_eq_true,decide_eq_true_eq]
 exact ⟨⟨⟨a,b⟩,⟨c,d⟩,e,hk,by omega⟩,List.all_eq_true.2 fun m hm=>mouthP_G (g1 m hm)⟩
theorem OrgV.len {k w h:Int} {cells:List Int} {ms:List Mo} (v:OrgV k w h cells ms):ms.length≤8:=by
 have:=cnt_le ms
 have:=v.few
 omega
def inRangeOk:List Int×Int→Bool:=fun (xs,bits)=>decide (0≤bits∧bits≤62∧xs.length<big)
def inRangeM:List Int×Int→Bool:=fun (xs,bits)=>xs.all (fineB bits)&&decide ((xs.length:Int)≤4096)
def inRangeFu:List Int×Int→Nat:=fun (xs,_)=>xs.length+1
theorem inRange_L0_spec (F:Nat) (xs:List Int) (bits:Int) (hb:0≤bits∧bits≤62) (hx:xs.length<big):∀(k n i:Nat),i+k=xs.length→k<n→
  inRange_L0 F n xs bits xs xs.length i=resB ((xs.drop i).all (fineB bits)&&decide ((xs.length:Int)≤4096))
 |k,0,i,_,h=>by omega
 |0,n+1,i,hi,_=>by
  rw[inRange_L0_succ,drop_len xs (by omega)]
  simp only[show ¬((i:Int)<xs.length) by omega,decide_false,cond_false,List.all_nil,Bool.true_and]
  rfl
 | k+1,n+1,i,hi,hn=>by
  have ih:=inRange_L0_spec F xs bits hb hx k n (i+1) (by omega) (by omega)
  rw[inRange_L0_succ,wrapS (show i<big by omega),ih,drop_nth 0 xs (show i<xs.length by omega),Int.toNat_natCast]
  simp only[show (i:Int)<xs.length by omega,show (0:Int)≤i by omega,hb.1,decide_true,Bool.and_self,cond_true,List.all_cons,fineB]
  by_cases c1:nth 0 xs i<0
  ·simp[c1,show ¬0≤nth 0 xs i by omega];rfl
  ·by_cases c2:nth 0 xs i≥shlI .i64 1 bits
   ·simp[c1,c2,show ¬nth 0 xs i<shlI .i64 1 bits by omega];rfl
   ·simp[c1,c2,show 0≤nth 0 xs i by omega,show nth 0 xs i<shlI .i64 1 bits by omega]
theorem inRange_ret (z:List Int×Int) (hk:inRangeOk z=true):Ret inRange_re inRange_R (inRange_run (inRangeFu z) z) (inRangeM z):=by
 obtain ⟨xs,bits⟩:=z
 simp only[inRangeOk,decide_eq_true_eq] at hk
 refine Ret.of ((inRange_arg ..).trans ((inRange_eq ..).trans ?_)) (Ret.bool _)
 exact inRange_L0_spec (xs.length+1) xs bits ⟨hk.1,hk.2.1⟩ hk.2.2 xs.length (xs.length+1) 0 (by omega) (by omega)
def sameIntsOk:List Int×List Int→Bool:=fun (xs,_)=>decide (xs.length<big)
def sameIntsM:List Int×List Int→Bool:=fun (xs,ys)=>decide (xs=ys)
def sameIntsFu:List Int×List Int→Nat:=fun (xs,_)=>xs.length+1
theorem sameInts_L0_spec (F:Nat) (xs ys:List Int) (hx:xs.length<big) (hl:xs.length=ys.length):∀(k n i:Nat),i+k=xs.length→k<n→
  sameInts_L0 F n xs ys i=resB (decide (xs.drop i=ys.drop i))
 |k,0,i,_,h=>by omega
 |0,n+1,i,hi,_=>by
  rw[sameInts_L0_succ,drop_len xs (by omega),drop_len ys (by omega)]
  simp only[show ¬((i:Int)<xs.length) by omega,decide_false,cond_false,decide_true]
  rfl
 |k+1,n+1,i,hi,hn=>by
  have ih:=sameInts_L0_spec F xs ys hx hl k n (i+1) (by omega) (by omega)
  rw[sameInts_L0_succ,wrapS (show i<big by omega),ih,drop_nth 0 xs (show i<xs.length by omega),drop_nth 0 ys (show i<ys.length by omega),Int.toNat_natCast]
  simp only[show (i:Int)<xs.length by omega,show (i:Int)<ys.length by omega,show (0:Int)≤i by omega,decide_true,Bool.and_self,cond_true,beq_ne]
  by_cases c:nth 0 xs i=nth 0 ys i
  ·simp[c]
  ·simp[c];rfl
theorem sameInts_ret (z:List Int×List Int) (hk:sameIntsOk z=true):Ret sameInts_re sameInts_R (sameInts_run (sameIntsFu z) z) (sameIntsM z):=by
 obtain ⟨xs,ys⟩:=z
 simp only[sameIntsOk,decide_eq_true_eq] at hk
 refine Ret.of (r':=resB (sameIntsM (xs,ys))) ((sameInts_arg ..).trans ((sameInts_eq ..).trans ?_)) (Ret.bool _)
 simp only[beq_ne,Int.natCast_inj]
 by_cases hl:xs.length=ys.length
 ·have:=sameInts_L0_spec (xs.length+1) xs ys hk hl xs.length (xs.length+1) 0 (by omega) (by omega)
  rw[List.drop_zero,List.drop_zero] at this
  simp only[hl,decide_true,Bool.not_true,cond_false]
  exact this
 ·have:¬xs=ys:=fun h=>hl (by rw[h])
  simp[hl,sameIntsM,this];rfl
abbrev StO:=Int×Int×Int×List Int×List Mo×Int×Int
def errO (e:Int):StO:=(0,0,0,[],[],0,e)
def rStepOk:LyZ→Bool:=fun (k,w,h,cells,ms,_)=>decide (cells.length<9223372036854775807∧ms.length<9223372036854775807)
def rStepM:LyZ→StO:=fun (k,w,h,cells,ms,word)=>
 bif !organB k w h cells ms then errO 50 else bif !fineB (cntI ms:Nat) word then errO 52 else
  bif !(steppedM (k,w,h,cells,ms,word)).2.2.2.2.2 then errO 53 else
   ((steppedM (k,w,h,cells,ms,word)).1,(steppedM (k,w,h,cells,ms,word)).2.1,(steppedM (k,w,h,cells,ms,word)).2.2.1,(steppedM (k,w,h,cells,ms,word)).2.2.2.1,(steppedM (k,w,h,cells,ms,word)).2.2.2.2.1,toldL w cells ms 0 0,0)
noncomputable def tbSTL_1:=addC 27 (tspec inRange_sh inRange_K inRange_re inRange_R inRangeOk inRangeM) tbST
theorem tabSTL_1:Tab Tryd.prog tbSTL_1 cxMd tbKST:=Tab.addTy (os:=[]) tabST tabST (KK:=inRange_K) (R:=inRange_R) (fn:=Tryd.f27) (by kernel_rfl) (by kernel_rfl) (by kernel_rfl) (by kernel_rfl) _ inRangeFu inRange_ret
noncomputable def tbSTL_2:=addC 31 (tspec sameInts_sh sameInts_K sameInts_re sameInts_R sameIntsOk sameIntsM) tbSTL_1
theorem tabSTL_2:Tab Tryd.prog tbSTL_2 cxMd tbKST:=Tab.addTy (os:=[]) tabSTL_1 tabST (KK:=sameInts_K) (R:=sameInts_R) (fn:=Tryd.f31) (by kernel_rfl) (by kernel_rfl) (by kernel_rfl) (by kernel_rfl) _ sameIntsFu sameInts_ret
noncomputable def tbSTB:=tbSTL_2
noncomputable def tbKSTB:KT:=tbKST
theorem tabSTB:Tab Tryd.prog tbSTB cxMd tbKSTB:=tabSTL_2
end Go.Proofs.YtiglikocfjhkcaaDoor
