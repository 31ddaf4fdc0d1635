/- What Check and Prove share: what a right situation leads to; keys in a map. -/
import Derived.Test.YtiglikocfjhkcaaGreatDoorTC
import Derived.Test.YtiglikocfjhkcaaGreatDoorProg
import Derived.KernelRfl
import Derived.Test.YtiglikocfjhkcaaGreatDoorTP1
set_option linter.all false
set_option linter.unusedVariables false
set_option linter.unusedSimpArgs false
open Go Go.Abs Go.Proofs
namespace Go.Proofs.YtiglikocfjhkcaaGreatDoor
noncomputable def tbUA:FuncId→List AV→List Blk→Res:=tbTCB
noncomputable def tbKUA:KT:=tbKTCB
theorem tabUA:Tab Tryz.prog tbUA cxMd tbKUA:=tabTCB
noncomputable def cx_back (F:Nat):Cx:={P:=Tryz.prog,C:=tbUA,K:=tbKUA,mode:=cxMd,fuel:=F,live:=liveTab [(2,[7,2,1,0]),(7,[8,9,7])],pin:=0,nx:=true}
noncomputable def cx_sameP (F:Nat):Cx:={P:=Tryz.prog,C:=tbUA,K:=tbKUA,mode:=cxMd,fuel:=F,live:=liveTab [(4,[0,1,5])],pin:=0,nx:=true}
def back_K:CK:=CK.pair (CK.slice 3 (CK.int IntKind.i64)) (CK.pair (CK.slice 3 (CK.int IntKind.i64)) (CK.int IntKind.i64))
def back_sh:List (Option Nat):=[none,none,none]
noncomputable def back_L0r (F:Nat) (n:Nat) (s0:List Int) (s1:List Int) (s2:Int) (h0:List Int):Res:=Lp (cx_back F) (loopBy (loopsOf (cx_back F) (bodyOf Tryz.f34) (endK (cx_back F) Tryz.f34)) 2) n {T:=fr 40 [(0,AV.ro (CK.int IntKind.i64) s0),(1,AV.ro (CK.int IntKind.i64) s1),(2,AV.int IntKind.i64 s2),(7,AV.sl 0 0 0 none)],H:=[Blk.row 0 3 (CK.int IntKind.i64) h0],ok:=true}
noncomputable def back_L0:Nat→Nat→List Int→List Int→Int→List Int→Res:=Classical.choose (hideE back_L0r)
theorem back_L0_def:back_L0=back_L0r:=Classical.choose_spec (hideE back_L0r)
noncomputable def back_L1r (F:Nat) (n:Nat) (s9:Int) (h0:List Int) (h1:List Int):Res:=Lp (cx_back F) (loopBy (loopsOf (cx_back F) (bodyOf Tryz.f34) (endK (cx_back F) Tryz.f34)) 7) n {T:=fr 40 [(7,AV.sl 0 0 0 none),(8,AV.sl 1 0 0 none),(9,AV.int IntKind.i64 s9)],H:=[Blk.row 0 3 (CK.int IntKind.i64) h0,Blk.row 0 3 (CK.int IntKind.i64) h1],ok:=true}
noncomputable def back_L1:Nat→Nat→Int→List Int→List Int→Res:=Classical.choose (hideE back_L1r)
theorem back_L1_def:back_L1=back_L1r:=Classical.choose_spec (hideE back_L1r)
theorem back_L0_succ (F:Nat) (n:Nat) (s0:List Int) (s1:List Int) (s2:Int) (h0:List Int):back_L0 F (n+1) s0 s1 s2 h0=bif decide (s2>0) then bif decide (0≤s2)&&decide (s2<(↑(List.length s1):Int)) then bif Nat.ble 0 (List.length h0)&&decide (Nat.mul (Nat.add (List.length h0) 1) 8≤140737488355328) then bif decide (0≤s2)&&decide (s2<(↑(List.length s0):Int)) then back_L0 F n s0 s1 (nth 0 s0 (Int.toNat s2)) (h0++[nth 0 s1 (Int.toNat s2)]) else {ok:=false,val:=AV.junk} else {ok:=false,val:=AV.junk} else {ok:=false,val:=AV.junk} else back_L1 F F (IntKind.wrap IntKind.i64 ((↑(List.length h0):Int)-1)) h0 []:=by rewrite [back_L0_def,back_L1_def];kernel_rfl
theorem back_L1_succ (F:Nat) (n:Nat) (s9:Int) (h0:List Int) (h1:List Int):back_L1 F (n+1) s9 h0 h1=bif decide (s9≥0) then bif decide (0≤s9)&&decide (s9<(↑(List.length h0):Int)) then bif decide (Int.toNat s9<List.length h0) then bif Nat.ble 0 (List.length h1)&&decide (Nat.mul (Nat.add (List.length h1) 1) 8≤140737488355328) then back_L1 F n (IntKind.wrap IntKind.i64 (s9-1)) h0 (h1++[nth 0 h0 (Int.toNat s9)]) else {ok:=false,val:=AV.junk} else {ok:=false,val:=AV.junk} else {ok:=false,val:=AV.junk} else {ok:=true,val:=AV.sl 0 0 0 none,heap:=[Blk.row 0 3 (CK.int IntKind.i64) h1]}:=by rewrite [back_L1_def];kernel_rfl
theorem back_eq (F:Nat) (a0:List Int) (a1:List Int) (a2:Int):runF (cx_back F) Tryz.f34 [AV.ro (CK.int IntKind.i64) a0,AV.ro (CK.int IntKind.i64) a1,AV.int IntKind.i64 a2] []=back_L0 F F a0 a1 a2 []:=by rewrite [back_L0_def];kernel_rfl
noncomputable def back_run (F:Nat) (x:CT back_K):Res:=runF (cx_back F) Tryz.f34 (groupA back_sh (enc back_K x)) []
theorem back_arg (F:Nat) (a0:List Int) (a1:List Int) (a2:Int):back_run F (a0,a1,a2)=runF (cx_back F) Tryz.f34 [AV.ro (CK.int IntKind.i64) a0,AV.ro (CK.int IntKind.i64) a1,AV.int IntKind.i64 a2] []:=by kernel_rfl
def sameP_K:CK:=CK.pair (CK.slice 74 (CK.pair (CK.slice 3 (CK.int IntKind.i64)) (CK.pair (CK.int IntKind.i64) (CK.slice 3 (CK.int IntKind.i64))))) (CK.slice 74 (CK.pair (CK.slice 3 (CK.int IntKind.i64)) (CK.pair (CK.int IntKind.i64) (CK.slice 3 (CK.int IntKind.i64)))))
def sameP_sh:List (Option Nat):=[none,none]
def sameP_R:CK:=CK.bool
def sameP_re:List (Option Nat):=[none]
noncomputable def sameP_L0r (F:Nat) (n:Nat) (s0:List (List Int×Int×List Int)) (s1:List (List Int×Int×List Int)) (s5:Int):Res:=Lp (cx_sameP F) (loopBy (loopsOf (cx_sameP F) (bodyOf Tryz.f15) (endK (cx_sameP F) Tryz.f15)) 4) n {T:=fr 27 [(0,AV.ro (CK.pair (CK.slice 3 (CK.int IntKind.i64)) (CK.pair (CK.int IntKind.i64) (CK.slice 3 (CK.int IntKind.i64)))) s0),(1,AV.ro (CK.pair (CK.slice 3 (CK.int IntKind.i64)) (CK.pair (CK.int IntKind.i64) (CK.slice 3 (CK.int IntKind.i64)))) s1),(5,AV.int IntKind.i64 s5)],H:=[],ok:=true}
noncomputable def sameP_L0:Nat→Nat→List (List Int×Int×List Int)→List (List Int×Int×List Int)→Int→Res:=Classical.choose (hideE sameP_L0r)
theorem sameP_L0_def:sameP_L0=sameP_L0r:=Classical.choose_spec (hideE sameP_L0r)
theorem sameP_L0_succ (F:Nat) (n:Nat) (s0:List (List Int×Int×List Int)) (s1:List (List Int×Int×List Int)) (s5:Int):sameP_L0 F (n+1) s0 s1 s5=bif decide (s5<(↑(List.length s0):Int)) then bif decide (0≤s5)&&decide (s5<(↑(List.length s0):Int)) then bif decide (0≤s5)&&decide (s5<(↑(List.length s1):Int)) then bif rSameSOk (Prod.fst (nth ([],0,[]) s0 (Int.toNat s5)),Prod.fst (Prod.snd (nth ([],0,[]) s0 (Int.toNat s5))),Prod.snd (Prod.snd (nth ([],0,[]) s0 (Int.toNat s5))),Prod.fst (nth ([],0,[]) s1 (Int.toNat s5)),Prod.fst (Prod.snd (nth ([],0,[]) s1 (Int.toNat s5))),Prod.snd (Prod.snd (nth ([],0,[]) s1 (Int.toNat s5)))) then bif !rSameSM (Prod.fst (nth ([],0,[]) s0 (Int.toNat s5)),Prod.fst (Prod.snd (nth ([],0,[]) s0 (Int.toNat s5))),Prod.snd (Prod.snd (nth ([],0,[]) s0 (Int.toNat s5))),Prod.fst (nth ([],0,[]) s1 (Int.toNat s5)),Prod.fst (Prod.snd (nth ([],0,[]) s1 (Int.toNat s5))),Prod.snd (Prod.snd (nth ([],0,[]) s1 (Int.toNat s5)))) then {ok:=true,val:=AV.bool false} else sameP_L0 F n s0 s1 (IntKind.wrap IntKind.i64 (s5+1)) else {ok:=false,val:=AV.junk} else {ok:=false,val:=AV.junk} else {ok:=false,val:=AV.junk} else {ok:=true,val:=AV.bool true}:=by rewrite [sameP_L0_def];kernel_rfl
theorem sameP_eq (F:Nat) (a0:List (List Int×Int×List Int)) (a1:List (List Int×Int×List Int)):runF (cx_sameP F) Tryz.f15 [AV.ro (CK.pair (CK.slice 3 (CK.int IntKind.i64)) (CK.pair (CK.int IntKind.i64) (CK.slice 3 (CK.int IntKind.i64)))) a0,AV.ro (CK.pair (CK.slice 3 (CK.int IntKind.i64)) (CK.pair (CK.int IntKind.i64) (CK.slice 3 (CK.int IntKind.i64)))) a1] []=bif (↑(List.length a0):Int) !=(↑(List.length a1):Int) then {ok:=true,val:=AV.bool false} else sameP_L0 F F a0 a1 0:=by rewrite [sameP_L0_def];kernel_rfl
noncomputable def sameP_run (F:Nat) (x:CT sameP_K):Res:=runF (cx_sameP F) Tryz.f15 (groupA sameP_sh (enc sameP_K x)) []
theorem sameP_arg (F:Nat) (a0:List (List Int×Int×List Int)) (a1:List (List Int×Int×List Int)):sameP_run F (a0,a1)=runF (cx_sameP F) Tryz.f15 [AV.ro (CK.pair (CK.slice 3 (CK.int IntKind.i64)) (CK.pair (CK.int IntKind.i64) (CK.slice 3 (CK.int IntKind.i64)))) a0,AV.ro (CK.pair (CK.slice 3 (CK.int IntKind.i64)) (CK.pair (CK.int IntKind.i64) (CK.slice 3 (CK.int IntKind.i64)))) a1] []:=by kernel_rfl
theorem asked0 {k w h:Int} {c:List Int} {ms:List Mo} {i o dl:Int} {n p:List (List Int)} {l:List (List Bool)} (ha:askedM (k,w,h,c,ms,i,o,dl,n,p,l)=0):OrgV k w h c ms∧CtV i o dl n p l∧(cntI ms:Int)=i:=by
 simp only[askedM] at ha
 cases h1:organB k w h c ms with
 |false=>rw[h1] at ha;simp at ha
 | true=>
  cases h2:contractOk i o dl n p l with
  |false=>rw[h1,h2] at ha;simp at ha
  |true=>
   refine ⟨OrgV.of h1,CtV.of h2,?_⟩
   rw[h1,h2] at ha
   by_cases h3:(cntI ms:Int)=i∧(cntO ms:Int)=o
   ·exact h3.1
   ·simp[h3] at ha
theorem form_lt {k w h:Int} {ms:List Mo} {i o dl:Int} {n p:List (List Int)} {l:List (List Bool)} (c:CtV i o dl n p l) {s:Sit} (hf:formB k w h ms o dl n.length s.1 s.2.1 s.2.2=true) {a:Nat} (ha:a<2^i.toNat):
  orgG k w h s.1 ms=true∧(1≤s.2.2.length∧s.2.2.length≤1000)∧idxB n p s.2.1 a=true∧(0≤s.2.1∧s.2.1<(l.length:Int)∧a<(nth [] l s.2.1.toNat).length)∧
   sitFit ((ltB k w h ms n p s.1 s.2.1 s.2.2 a).1,(ltB k w h ms n p s.1 s.2.1 s.2.2 a).2.1,(ltB k w h ms n p s.1 s.2.1 s.2.2 a).2.2.1)=true:=by
 simp only[formB,Bool.and_eq_true,decide_eq_true_eq] at hf
 obtain ⟨h1,⟨h2,h3⟩,h4,h5⟩:=hf
 have v:=OrgV.of h1
 have hl:=c.late
 have hn:=c.len
 obtain ⟨⟨r1,r2,r3⟩,_⟩:=c.row s.2.1.toNat (by omega)
 obtain ⟨hw,hh,hc,_,_,_,_⟩:=orgG_spec v.good
 have hlen:w*h≤24*24:=Int.mul_le_mul hw.2 hh.2 (by omega) (by omega)
 refine ⟨v.good,by omega,?_,⟨h2,by omega,by rw[r3];exact ha⟩,?_⟩
 ·simp only[idxB,decide_eq_true_eq,r1,r2]
  exact ⟨⟨h2,h3,by omega⟩,by omega,by exact_mod_cast ha,by exact_mod_cast ha⟩
 ·simp only[ltB]
  cases decide (toldL w s.1 ms 0 0=nth 0 s.2.2 0)&&stOk k w h ms s.1 a with
  |false=>exact decide_eq_true ⟨by simp,by simp⟩
  |true=>exact decide_eq_true ⟨by simp only[cond_true,nextC_len];simp only[big];omega,by simp only[cond_true,List.length_append,List.length_drop,List.length_cons,List.length_nil];simp only[big];omega⟩
abbrev KeyK:CK:=CK.pair CK.str (CK.pair CK.str KI)
abbrev MK:=List (Key×Bool)
def getK (m:MK) (k:Key):Bool:=getM KeyK (V:=Bool) false m (k:List UInt8×List UInt8×Int)
def insK (m:MK) (k:Key):MK:=insM KeyK (V:=Bool) m (k:List UInt8×List UInt8×Int) true
theorem getK_insK (m:MK) (k k':Key):getK (insK m k) k'=(decide (k'=k)||getK m k'):=by
 have e:=getM_insM (V:=Bool) KeyK rfl false m (k:List UInt8×List UInt8×Int) true (k':List UInt8×List UInt8×Int)
 have e2:eqK KeyK (k':List UInt8×List UInt8×Int) (k:List UInt8×List UInt8×Int)=decide (k'=k):=by
  rw[Bool.eq_iff_iff,decide_eq_true_iff]
  exact eqK_spec KeyK _ _ rfl
 rw[e2] at e
 refine e.trans ?_
 cases decide (k'=k)<;>rfl
section
variable {k w h:Int} {c:List Int} {ms:List Mo} {i o dl:Int} {n p:List (List Int)} {l:List (List Bool)}
def fB (k w h:Int) (ms:List Mo) (o dl:Int) (n:List (List Int)) (s:Sit):Bool:=formB k w h ms o dl n.length s.1 s.2.1 s.2.2
theorem form_key (ct:CtV i o dl n p l) {s:Sit} (hf:fB k w h ms o dl n s=true):keyOfOk s=true:=by
 have hf':=hf
 simp only[fB,formB,Bool.and_eq_true,decide_eq_true_eq] at hf'
 obtain ⟨h1,_,h4,_⟩:=hf'
 have v:=OrgV.of h1
 have hl:=ct.late
 obtain ⟨hw,hh,hc,_,_,_,_⟩:=orgG_spec v.good
 have hlen:w*h≤24*24:=Int.mul_le_mul hw.2 hh.2 (by omega) (by omega)
 have e1:s.1.length≤1000:=by omega
 have e2:s.2.2.length≤1000:=by omega
 obtain ⟨a,b,d⟩:=s
 simp only[keyOfOk,packOk,Bool.and_eq_true,decide_eq_true_eq]
 exact ⟨e1,e2⟩
theorem leadM_lt {s:Sit} (v:OrgV k w h s.1 ms) (c0:List Int) (ins:Int) (i o dl:Int) (n p:List (List Int)) (l:List (List Bool)) (a:Int):leadM ((k,w,h,c0,ms,k,ins,bodyMap ms 0 0 []),(i,o,dl,n,p,l),s,a)=ltB k w h ms n p s.1 s.2.1 s.2.2 a:=by
 have e:=stepM_eq v c0 ins a
 simp only[leadM,zL,e,ltB,Bool.not_not]
 rw[Bool.and_comm]
theorem leadOk_of (ct:CtV i o dl n p l) {s:Sit} (hf:fB k w h ms o dl n s=true) (c0:List Int) (ins:Int) {a:Nat} (ha:a<2^i.toNat):leadOk ((k,w,h,c0,ms,k,ins,bodyMap ms 0 0 []),(i,o,dl,n,p,l),s,(a:Int))=true:=by
 obtain ⟨g1,g2,g3,_,_⟩:=form_lt ct hf ha
 simp only[leadOk,zL,stepOk_of g1,g2,g3,and_self,decide_true,Bool.and_self]
end
def turn (from' by':List Int):Nat→Int→List Int→Option (List Int)
 |0,_,_=>none
 |n+1,i,acc=>bif decide (i>0) then (bif decide (i<(from'.length:Int))&&decide (i<(by'.length:Int)) then turn from' by' n (nth 0 from' i.toNat) (acc++[nth 0 by' i.toNat]) else none) else some acc
abbrev BaZ:=List Int×List Int×Int
def turned (z:BaZ):Option (List Int):=turn z.1 z.2.1 (z.1.length+1) z.2.2 []
def backOk:BaZ→Bool:=fun z=>decide (z.1.length<1000000)&&(turned z).isSome
def backM:BaZ→List Int:=fun z=>((turned z).getD []).reverse
def backR:BaZ→Res:=fun z=>{ok:=true,val:=AV.sl 0 0 0 none,heap:=[Blk.row 0 3 (CK.int IntKind.i64) (backM z)]}
def backFu:BaZ→Nat:=fun z=>z.1.length+3
theorem back_L1_spec (F:Nat) {l:List Int} (hl:l.length<2000000):∀(n f:Nat) (out:List Int),n≤l.length→n<f→out.length+n=l.length→
  back_L1 F f ((n:Int)-1) l out={ok:=true,val:=AV.sl 0 0 0 none,heap:=[Blk.row 0 3 (CK.int IntKind.i64) (out++(l.take n).reverse)]}
 |n,0,_,_,h,_=>by omega
 |0,f+1,out,_,_,_=>by
  rw[back_L1_succ]
  simp
 |n+1,f+1,out,hn,hf,ho=>by
  have ih:=back_L1_spec F hl n f (out++[nth 0 l n]) (by omega) (by omega) (by simp;omega)
  rw[back_L1_succ,show ((n+1:Nat):Int)-1=(n:Int) by omega,wrap_id (n:=(n:Int)-1) (by omega) (by omega),Int.toNat_natCast,decide_eq_true (show Nat.mul (Nat.add out.length 1) 8≤140737488355328 from by show (out.length+1)*8≤_;omega),ih,take_nth 0 l (show n<l.length by omega)]
  simp only[show (n:Int)≥0 by omega,show (0:Int)≤(n:Int) by omega,show (n:Int)<l.length by omega,show n<l.length by omega,decide_true,Bool.and_self,cond_true,nble,Nat.zero_le]
  simp
theorem back_L0_spec (F:Nat) {f b:List Int} (hl:f.length<1000000) (hF:1000+f.length<F+1000):∀(n m:Nat) (i:Int) (acc:List Int),n<m→acc.length+n≤f.length+1→(turn f b n i acc).isSome=true→
  back_L0 F m f b i acc={ok:=true,val:=AV.sl 0 0 0 none,heap:=[Blk.row 0 3 (CK.int IntKind.i64) ((turn f b n i acc).getD []).reverse]}
 |0,m,i,acc,_,_,h=>by cases h
 |n+1,0,i,acc,h,_,_=>by omega
 | n+1,m+1,i,acc,hm,ha,hs=>by
  rw[back_L0_succ]
  simp only[turn] at hs⊢
  cases h1:decide (i>0) with
  |false=>
   rw[wrap_id (n:=(acc.length:Int)-1) (by omega) (by omega)]
   have:=back_L1_spec F (l:=acc) (by omega) acc.length F [] (Nat.le_refl _) (by omega) (by simp)
   rw[List.take_length] at this
   simp only[cond_false,Option.getD_some]
   exact this
  | true=>
   have hi:i>0:=of_decide_eq_true h1
   rw[h1] at hs
   cases h2:decide (i<(f.length:Int))&&decide (i<(b.length:Int)) with
   |false=>rw[h2] at hs;cases hs
   |true=>
    rw[h2] at hs
    obtain ⟨k1,k2⟩:=Bool.and_eq_true_iff.1 h2
    have ih:=back_L0_spec F hl hF n m (nth 0 f i.toNat) (acc++[nth 0 b i.toNat]) (by omega) (by simp;omega) hs
    rw[ih,decide_eq_true (show Nat.mul (Nat.add acc.length 1) 8≤140737488355328 from by show (acc.length+1)*8≤_;omega)]
    simp only[show (0:Int)≤i by omega,k1,k2,decide_true,Bool.and_self,cond_true,nble,Nat.zero_le]
theorem back_retR (z:BaZ) (hk:backOk z=true):back_run (backFu z) z=backR z∧(backR z).ok=true:=by
 obtain ⟨f,b,i⟩:=z
 simp only[backOk,Bool.and_eq_true,decide_eq_true_eq] at hk
 refine ⟨(back_arg ..).trans ((back_eq ..).trans ?_),rfl⟩
 exact back_L0_spec (f.length+3) hk.1 (by omega) (f.length+1) (f.length+3) i [] (by omega) (by simp) hk.2
def samePOk:List Sit×List Sit→Bool:=fun (a,b)=>decide (a.length<big)&&a.all sitFit
def samePM:List Sit×List Sit→Bool:=fun (a,b)=>decide (a=b)
def samePFu:List Sit×List Sit→Nat:=fun (a,b)=>a.length+1
theorem sameP_L0_spec (F:Nat) {a b:List Sit} (hx:a.length<big) (hf:∀s∈a,sitFit s=true) (hl:a.length=b.length):∀(k n i:Nat),i+k=a.length→k<n→sameP_L0 F n a b i=resB (decide (a.drop i=b.drop i))
 |k,0,i,_,h=>by omega
 |0,n+1,i,hi,_=>by
  rw[sameP_L0_succ,drop_len a (by omega),drop_len b (by omega)]
  simp only[show ¬((i:Int)<a.length) by omega,decide_false,cond_false,decide_true]
  rfl
 | k+1,n+1,i,hi,hn=>by
  have hb:a.length<9223372036854775807:=hx
  have ih:=sameP_L0_spec F hx hf hl k n (i+1) (by omega) (by omega)
  have hfit:=of_decide_eq_true (hf _ (nth_mem ([],0,[]) a (show i<a.length by omega)))
  rw[sameP_L0_succ,wrap_succ (i:=i) (by omega),ih,drop_nth ([],0,[]) a (show i<a.length by omega),drop_nth ([],0,[]) b (show i<b.length by omega),Int.toNat_natCast]
  revert hfit
  generalize nth ([],0,[]) a i=s
  generalize nth ([],0,[]) b i=t
  intro hfit
  rw[show rSameSOk (s.1,s.2.1,s.2.2,t.1,t.2.1,t.2.2)=true from decide_eq_true hfit,show rSameSM (s.1,s.2.1,s.2.2,t.1,t.2.1,t.2.2)=eqSit s t from rfl]
  simp only[show (i:Int)<a.length by omega,show (i:Int)<b.length by omega,show (0:Int)≤i by omega,decide_true,Bool.and_self,cond_true]
  cases he:eqSit s t with
  |true=>rw[eqSit_iff.1 he];simp
  |false=>
   have hne:¬s=t:=fun h=>by rw[eqSit_iff.2 h] at he;cases he
   simp[hne];rfl
theorem sameP_ret (z:List Sit×List Sit) (hk:samePOk z=true):Ret sameP_re sameP_R (sameP_run (samePFu z) z) (samePM z):=by
 obtain ⟨a,b⟩:=z
 simp only[samePOk,Bool.and_eq_true,decide_eq_true_eq] at hk
 refine Ret.of (r':=resB (samePM (a,b))) ((sameP_arg ..).trans ((sameP_eq ..).trans ?_)) (Ret.bool _)
 simp only[beq_ne,Int.natCast_inj]
 by_cases hl:a.length=b.length
 ·have:=sameP_L0_spec (a.length+1) hk.1 (fun s hs=>List.all_eq_true.1 hk.2 s hs) hl a.length (a.length+1) 0 (by omega) (by omega)
  rw[List.drop_zero,List.drop_zero] at this
  simp only[hl,decide_true,Bool.not_true,cond_false]
  exact this
 ·have:¬a=b:=fun h=>hl (by rw[h])
  simp[hl,samePM,this];rfl
noncomputable def tbUAL_1:FuncId→List AV→List Blk→Res:=addC 34 (tspecR back_sh back_K backOk backR) tbUA
theorem tabUAL_1:Tab Tryz.prog tbUAL_1 cxMd tbKUA:=Tab.addTyR (os:=[]) tabUA tabUA (KK:=back_K) (fn:=Tryz.f34) (by kernel_rfl) (by kernel_rfl) (by kernel_rfl) (by kernel_rfl) _ backFu back_retR
noncomputable def tbUAL_2:FuncId→List AV→List Blk→Res:=addC 15 (tspec sameP_sh sameP_K sameP_re sameP_R samePOk samePM) tbUAL_1
theorem tabUAL_2:Tab Tryz.prog tbUAL_2 cxMd tbKUA:=Tab.addTy (os:=[]) tabUAL_1 tabUA (KK:=sameP_K) (R:=sameP_R) (fn:=Tryz.f15) (by kernel_rfl) (by kernel_rfl) (by kernel_rfl) (by kernel_rfl) _ samePFu sameP_ret
noncomputable def tbUAB:FuncId→List AV→List Blk→Res:=tbUAL_2
noncomputable def tbKUAB:KT:=tbKUA
theorem tabUAB:Tab Tryz.prog tbUAB cxMd tbKUAB:=tabUAL_2
end Go.Proofs.YtiglikocfjhkcaaGreatDoor
