/- Tell. -/
import Derived.Test.YtiglikocfjhkcaaDoorUB
import Derived.Test.YtiglikocfjhkcaaDoorProg
import Derived.KernelRfl
import Derived.Test.YtiglikocfjhkcaaDoorWP
set_option linter.all false
set_option linter.unusedVariables false
set_option linter.unusedSimpArgs false
open Go Go.Abs Go.Proofs
namespace Go.Proofs.YtiglikocfjhkcaaDoor
noncomputable def tbVA_1:FuncId→List AV→List Blk→Res:=addC 28 (inl Tryd.prog tbUBB cxMd tbKUBB Tryd.f28) tbUBB
noncomputable def tbKVA_1:KT:=addK 28 (inlK Tryd.prog tbUBB cxMd tbKUBB Tryd.f28) tbKUBB
theorem tabVA_1:Tab Tryd.prog tbVA_1 cxMd tbKVA_1:=Tab.addInl tabUBB tabUBB (fn:=Tryd.f28) (by kernel_rfl) (by kernel_rfl) (by kernel_rfl)
noncomputable def tbVA_2:FuncId→List AV→List Blk→Res:=addC 29 (inl Tryd.prog tbVA_1 cxMd tbKVA_1 Tryd.f29) tbVA_1
noncomputable def tbKVA_2:KT:=addK 29 (inlK Tryd.prog tbVA_1 cxMd tbKVA_1 Tryd.f29) tbKVA_1
theorem tabVA_2:Tab Tryd.prog tbVA_2 cxMd tbKVA_2:=Tab.addInl tabVA_1 tabVA_1 (fn:=Tryd.f29) (by kernel_rfl) (by kernel_rfl) (by kernel_rfl)
noncomputable def tbVA_3:FuncId→List AV→List Blk→Res:=addC 30 (inl Tryd.prog tbVA_2 cxMd tbKVA_2 Tryd.f30) tbVA_2
noncomputable def tbKVA_3:KT:=addK 30 (inlK Tryd.prog tbVA_2 cxMd tbKVA_2 Tryd.f30) tbKVA_2
theorem tabVA_3:Tab Tryd.prog tbVA_3 cxMd tbKVA_3:=Tab.addInl tabVA_2 tabVA_2 (fn:=Tryd.f30) (by kernel_rfl) (by kernel_rfl) (by kernel_rfl)
noncomputable def tbVA:FuncId→List AV→List Blk→Res:=tbVA_3
noncomputable def tbKVA:KT:=tbKVA_3
theorem tabVA:Tab Tryd.prog tbVA cxMd tbKVA:=tabVA_3
noncomputable def cx_oTell (F:Nat):Cx:={P:=Tryd.prog,C:=tbVA,K:=tbKVA,mode:=cxMd,fuel:=F,live:=liveTab [(9,[4,5,31,30,29,9,10,8])],pin:=0,nx:=true}
def oTell_K:CK:=CK.pair (CK.int IntKind.i64) (CK.pair (CK.int IntKind.i64) (CK.pair (CK.int IntKind.i64) (CK.pair (CK.slice 22 (CK.slice 3 (CK.int IntKind.i64))) (CK.pair (CK.slice 22 (CK.slice 3 (CK.int IntKind.i64))) (CK.pair (CK.slice 51 (CK.slice 4 CK.bool)) (CK.slice 3 (CK.int IntKind.i64)))))))
def oTell_sh:List (Option Nat):=[some 6,none]
def oTell_R:CK:=CK.pair (CK.slice 3 (CK.int IntKind.i64)) (CK.pair (CK.int IntKind.i64) (CK.int IntKind.i64))
def oTell_re:List (Option Nat):=[none,none,none]
noncomputable def oTell_L0r (F:Nat) (n:Nat) (s5:Int) (s29:List Int) (s30:Int) (s31:Int) (h0:List Int) (h1_0:Int) (h1_1:Int) (h1_2:Int) (h1_3:List (List Int)) (h1_4:List (List Int)) (h1_5:List (List Bool)) (h1_6:Int) (h1_8:Bool) (h2:List Int):Res:=Lp (cx_oTell F) (loopBy (loopsOf (cx_oTell F) (bodyOf Tryd.f13) (endK (cx_oTell F) Tryd.f13)) 9) n {T:=fr 52 [(4,AV.sl 0 0 0 none),(5,AV.int IntKind.i64 s5),(8,AV.ptr 1 0),(9,AV.clo (29,true) [AV.ptr 1 0]),(10,AV.clo (30,true) [AV.ptr 1 0]),(29,AV.ro (CK.int IntKind.i64) s29),(30,AV.int IntKind.i64 s30),(31,AV.int IntKind.i64 s31)],H:=[Blk.row 0 3 (CK.int IntKind.i64) h0,Blk.cells [AV.int IntKind.i64 h1_0,AV.int IntKind.i64 h1_1,AV.int IntKind.i64 h1_2,AV.ro (CK.slice 3 (CK.int IntKind.i64)) h1_3,AV.ro (CK.slice 3 (CK.int IntKind.i64)) h1_4,AV.ro (CK.slice 4 CK.bool) h1_5,AV.int IntKind.i64 h1_6,AV.sl 2 0 0 none,AV.bool h1_8],Blk.row 0 3 (CK.int IntKind.i64) h2],ok:=true}
noncomputable def oTell_L0:Nat→Nat→Int→List Int→Int→Int→List Int→Int→Int→Int→List (List Int)→List (List Int)→List (List Bool)→Int→Bool→List Int→Res:=Classical.choose (hideE oTell_L0r)
theorem oTell_L0_def:oTell_L0=oTell_L0r:=Classical.choose_spec (hideE oTell_L0r)
theorem oTell_L0_succ (F:Nat) (n:Nat) (s5:Int) (s29:List Int) (s30:Int) (s31:Int) (h0:List Int) (h1_0:Int) (h1_1:Int) (h1_2:Int) (h1_3:List (List Int)) (h1_4:List (List Int)) (h1_5:List (List Bool)) (h1_6:Int) (h1_8:Bool) (h2:List Int):oTell_L0 F (n+1) s5 s29 s30 s31 h0 h1_0 h1_1 h1_2 h1_3 h1_4 h1_5 h1_6 h1_8 h2=bif decide (s31<s30) then bif decide (0≤s31)&&decide (s31<(↑(List.length s29):Int)) then bif decide (0<(↑(List.length h2):Int)) then bif Nat.ble 0 (List.length h0)&&decide (Nat.mul (Nat.add (List.length h0) 1) 8≤140737488355328) then bif h1_8 then bif decide (0≤h1_6)&&decide (h1_6<(↑(List.length h1_5):Int)) then bif decide (0≤nth 0 s29 (Int.toNat s31))&&decide (nth 0 s29 (Int.toNat s31)<(↑(List.length (nth [] h1_5 (Int.toNat h1_6))):Int)) then bif decide (List.length h2≤List.length h2)&&decide (1≤List.length h2) then bif decide (0≤h1_6)&&decide (h1_6<(↑(List.length h1_4):Int)) then bif decide (0≤nth 0 s29 (Int.toNat s31))&&decide (nth 0 s29 (Int.toNat s31)<(↑(List.length (nth [] h1_4 (Int.toNat h1_6))):Int)) then bif (decide (1<List.length h2)||true)&&(Nat.ble 1 (List.length h2)&&decide (Nat.mul (Nat.add (Nat.sub (List.length h2) 1) 1) 8≤140737488355328)) then bif decide (0≤h1_6)&&decide (h1_6<(↑(List.length h1_3):Int)) then bif decide (0≤nth 0 s29 (Int.toNat s31))&&decide (nth 0 s29 (Int.toNat s31)<(↑(List.length (nth [] h1_3 (Int.toNat h1_6))):Int)) then bif nth false (nth [] h1_5 (Int.toNat h1_6)) (Int.toNat (nth 0 s29 (Int.toNat s31))) then oTell_L0 F n (IntKind.wrap IntKind.i64 (s5+1)) s29 s30 (IntKind.wrap IntKind.i64 (s31+1)) (h0++[nth 0 h2 0]) h1_0 h1_1 h1_2 h1_3 h1_4 h1_5 (nth 0 (nth [] h1_3 (Int.toNat h1_6)) (Int.toNat (nth 0 s29 (Int.toNat s31)))) (nth false (nth [] h1_5 (Int.toNat h1_6)) (Int.toNat (nth 0 s29 (Int.toNat s31)))) (List.drop 1 h2++[nth 0 (nth [] h1_4 (Int.toNat h1_6)) (Int.toNat (nth 0 s29 (Int.toNat s31)))]) else oTell_L0 F n s5 s29 s30 (IntKind.wrap IntKind.i64 (s31+1)) (h0++[nth 0 h2 0]) h1_0 h1_1 h1_2 h1_3 h1_4 h1_5 (nth 0 (nth [] h1_3 (Int.toNat h1_6)) (Int.toNat (nth 0 s29 (Int.toNat s31)))) (nth false (nth [] h1_5 (Int.toNat h1_6)) (Int.toNat (nth 0 s29 (Int.toNat s31)))) (List.drop 1 h2++[nth 0 (nth [] h1_4 (Int.toNat h1_6)) (Int.toNat (nth 0 s29 (Int.toNat s31)))]) else {ok:=false,val:=AV.junk} else {ok:=false,val:=AV.junk} else {ok:=false,val:=AV.junk} else {ok:=false,val:=AV.junk} else {ok:=false,val:=AV.junk} else {ok:=false,val:=AV.junk} else {ok:=false,val:=AV.junk} else {ok:=false,val:=AV.junk} else bif decide (List.length h2≤List.length h2)&&decide (1≤List.length h2) then bif decide (0≤h1_6)&&decide (h1_6<(↑(List.length h1_4):Int)) then bif decide (0≤nth 0 s29 (Int.toNat s31))&&decide (nth 0 s29 (Int.toNat s31)<(↑(List.length (nth [] h1_4 (Int.toNat h1_6))):Int)) then bif (decide (1<List.length h2)||true)&&(Nat.ble 1 (List.length h2)&&decide (Nat.mul (Nat.add (Nat.sub (List.length h2) 1) 1) 8≤140737488355328)) then bif decide (0≤h1_6)&&decide (h1_6<(↑(List.length h1_3):Int)) then bif decide (0≤nth 0 s29 (Int.toNat s31))&&decide (nth 0 s29 (Int.toNat s31)<(↑(List.length (nth [] h1_3 (Int.toNat h1_6))):Int)) then oTell_L0 F n s5 s29 s30 (IntKind.wrap IntKind.i64 (s31+1)) (h0++[nth 0 h2 0]) h1_0 h1_1 h1_2 h1_3 h1_4 h1_5 (nth 0 (nth [] h1_3 (Int.toNat h1_6)) (Int.toNat (nth 0 s29 (Int.toNat s31)))) false (List.drop 1 h2++[nth 0 (nth [] h1_4 (Int.toNat h1_6)) (Int.toNat (nth 0 s29 (Int.toNat s31)))]) else {ok:=false,val:=AV.junk} else {ok:=false,val:=AV.junk} else {ok:=false,val:=AV.junk} else {ok:=false,val:=AV.junk} else {ok:=false,val:=AV.junk} else {ok:=false,val:=AV.junk} else {ok:=false,val:=AV.junk} else {ok:=false,val:=AV.junk} else {ok:=false,val:=AV.junk} else {ok:=true,val:=AV.tup [AV.sl 0 0 0 none,AV.int IntKind.i64 s5,AV.int IntKind.i64 0],heap:=[Blk.row 0 3 (CK.int IntKind.i64) h0]}:=by rewrite [oTell_L0_def];kernel_rfl
theorem oTell_eq (F:Nat) (a0_0:Int) (a0_1:Int) (a0_2:Int) (a0_3:List (List Int)) (a0_4:List (List Int)) (a0_5:List (List Bool)) (a1:List Int):runF (cx_oTell F) Tryd.f13 [AV.agg [AV.int IntKind.i64 a0_0,AV.int IntKind.i64 a0_1,AV.int IntKind.i64 a0_2,AV.ro (CK.slice 3 (CK.int IntKind.i64)) a0_3,AV.ro (CK.slice 3 (CK.int IntKind.i64)) a0_4,AV.ro (CK.slice 4 CK.bool) a0_5],AV.ro (CK.int IntKind.i64) a1] []=bif oVCM (a0_0,a0_1,a0_2,a0_3,a0_4,a0_5) !=0 then {ok:=true,val:=AV.tup [AV.sl 0 0 0 none,AV.int IntKind.i64 0,AV.int IntKind.i64 (oVCM (a0_0,a0_1,a0_2,a0_3,a0_4,a0_5))],heap:=[Blk.row 0 3 (CK.int IntKind.i64) []]} else bif inRangeOk (a1,a0_0) then bif !inRangeM (a1,a0_0) then {ok:=true,val:=AV.tup [AV.sl 0 0 0 none,AV.int IntKind.i64 0,AV.int IntKind.i64 52],heap:=[Blk.row 0 3 (CK.int IntKind.i64) []]} else bif decide (0≤a0_2)&&(decide (a0_2≤a0_2)&&(decide (a0_2*8≤140737488355328)&&decide (a0_2≤4611686018427387904))) then oTell_L0 F F 0 a1 (↑(List.length a1):Int) 0 [] a0_0 a0_1 a0_2 a0_3 a0_4 a0_5 0 true (List.replicate (Int.toNat a0_2) (0:Int)) else {ok:=false,val:=AV.junk} else {ok:=false,val:=AV.junk}:=by rewrite [oTell_L0_def];kernel_rfl
noncomputable def oTell_run (F:Nat) (x:CT oTell_K):Res:=runF (cx_oTell F) Tryd.f13 (groupA oTell_sh (enc oTell_K x)) []
theorem oTell_arg (F:Nat) (a0_0:Int) (a0_1:Int) (a0_2:Int) (a0_3:List (List Int)) (a0_4:List (List Int)) (a0_5:List (List Bool)) (a1:List Int):oTell_run F (a0_0,a0_1,a0_2,a0_3,a0_4,a0_5,a1)=runF (cx_oTell F) Tryd.f13 [AV.agg [AV.int IntKind.i64 a0_0,AV.int IntKind.i64 a0_1,AV.int IntKind.i64 a0_2,AV.ro (CK.slice 3 (CK.int IntKind.i64)) a0_3,AV.ro (CK.slice 3 (CK.int IntKind.i64)) a0_4,AV.ro (CK.slice 4 CK.bool) a0_5],AV.ro (CK.int IntKind.i64) a1] []:=by kernel_rfl
abbrev TeZ:=Int×Int×Int×List (List Int)×List (List Int)×List (List Bool)×List Int
def tellR (t:List Int) (n e:Int):Res:={ok:=true,val:=AV.tup [AV.sl 0 0 0 none,AV.int IntKind.i64 n,AV.int IntKind.i64 e],heap:=[Blk.row 0 3 (CK.int IntKind.i64) t]}
def tellM:TeZ→List Int×Int×Int:=fun (i,o,dl,n,p,l,st)=>
 bif contractOk i o dl n p l then (bif st.all (fineB i)&&decide ((st.length:Int)≤4096) then ((List.replicate dl.toNat 0++saids n p 0 st).take st.length,(letsIn n l 0 st:Int),0) else ([],0,52)) else ([],0,51)
def oTellOk:TeZ→Bool:=fun (_,_,_,_,_,_,st)=>decide (st.length<big)
def oTellM:TeZ→List Int×Int×Int:=tellM
def oTellFu:TeZ→Nat:=fun (_,_,_,_,_,_,st)=>st.length+1
theorem ret_tell (t:List Int) (a b:Int):Ret oTell_re oTell_R (tellR t a b) ((t,a,b):List Int×Int×Int):=
 ⟨rfl,rfl,rfl,rfl,rfl,rfl,fun ws h=>by cases h;simp⟩
theorem oTell_L0_spec (F:Nat) (xs:List Int) {i o dl:Int} {n p:List (List Int)} {l:List (List Bool)} (ct:CtV i o dl n p l) (hx:xs.length≤4096) (hw:∀j,j<xs.length→0≤nth 0 xs j∧nth 0 xs j<2^i.toNat):∀(k m j:Nat),j+k=xs.length→k<m→
  ∀(c:Nat) (told due:List Int) (q:Nat) (fl:Bool),c≤j→told.length=j→1≤due.length→due.length≤64→q<n.length→
  oTell_L0 F m c xs xs.length j told i o dl n p l q fl due=tellR (told++(due++saids n p q (xs.drop j)).take k) ((c+bif fl then letsIn n l q (xs.drop j) else 0:Nat):Int) 0
 |k,0,j,_,h=>by omega
 |0,m+1,j,hj,_=>by
  intro c told due q fl hc ht hd hd2 hq
  rw[oTell_L0_succ,drop_len xs (by omega)]
  simp[show ¬((j:Int)<xs.length) by omega,letsIn]
  rfl
 | k+1,m+1,j,hj,hm=>by
  intro c told due q fl hc ht hd hd2 hq
  obtain ⟨hw0,hw1⟩:=hw j (by omega)
  obtain ⟨⟨r1,r2,r3⟩,r4⟩:=ct.row q hq
  have hwn:(nth 0 xs j).toNat<2^i.toNat:=by
   have:((2:Int)^i.toNat)=((2^i.toNat:Nat):Int):=by simp
   omega
  obtain ⟨⟨t1,t2⟩,_⟩:=r4 _ hwn
  obtain ⟨q',hq'⟩:∃q':Nat,nth 0 (nth [] n q) (nth 0 xs j).toNat=(q':Int):=⟨_,(Int.toNat_of_nonneg t1).symm⟩
  have ih:=oTell_L0_spec F xs ct hx hw k m (j+1) (by omega) (by omega)
  rw[oTell_L0_succ,drop_nth 0 xs (show j<xs.length by omega),wrap_succ (show c<9223372036854775807 by omega),wrap_succ (show j<9223372036854775807 by omega)]
  have hcast:((2:Int)^i.toNat)=((2^i.toNat:Nat):Int):=by simp
  simp only[saids,letsIn,Int.toNat_natCast]
  rw[hq']
  obtain ⟨d0,due',rfl⟩:∃d0 due',due=d0::due':=by cases due with|nil=>simp at hd|cons a b=>exact ⟨a,b,rfl⟩
  simp only[List.length_cons] at hd hd2
  have e1:∀s:Int,(told++[d0])++((due'++[s])++saids n p q' (xs.drop (j+1))).take k=told++((d0::due')++s::saids n p q' (xs.drop (j+1))).take (k+1):=fun s=>by simp
  have ih1:=fun c fl hc=>ih c (told++[d0]) (due'++[nth 0 (nth [] p q) (nth 0 xs j).toNat]) q' fl hc (by simp[ht]) (by simp) (by simp;omega) (by omega)
  have hlen:=ct.len
  have a1:(j:Int)<xs.length:=by omega
  have a2:(q:Int)<l.length:=by omega
  have a3:(q:Int)<p.length:=by omega
  have a4:(q:Int)<n.length:=by omega
  have a5:nth 0 xs j<((nth [] l q).length:Int):=by rw[r3];omega
  have a6:nth 0 xs j<((nth [] p q).length:Int):=by rw[r2];omega
  have a7:nth 0 xs j<((nth [] n q).length:Int):=by rw[r1];omega
  have a9:(j+1)*8≤140737488355328:=by omega
  have a10:(due'.length+1)*8≤140737488355328:=by omega
  cases fl with
  | true=>
   cases hl:nth false (nth [] l q) (nth 0 xs j).toNat with
   |true=>
    have:=ih1 (c+1) true (by omega)
    rw[e1] at this
    simp at this
    simp[nble,a1,a2,a3,a4,a5,a6,a7,a9,a10,hw0,hl,this,ht,nth]
    congr 1
    omega
   |false=>
    have:=ih1 c false (by omega)
    rw[e1] at this
    simp at this
    simp[nble,a1,a2,a3,a4,a5,a6,a7,a9,a10,hw0,hl,this,ht,nth]
  |false=>
   have:=ih1 c false (by omega)
   rw[e1] at this
   simp at this
   simp[nble,a1,a2,a3,a4,a5,a6,a7,a9,a10,hw0,this,ht,nth]
theorem fine_spec {i:Int} (hi:0≤i∧i≤4) {xs:List Int} (h:xs.all (fineB i)=true):∀x∈xs,0≤x∧x<2^i.toNat:=fun x hx=>by
 have:=List.all_eq_true.1 h x hx
 simp only[fineB,Bool.and_eq_true,decide_eq_true_eq] at this
 rw[shl_one hi.1 (by omega)] at this
 exact this
theorem oTell_ret (z:TeZ) (hk:oTellOk z=true):Ret oTell_re oTell_R (oTell_run (oTellFu z) z) (oTellM z):=by
 obtain ⟨i,o,dl,n,p,l,st⟩:=z
 simp only[oTellOk,decide_eq_true_eq] at hk
 refine Ret.of (r':=tellR (tellM (i,o,dl,n,p,l,st)).1 (tellM (i,o,dl,n,p,l,st)).2.1 (tellM (i,o,dl,n,p,l,st)).2.2) ?_ (ret_tell _ _ _)
 refine (oTell_arg (st.length+1) i o dl n p l st).trans ((oTell_eq (st.length+1) i o dl n p l st).trans ?_)
 simp only[tellM]
 cases hc:contractOk i o dl n p l with
 |false=>rw[show oVCM (i,o,dl,n,p,l)=51 by simp only[oVCM,validM,hc];rfl];rfl
 | true=>
  have ct:=CtV.of hc
  have hi:=ct.ins
  have hlate:=ct.late
  rw[show oVCM (i,o,dl,n,p,l)=0 by simp only[oVCM,validM,hc];rfl,show inRangeOk (st,i)=true from decide_eq_true ⟨hi.1,by omega,hk⟩]
  simp only[bne_self_eq_false,cond_false,cond_true]
  rw[show inRangeM (st,i)=(st.all (fineB i)&&decide ((st.length:Int)≤4096)) from rfl]
  cases hs:st.all (fineB i)&&decide ((st.length:Int)≤4096) with
  |false=>rfl
  | true=>
   simp only[Bool.and_eq_true,decide_eq_true_eq] at hs
   have h2:=fine_spec hi hs.1
   have hn:0<n.length:=by
    simp only[contractOk,Bool.and_eq_true,decide_eq_true_eq] at hc
    exact hc.1.2.2.2.2.2.2.1
   have:=oTell_L0_spec (st.length+1) st ct (by omega) (fun j hj=>h2 _ (nth_mem 0 st hj)) st.length (st.length+1) 0 (by omega) (by omega) 0 [] (List.replicate dl.toNat 0) 0 true (by omega) rfl (by simp;omega) (by simp;omega) hn
   rw[show ((0:Nat):Int)=0 from rfl] at this
   simp only[Bool.not_true,cond_false,show 0≤dl by omega,show dl*8≤140737488355328 by omega,show dl≤4611686018427387904 by omega,Int.le_refl,decide_true,Bool.and_self,cond_true]
   rw[this]
   simp
noncomputable def tbVAL_1:FuncId→List AV→List Blk→Res:=addC 13 (tspec oTell_sh oTell_K oTell_re oTell_R oTellOk oTellM) tbVA
theorem tabVAL_1:Tab Tryd.prog tbVAL_1 cxMd tbKVA:=Tab.addTy (os:=[]) tabVA tabVA (KK:=oTell_K) (R:=oTell_R) (fn:=Tryd.f13) (by kernel_rfl) (by kernel_rfl) (by kernel_rfl) (by kernel_rfl) _ oTellFu oTell_ret
noncomputable def tbVAB:FuncId→List AV→List Blk→Res:=tbVAL_1
noncomputable def tbKVAB:KT:=tbKVA
theorem tabVAB:Tab Tryd.prog tbVAB cxMd tbKVAB:=tabVAL_1
noncomputable def tbVB:FuncId→List AV→List Blk→Res:=tbVAB
noncomputable def tbKVB:KT:=tbKVAB
theorem tabVB:Tab Tryd.prog tbVB cxMd tbKVB:=tabVAB
noncomputable def cx_before (F:Nat):Cx:={P:=Tryd.prog,C:=tbVB,K:=tbKVB,mode:=cxMd,fuel:=F,live:=liveTab [(4,[0,1,5])],pin:=0,nx:=true}
noncomputable def cx_broke (F:Nat):Cx:={P:=Tryd.prog,C:=tbVB,K:=tbKVB,mode:=cxMd,fuel:=F,live:=liveTab [(4,[9,8,7,2,4,3])],pin:=0,nx:=true}
def before_K:CK:=CK.pair (CK.slice 3 (CK.int IntKind.i64)) (CK.slice 3 (CK.int IntKind.i64))
def before_sh:List (Option Nat):=[none,none]
def before_R:CK:=CK.bool
def before_re:List (Option Nat):=[none]
noncomputable def before_L0r (F:Nat) (n:Nat) (s0:List Int) (s1:List Int) (s5:Int):Res:=Lp (cx_before F) (loopBy (loopsOf (cx_before F) (bodyOf Tryd.f11) (endK (cx_before F) Tryd.f11)) 4) n {T:=fr 40 [(0,AV.ro (CK.int IntKind.i64) s0),(1,AV.ro (CK.int IntKind.i64) s1),(5,AV.int IntKind.i64 s5)],H:=[],ok:=true}
noncomputable def before_L0:Nat→Nat→List Int→List Int→Int→Res:=Classical.choose (hideE before_L0r)
theorem before_L0_def:before_L0=before_L0r:=Classical.choose_spec (hideE before_L0r)
theorem before_L0_succ (F:Nat) (n:Nat) (s0:List Int) (s1:List Int) (s5:Int):before_L0 F (n+1) s0 s1 s5=bif decide (s5<(↑(List.length s0):Int)) then bif decide (0≤s5)&&decide (s5<(↑(List.length s0):Int)) then bif decide (0≤s5)&&decide (s5<(↑(List.length s1):Int)) then bif nth 0 s0 (Int.toNat s5) !=nth 0 s1 (Int.toNat s5) then bif decide (0≤s5)&&decide (s5<(↑(List.length s0):Int)) then bif decide (0≤s5)&&decide (s5<(↑(List.length s1):Int)) then {ok:=true,val:=AV.bool (decide (nth 0 s0 (Int.toNat s5)<nth 0 s1 (Int.toNat s5)))} else {ok:=false,val:=AV.junk} else {ok:=false,val:=AV.junk} else before_L0 F n s0 s1 (IntKind.wrap IntKind.i64 (s5+1)) else {ok:=false,val:=AV.junk} else {ok:=false,val:=AV.junk} else {ok:=true,val:=AV.bool false}:=by rewrite [before_L0_def];kernel_rfl
theorem before_eq (F:Nat) (a0:List Int) (a1:List Int):runF (cx_before F) Tryd.f11 [AV.ro (CK.int IntKind.i64) a0,AV.ro (CK.int IntKind.i64) a1] []=bif (↑(List.length a0):Int) !=(↑(List.length a1):Int) then {ok:=true,val:=AV.bool (decide ((↑(List.length a0):Int)<(↑(List.length a1):Int)))} else before_L0 F F a0 a1 0:=by rewrite [before_L0_def];kernel_rfl
noncomputable def before_run (F:Nat) (x:CT before_K):Res:=runF (cx_before F) Tryd.f11 (groupA before_sh (enc before_K x)) []
theorem before_arg (F:Nat) (a0:List Int) (a1:List Int):before_run F (a0,a1)=runF (cx_before F) Tryd.f11 [AV.ro (CK.int IntKind.i64) a0,AV.ro (CK.int IntKind.i64) a1] []:=by kernel_rfl
def broke_K:CK:=CK.pair (CK.int IntKind.i64) (CK.pair (CK.int IntKind.i64) (CK.pair (CK.int IntKind.i64) (CK.pair (CK.slice 3 (CK.int IntKind.i64)) (CK.pair (CK.slice 50 (CK.pair (CK.int IntKind.i64) (CK.pair (CK.int IntKind.i64) (CK.pair (CK.int IntKind.i64) CK.bool)))) (CK.pair (CK.int IntKind.i64) (CK.pair (CK.int IntKind.i64) (CK.pair (CK.int IntKind.i64) (CK.pair (CK.slice 22 (CK.slice 3 (CK.int IntKind.i64))) (CK.pair (CK.slice 22 (CK.slice 3 (CK.int IntKind.i64))) (CK.pair (CK.slice 51 (CK.slice 4 CK.bool)) (CK.slice 3 (CK.int IntKind.i64))))))))))))
def broke_sh:List (Option Nat):=[some 5,some 6,none]
def broke_R:CK:=CK.int IntKind.i64
def broke_re:List (Option Nat):=[none]
noncomputable def broke_L0r (F:Nat) (n:Nat) (s2:List Int) (s7:Int) (s9:Int) (h0_0:Int) (h0_1:Int) (h0_2:Int) (h0_3:List Int) (h0_4:List (Int×Int×Int×Bool)) (h1_0:Int) (h1_1:Int) (h1_2:Int) (h1_3:List (List Int)) (h1_4:List (List Int)) (h1_5:List (List Bool)) (h2:List Int):Res:=Lp (cx_broke F) (loopBy (loopsOf (cx_broke F) (bodyOf Tryd.f10) (endK (cx_broke F) Tryd.f10)) 4) n {T:=fr 96 [(2,AV.ro (CK.int IntKind.i64) s2),(3,AV.ptr 0 0),(4,AV.ptr 1 0),(7,AV.int IntKind.i64 s7),(8,AV.sl 2 0 0 none),(9,AV.int IntKind.i64 s9)],H:=[Blk.cells [AV.int IntKind.i64 h0_0,AV.int IntKind.i64 h0_1,AV.int IntKind.i64 h0_2,AV.ro (CK.int IntKind.i64) h0_3,AV.ro (CK.pair (CK.int IntKind.i64) (CK.pair (CK.int IntKind.i64) (CK.pair (CK.int IntKind.i64) CK.bool))) h0_4],Blk.cells [AV.int IntKind.i64 h1_0,AV.int IntKind.i64 h1_1,AV.int IntKind.i64 h1_2,AV.ro (CK.slice 3 (CK.int IntKind.i64)) h1_3,AV.ro (CK.slice 3 (CK.int IntKind.i64)) h1_4,AV.ro (CK.slice 4 CK.bool) h1_5],Blk.row 0 3 (CK.int IntKind.i64) h2],ok:=true}
noncomputable def broke_L0:Nat→Nat→List Int→Int→Int→Int→Int→Int→List Int→List (Int×Int×Int×Bool)→Int→Int→Int→List (List Int)→List (List Int)→List (List Bool)→List Int→Res:=Classical.choose (hideE broke_L0r)
theorem broke_L0_def:broke_L0=broke_L0r:=Classical.choose_spec (hideE broke_L0r)
theorem broke_L0_succ (F:Nat) (n:Nat) (s2:List Int) (s7:Int) (s9:Int) (h0_0:Int) (h0_1:Int) (h0_2:Int) (h0_3:List Int) (h0_4:List (Int×Int×Int×Bool)) (h1_0:Int) (h1_1:Int) (h1_2:Int) (h1_3:List (List Int)) (h1_4:List (List Int)) (h1_5:List (List Bool)) (h2:List Int):broke_L0 F (n+1) s2 s7 s9 h0_0 h0_1 h0_2 h0_3 h0_4 h1_0 h1_1 h1_2 h1_3 h1_4 h1_5 h2=bif decide (s9<(↑(List.length s2):Int)) then bif decide (0≤s9)&&decide (s9<(↑(List.length s2):Int)) then bif decide (nth 0 s2 (Int.toNat s9)<0) then {ok:=true,val:=AV.int IntKind.i64 (-1)} else bif decide (0≤s7)&&decide (s7<(↑(List.length h1_3):Int)) then bif decide (nth 0 s2 (Int.toNat s9)≥(↑(List.length (nth [] h1_3 (Int.toNat s7))):Int)) then {ok:=true,val:=AV.int IntKind.i64 (-1)} else bif decide (0≤s7)&&decide (s7<(↑(List.length h1_5):Int)) then bif decide (0≤nth 0 s2 (Int.toNat s9))&&decide (nth 0 s2 (Int.toNat s9)<(↑(List.length (nth [] h1_5 (Int.toNat s7))):Int)) then bif !nth false (nth [] h1_5 (Int.toNat s7)) (Int.toNat (nth 0 s2 (Int.toNat s9))) then {ok:=true,val:=AV.int IntKind.i64 (-1)} else bif oStepOk (h0_0,h0_1,h0_2,h0_3,h0_4,nth 0 s2 (Int.toNat s9)) then bif decide (s9≥h1_2) then bif decide (0≤IntKind.wrap IntKind.i64 (s9-h1_2))&&decide (IntKind.wrap IntKind.i64 (s9-h1_2)<(↑(List.length h2):Int)) then bif decide (Int.toNat (IntKind.wrap IntKind.i64 (s9-h1_2))<List.length h2) then bif Prod.snd (Prod.snd (Prod.snd (Prod.snd (Prod.snd (Prod.snd (oStepM (h0_0,h0_1,h0_2,h0_3,h0_4,nth 0 s2 (Int.toNat s9)))))))) !=0 then {ok:=true,val:=AV.int IntKind.i64 s9} else bif Prod.fst (Prod.snd (Prod.snd (Prod.snd (Prod.snd (Prod.snd (oStepM (h0_0,h0_1,h0_2,h0_3,h0_4,nth 0 s2 (Int.toNat s9)))))))) !=nth 0 h2 (Int.toNat (IntKind.wrap IntKind.i64 (s9-h1_2))) then {ok:=true,val:=AV.int IntKind.i64 s9} else bif decide (0≤s7)&&decide (s7<(↑(List.length h1_4):Int)) then bif decide (0≤nth 0 s2 (Int.toNat s9))&&decide (nth 0 s2 (Int.toNat s9)<(↑(List.length (nth [] h1_4 (Int.toNat s7))):Int)) then bif Nat.ble 0 (List.length h2)&&decide (Nat.mul (Nat.add (List.length h2) 1) 8≤140737488355328) then bif decide (0≤s7)&&decide (s7<(↑(List.length h1_3):Int)) then bif decide (0≤nth 0 s2 (Int.toNat s9))&&decide (nth 0 s2 (Int.toNat s9)<(↑(List.length (nth [] h1_3 (Int.toNat s7))):Int)) then broke_L0 F n s2 (nth 0 (nth [] h1_3 (Int.toNat s7)) (Int.toNat (nth 0 s2 (Int.toNat s9)))) (IntKind.wrap IntKind.i64 (s9+1)) (Prod.fst (oStepM (h0_0,h0_1,h0_2,h0_3,h0_4,nth 0 s2 (Int.toNat s9)))) (Prod.fst (Prod.snd (oStepM (h0_0,h0_1,h0_2,h0_3,h0_4,nth 0 s2 (Int.toNat s9))))) (Prod.fst (Prod.snd (Prod.snd (oStepM (h0_0,h0_1,h0_2,h0_3,h0_4,nth 0 s2 (Int.toNat s9)))))) (Prod.fst (Prod.snd (Prod.snd (Prod.snd (oStepM (h0_0,h0_1,h0_2,h0_3,h0_4,nth 0 s2 (Int.toNat s9))))))) (Prod.fst (Prod.snd (Prod.snd (Prod.snd (Prod.snd (oStepM (h0_0,h0_1,h0_2,h0_3,h0_4,nth 0 s2 (Int.toNat s9)))))))) h1_0 h1_1 h1_2 h1_3 h1_4 h1_5 (h2++[nth 0 (nth [] h1_4 (Int.toNat s7)) (Int.toNat (nth 0 s2 (Int.toNat s9)))]) else {ok:=false,val:=AV.junk} else {ok:=false,val:=AV.junk} else {ok:=false,val:=AV.junk} else {ok:=false,val:=AV.junk} else {ok:=false,val:=AV.junk} else {ok:=false,val:=AV.junk} else {ok:=false,val:=AV.junk} else bif Prod.snd (Prod.snd (Prod.snd (Prod.snd (Prod.snd (Prod.snd (oStepM (h0_0,h0_1,h0_2,h0_3,h0_4,nth 0 s2 (Int.toNat s9)))))))) !=0 then {ok:=true,val:=AV.int IntKind.i64 s9} else bif Prod.fst (Prod.snd (Prod.snd (Prod.snd (Prod.snd (Prod.snd (oStepM (h0_0,h0_1,h0_2,h0_3,h0_4,nth 0 s2 (Int.toNat s9)))))))) !=0 then {ok:=true,val:=AV.int IntKind.i64 s9} else bif decide (0≤s7)&&decide (s7<(↑(List.length h1_4):Int)) then bif decide (0≤nth 0 s2 (Int.toNat s9))&&decide (nth 0 s2 (Int.toNat s9)<(↑(List.length (nth [] h1_4 (Int.toNat s7))):Int)) then bif Nat.ble 0 (List.length h2)&&decide (Nat.mul (Nat.add (List.length h2) 1) 8≤140737488355328) then bif decide (0≤s7)&&decide (s7<(↑(List.length h1_3):Int)) then bif decide (0≤nth 0 s2 (Int.toNat s9))&&decide (nth 0 s2 (Int.toNat s9)<(↑(List.length (nth [] h1_3 (Int.toNat s7))):Int)) then broke_L0 F n s2 (nth 0 (nth [] h1_3 (Int.toNat s7)) (Int.toNat (nth 0 s2 (Int.toNat s9)))) (IntKind.wrap IntKind.i64 (s9+1)) (Prod.fst (oStepM (h0_0,h0_1,h0_2,h0_3,h0_4,nth 0 s2 (Int.toNat s9)))) (Prod.fst (Prod.snd (oStepM (h0_0,h0_1,h0_2,h0_3,h0_4,nth 0 s2 (Int.toNat s9))))) (Prod.fst (Prod.snd (Prod.snd (oStepM (h0_0,h0_1,h0_2,h0_3,h0_4,nth 0 s2 (Int.toNat s9)))))) (Prod.fst (Prod.snd (Prod.snd (Prod.snd (oStepM (h0_0,h0_1,h0_2,h0_3,h0_4,nth 0 s2 (Int.toNat s9))))))) (Prod.fst (Prod.snd (Prod.snd (Prod.snd (Prod.snd (oStepM (h0_0,h0_1,h0_2,h0_3,h0_4,nth 0 s2 (Int.toNat s9)))))))) h1_0 h1_1 h1_2 h1_3 h1_4 h1_5 (h2++[nth 0 (nth [] h1_4 (Int.toNat s7)) (Int.toNat (nth 0 s2 (Int.toNat s9)))]) else {ok:=false,val:=AV.junk} else {ok:=false,val:=AV.junk} else {ok:=false,val:=AV.junk} else {ok:=false,val:=AV.junk} else {ok:=false,val:=AV.junk} else {ok:=false,val:=AV.junk} else {ok:=false,val:=AV.junk} else {ok:=false,val:=AV.junk} else {ok:=false,val:=AV.junk} else {ok:=false,val:=AV.junk} else {ok:=true,val:=AV.int IntKind.i64 (↑(List.length s2):Int)}:=by rewrite [broke_L0_def];kernel_rfl
theorem broke_eq (F:Nat) (a0_0:Int) (a0_1:Int) (a0_2:Int) (a0_3:List Int) (a0_4:List (Int×Int×Int×Bool)) (a1_0:Int) (a1_1:Int) (a1_2:Int) (a1_3:List (List Int)) (a1_4:List (List Int)) (a1_5:List (List Bool)) (a2:List Int):runF (cx_broke F) Tryd.f10 [AV.agg [AV.int IntKind.i64 a0_0,AV.int IntKind.i64 a0_1,AV.int IntKind.i64 a0_2,AV.ro (CK.int IntKind.i64) a0_3,AV.ro (CK.pair (CK.int IntKind.i64) (CK.pair (CK.int IntKind.i64) (CK.pair (CK.int IntKind.i64) CK.bool))) a0_4],AV.agg [AV.int IntKind.i64 a1_0,AV.int IntKind.i64 a1_1,AV.int IntKind.i64 a1_2,AV.ro (CK.slice 3 (CK.int IntKind.i64)) a1_3,AV.ro (CK.slice 3 (CK.int IntKind.i64)) a1_4,AV.ro (CK.slice 4 CK.bool) a1_5],AV.ro (CK.int IntKind.i64) a2] []=broke_L0 F F a2 0 0 a0_0 a0_1 a0_2 a0_3 a0_4 a1_0 a1_1 a1_2 a1_3 a1_4 a1_5 []:=by rewrite [broke_L0_def];kernel_rfl
noncomputable def broke_run (F:Nat) (x:CT broke_K):Res:=runF (cx_broke F) Tryd.f10 (groupA broke_sh (enc broke_K x)) []
theorem broke_arg (F:Nat) (a0_0:Int) (a0_1:Int) (a0_2:Int) (a0_3:List Int) (a0_4:List (Int×Int×Int×Bool)) (a1_0:Int) (a1_1:Int) (a1_2:Int) (a1_3:List (List Int)) (a1_4:List (List Int)) (a1_5:List (List Bool)) (a2:List Int):broke_run F (a0_0,a0_1,a0_2,a0_3,a0_4,a1_0,a1_1,a1_2,a1_3,a1_4,a1_5,a2)=runF (cx_broke F) Tryd.f10 [AV.agg [AV.int IntKind.i64 a0_0,AV.int IntKind.i64 a0_1,AV.int IntKind.i64 a0_2,AV.ro (CK.int IntKind.i64) a0_3,AV.ro (CK.pair (CK.int IntKind.i64) (CK.pair (CK.int IntKind.i64) (CK.pair (CK.int IntKind.i64) CK.bool))) a0_4],AV.agg [AV.int IntKind.i64 a1_0,AV.int IntKind.i64 a1_1,AV.int IntKind.i64 a1_2,AV.ro (CK.slice 3 (CK.int IntKind.i64)) a1_3,AV.ro (CK.slice 3 (CK.int IntKind.i64)) a1_4,AV.ro (CK.slice 4 CK.bool) a1_5],AV.ro (CK.int IntKind.i64) a2] []:=by kernel_rfl
abbrev TwoL:=List Int×List Int
def lexB:List Int→List Int→Bool
 |x::a,y::b=>bif decide (x=y) then lexB a b else decide (x<y)
 |_,_=>false
theorem lexB_iff:∀a b:List Int,lexB a b=true↔Lex a b
 |[],[]=>by simp[lexB,Lex]
 |[],_::_=>by simp[lexB,Lex]
 |_::_,[]=>by simp[lexB,Lex]
 |x::a,y::b=>by
  have ih:=lexB_iff a b
  by_cases h:x=y
  ·simp[lexB,Lex,h,ih]
  ·simp[lexB,Lex,h]
def beforeOk:TwoL→Bool:=fun (a,_)=>decide (a.length<big)
def beforeM:TwoL→Bool:=fun (a,b)=>decide (a.length<b.length)||(decide (a.length=b.length)&&lexB a b)
def beforeFu:TwoL→Nat:=fun (a,_)=>a.length+1
theorem beforeM_iff (a b:List Int):beforeM (a,b)=true↔Bef a b:=by
 simp only[beforeM,Bool.or_eq_true,Bool.and_eq_true,decide_eq_true_eq,lexB_iff,Bef]
theorem before_L0_spec (F:Nat) (a b:List Int) (hx:a.length<big) (hl:a.length=b.length):∀(k n i:Nat),i+k=a.length→k<n→before_L0 F n a b i=resB (lexB (a.drop i) (b.drop i))
 |k,0,i,_,h=>by omega
 |0,n+1,i,hi,_=>by
  rw[before_L0_succ,drop_len a (by omega),drop_len b (by omega)]
  simp only[show ¬((i:Int)<a.length) by omega,decide_false,cond_false]
  rfl
 |k+1,n+1,i,hi,hn=>by
  have hb:a.length<9223372036854775807:=hx
  have ih:=before_L0_spec F a b hx hl k n (i+1) (by omega) (by omega)
  rw[before_L0_succ,wrap_succ (i:=i) (by omega),ih,drop_nth 0 a (show i<a.length by omega),drop_nth 0 b (show i<b.length by omega),Int.toNat_natCast]
  simp only[show (i:Int)<a.length by omega,show (i:Int)<b.length by omega,show (0:Int)≤i by omega,decide_true,Bool.and_self,cond_true,lexB,beq_ne]
  cases decide (nth 0 a i=nth 0 b i)<;>rfl
theorem before_ret (z:TwoL) (hk:beforeOk z=true):Ret before_re before_R (before_run (beforeFu z) z) (beforeM z):=by
 obtain ⟨a,b⟩:=z
 simp only[beforeOk,decide_eq_true_eq] at hk
 refine Ret.of (r':=resB (beforeM (a,b))) ((before_arg ..).trans ((before_eq ..).trans ?_)) (Ret.bool _)
 simp only[beq_ne,Int.natCast_inj,beforeM]
 by_cases hl:a.length=b.length
 ·have:=before_L0_spec (a.length+1) a b hk hl a.length (a.length+1) 0 (by omega) (by omega)
  rw[List.drop_zero,List.drop_zero] at this
  rw[decide_eq_true hl,decide_eq_false (show ¬a.length<b.length by omega)]
  simp only[Bool.not_true,cond_false,Bool.false_or,Bool.true_and]
  exact this
 ·rw[decide_eq_false hl]
  simp only[Bool.not_false,cond_true,Bool.false_and,Bool.or_false]
  rw[show decide ((a.length:Int)<(b.length:Int))=decide (a.length<b.length) by rw[Bool.eq_iff_iff,decide_eq_true_iff,decide_eq_true_iff];omega]
  rfl
abbrev BkZ:=Int×Int×Int×List Int×List Mo×Int×Int×Int×List (List Int)×List (List Int)×List (List Bool)×List Int
def brokeOk:BkZ→Bool:=fun (k,w,h,c,ms,i,o,dl,n,p,l,st)=>decide (askedM (k,w,h,c,ms,i,o,dl,n,p,l)=0)&&decide (st.length<1000000)
def brokeM:BkZ→Int:=fun (k,w,h,c,ms,i,o,dl,n,p,l,st)=>brokeL (ltF k w h ms n p) (letF l) (2^i.toNat) (c,0,List.replicate dl.toNat 0) 0 st
def brokeFu:BkZ→Nat:=fun (_,_,_,_,_,_,_,_,_,_,_,st)=>st.length+1
def resI (x:Int):Res:={ok:=true,val:=AV.int IntKind.i64 x}
theorem due_step {d i:Nat} {said:List Int} (hs:said.length=i) (hd:1≤d) (s:Int):
  ∃D',(List.replicate d 0++said).drop i=(if i<d then 0 else nth 0 said (i-d))::D'∧(List.replicate d 0++(said++[s])).drop (i+1)=D'++[s]:=by
 refine ⟨(List.replicate d 0++said).drop (i+1),?_,?_⟩
 ·rw[drop_nth 0 _ (by simp;omega),nth_append,List.length_replicate]
  congr 1
  split
  ·rename_i h;rw[nth_lt _ _ _ (by simpa using h)];simp
  ·rfl
 ·rw[←List.append_assoc,List.drop_append_of_le_length (by simp;omega)]
section
variable {k w h:Int} {c:List Int} {ms:List Mo} {i o dl:Int} {n p:List (List Int)} {l:List (List Bool)}
theorem oStep_at {s:Sit} (hf:fB k w h ms o dl n s=true) (hci:((cntI ms:Nat):Int)=i) (hi:0≤i∧i≤4) {a:Int} (ha:0≤a∧a<2^i.toNat):oStepOk (k,w,h,s.1,ms,a)=true∧
  oStepM (k,w,h,s.1,ms,a)=bif stOk k w h ms s.1 a then (k,w,h,nextC k w h ms s.1 a,ms,toldL w s.1 ms 0 0,0) else errO 53:=by
 simp only[fB,formB,Bool.and_eq_true,decide_eq_true_eq] at hf
 obtain ⟨h1,_⟩:=hf
 have v:=OrgV.of h1
 obtain ⟨hw,hh,hc,_,hml,_,_⟩:=orgG_spec v.good
 have hlen:w*h≤24*24:=Int.mul_le_mul hw.2 hh.2 (by omega) (by omega)
 refine ⟨decide_eq_true ⟨by omega,by omega⟩,?_⟩
 have hfine:fineB ((cntI ms:Nat):Int) a=true:=by
  simp only[fineB,Bool.and_eq_true,decide_eq_true_eq]
  rw[hci,shl_one hi.1 (by omega)]
  exact ha
 simp only[oStepM,rStepM,h1,hfine,steppedM_eq,Bool.not_true,cond_false]
 cases stOk k w h ms s.1 a<;>rfl
theorem broke_L0_spec (F:Nat) (ct:CtV i o dl n p l) (hci:((cntI ms:Nat):Int)=i) {st:List Int} (hst:st.length<1000000):∀(j m t:Nat) (s:Sit) (said:List Int),t+j=st.length→j<m→fB k w h ms o dl n s=true→said.length=t→s.2.2=(List.replicate dl.toNat 0++said).drop t→
  broke_L0 F m st s.2.1 t k w h s.1 ms i o dl n p l said=resI (brokeL (ltF k w h ms n p) (letF l) (2^i.toNat) s t (st.drop t))
 |j,0,t,_,_,_,h,_,_,_=>by omega
 |0,m+1,t,s,said,ht,_,_,_,_=>by
  rw[broke_L0_succ,drop_len st (by omega)]
  simp only[show ¬((t:Int)<st.length) by omega,decide_false,cond_false,brokeL]
  rw[show st.length=t by omega];rfl
 | j +1,m+1,t,s,said,ht,hm,hf,hs,hd=>by
  have hlen:=ct.len
  have hlate:=ct.late
  have hfo:=hf
  simp only[fB,formB,Bool.and_eq_true,decide_eq_true_eq] at hfo
  obtain ⟨_,⟨hq0,hq1⟩,_,_⟩:=hfo
  obtain ⟨⟨r1,r2,r3⟩,r4⟩:=ct.row s.2.1.toNat (by omega)
  have hpw:((2:Int)^i.toNat)=((2^i.toNat:Nat):Int):=by simp
  rw[broke_L0_succ,drop_nth 0 st (show t<st.length by omega),Int.toNat_natCast,r1,r2,r3]
  generalize nth 0 st t=a
  simp only[show (t:Int)<st.length by omega,show (0:Int)≤t by omega,hq0,hq1,show s.2.1<(l.length:Int) by omega,show s.2.1<(p.length:Int) by omega,decide_true,Bool.and_self,cond_true,brokeL]
  by_cases h0:a<0
  ·rw[decide_eq_true h0,decide_eq_false (show ¬(0≤a∧a<((2^i.toNat:Nat):Int)) by omega)];rfl
  by_cases h1:a≥((2^i.toNat:Nat):Int)
  ·rw[decide_eq_false h0,decide_eq_true h1,decide_eq_false (show ¬(0≤a∧a<((2^i.toNat:Nat):Int)) by omega)];rfl
  have ha:a.toNat<2^i.toNat:=by omega
  obtain ⟨e1,e2⟩:=oStep_at hf hci ct.ins (a:=a) (by omega)
  rw[decide_eq_false h0,decide_eq_false h1,decide_eq_true (show 0≤a∧a<((2^i.toNat:Nat):Int) by omega),decide_eq_true (show 0≤a by omega),decide_eq_true (show a<((2^i.toNat:Nat):Int) by omega),show letF l s a.toNat=nth false (nth [] l s.2.1.toNat) a.toNat from rfl]
  cases hl:nth false (nth [] l s.2.1.toNat) a.toNat with
  |false=>rfl
  | true=>
   obtain ⟨D,q1,q2⟩:=due_step hs (show 1≤dl.toNat by omega) (nth 0 (nth [] p s.2.1.toNat) a.toNat)
   have hdue:s.2.2=(if t<dl.toNat then 0 else nth 0 said (t-dl.toNat))::D:=hd.trans q1
   have hlt:ltF k w h ms n p s a.toNat=bif decide (toldL w s.1 ms 0 0=(if t<dl.toNat then 0 else nth 0 said (t-dl.toNat)))&&stOk k w h ms s.1 a then (nextC k w h ms s.1 a,nth 0 (nth [] n s.2.1.toNat) a.toNat,D++[nth 0 (nth [] p s.2.1.toNat) a.toNat],true) else ([],0,[],false):=by
    simp only[ltF,ltB,hdue,show ((a.toNat:Nat):Int)=a by omega,nth,List.drop_succ_cons,List.drop_zero]
   have hnf:(ltF k w h ms n p s a.toNat).2.2.2=true→fB k w h ms o dl n (toS (ltF k w h ms n p s a.toNat))=true:=fun hok=>lt_form ct ha hf hok
   rw[hlt] at hnf⊢
   rw[e1,e2]
   have ih:=fun hok=>broke_L0_spec F ct hci hst j m (t+1) (nextC k w h ms s.1 a,nth 0 (nth [] n s.2.1.toNat) a.toNat,D++[nth 0 (nth [] p s.2.1.toNat) a.toNat]) (said++[nth 0 (nth [] p s.2.1.toNat) a.toNat]) (by omega) (by omega) hok (by simp;omega) q2.symm
   rw[wrap_succ (i:=t) (by omega),decide_eq_true (show Nat.mul (Nat.add said.length 1) 8≤140737488355328 from by show (said.length+1)*8≤_;omega)]
   by_cases htd:t<dl.toNat
   ·rw[decide_eq_false (show ¬(t:Int)≥dl by omega)]
    simp only[htd,if_true] at hnf⊢
    cases hk:stOk k w h ms s.1 a with
    |false=>simp;rfl
    | true=>
     rw[hk] at hnf
     by_cases hto:toldL w s.1 ms 0 0=0
     ·have:=ih (by have:=hnf (by simp[hto]);simpa [hto,toS] using this)
      simp only[hto,decide_true,Bool.and_self,cond_true,toS,bne_self_eq_false,cond_false,Bool.not_true,nble,Nat.zero_le]
      exact this
     ·simp[hto,beq_ne];rfl
   ·rw[decide_eq_true (show (t:Int)≥dl by omega),wrap_id (n:=(t:Int)-dl) (by omega) (by omega),show ((t:Int)-dl).toNat=t-dl.toNat by omega,decide_eq_true (show (0:Int)≤(t:Int)-dl by omega),decide_eq_true (show (t:Int)-dl<(said.length:Int) by omega),decide_eq_true (show t-dl.toNat<said.length by omega)]
    simp only[htd,if_false] at hnf⊢
    cases hk:stOk k w h ms s.1 a with
    |false=>simp;rfl
    | true=>
     rw[hk] at hnf
     by_cases hto:toldL w s.1 ms 0 0=nth 0 said (t-dl.toNat)
     ·have:=ih (by have:=hnf (by simp[hto]);simpa [hto,toS] using this)
      simp only[hto,decide_true,Bool.and_self,cond_true,toS,bne_self_eq_false,cond_false,Bool.not_true,nble,Nat.zero_le]
      exact this
     ·simp[hto,beq_ne];rfl
end
theorem broke_ret (z:BkZ) (hk:brokeOk z=true):Ret broke_re broke_R (broke_run (brokeFu z) z) (brokeM z):=by
 obtain ⟨k,w,h,c,ms,i,o,dl,n,p,l,st⟩:=z
 simp only[brokeOk,Bool.and_eq_true,decide_eq_true_eq] at hk
 obtain ⟨ha,hst⟩:=hk
 obtain ⟨v,ct,hci⟩:=asked0 ha
 refine Ret.of (r':=resI (brokeM (k,w,h,c,ms,i,o,dl,n,p,l,st))) ?_ (Ret.int _ _)
 refine (broke_arg ..).trans ((broke_eq ..).trans ?_)
 have:=broke_L0_spec (st.length+1) ct hci hst st.length (st.length+1) 0 (c,0,List.replicate dl.toNat 0) [] (by omega) (by omega) (form_first v ct (asked_pos ha)) rfl (by simp)
 rw[List.drop_zero] at this
 exact this
noncomputable def tbVBL_1:FuncId→List AV→List Blk→Res:=addC 11 (tspec before_sh before_K before_re before_R beforeOk beforeM) tbVB
theorem tabVBL_1:Tab Tryd.prog tbVBL_1 cxMd tbKVB:=Tab.addTy (os:=[]) tabVB tabVB (KK:=before_K) (R:=before_R) (fn:=Tryd.f11) (by kernel_rfl) (by kernel_rfl) (by kernel_rfl) (by kernel_rfl) _ beforeFu before_ret
noncomputable def tbVBL_2:FuncId→List AV→List Blk→Res:=addC 10 (tspec broke_sh broke_K broke_re broke_R brokeOk brokeM) tbVBL_1
theorem tabVBL_2:Tab Tryd.prog tbVBL_2 cxMd tbKVB:=Tab.addTy (os:=[]) tabVBL_1 tabVB (KK:=broke_K) (R:=broke_R) (fn:=Tryd.f10) (by kernel_rfl) (by kernel_rfl) (by kernel_rfl) (by kernel_rfl) _ brokeFu broke_ret
noncomputable def tbVBB:FuncId→List AV→List Blk→Res:=tbVBL_2
noncomputable def tbKVBB:KT:=tbKVB
theorem tabVBB:Tab Tryd.prog tbVBB cxMd tbKVBB:=tabVBL_2
end Go.Proofs.YtiglikocfjhkcaaDoor
