/- The document's table of situations. -/
import Derived.Test.YtiglikocfjhkcaaGreatDoorTB
import Derived.Test.YtiglikocfjhkcaaGreatDoorProg
import Derived.KernelRfl
import Derived.Test.YtiglikocfjhkcaaGreatDoorA27
set_option linter.all false
set_option linter.unusedVariables false
set_option linter.unusedSimpArgs false
open Go Go.Abs Go.Proofs
namespace Go.Proofs.YtiglikocfjhkcaaGreatDoor
noncomputable def tbTC:=tbTBB
noncomputable def tbKTC:KT:=tbKTBB
theorem tabTC:Tab Tryz.prog tbTC cxMd tbKTC:=tabTBB
noncomputable def cx_has (F:Nat):Cx:={P:=Tryz.prog,C:=tbTC,K:=tbKTC,mode:=cxMd,fuel:=F,live:=liveTab [(3,[0,3,5,6])],pin:=0,nx:=true}
noncomputable def cx_opn (F:Nat):Cx:={P:=Tryz.prog,C:=tbTC,K:=tbKTC,mode:=cxMd,fuel:=F,live:=liveTab [],pin:=0,nx:=true}
noncomputable def cx_put (F:Nat):Cx:={P:=Tryz.prog,C:=tbTC,K:=tbKTC,mode:=cxMd,fuel:=F,live:=liveTab [(3,[5,0,3,4])],pin:=3}
def has_K:CK:=CK.pair (CK.slice 74 (CK.pair KL (CK.pair KI KL))) (CK.pair KL (CK.pair KL (CK.pair KI KL)))
def has_sh:List Sh:=[.ref 2, .agg 3]
def has_R:CK:=CK.bool
def has_re:List (Option Nat):=[none]
noncomputable def has_L0r (F n:Nat) (s0_0:List (List Int×Int×List Int)) (s0_1:List Int) (s5 s6:Int) (h0_0:List Int) (h0_1:Int) (h0_2:List Int):Res:=Lp (cx_has F) (loopBy (loopsOf (cx_has F) (bodyOf Tryz.f35) (endK (cx_has F) Tryz.f35)) 3) n {T:=fr 45 [(0,AV.rptr [AV.ro (CK.pair KL (CK.pair KI KL)) s0_0,AV.ro KI s0_1] 0),(3,AV.ptr 0 0),(5,AV.int .u64 s5),(6,AV.int .u64 s6)],H:=[Blk.cells [AV.ro KI h0_0,AV.int .i64 h0_1,AV.ro KI h0_2]],ok:=true}
noncomputable def has_L0:=Classical.choose (hideE has_L0r)
theorem has_L0_def:has_L0=has_L0r:=Classical.choose_spec (hideE has_L0r)
theorem has_L0_succ (F n:Nat) (s0_0:List (List Int×Int×List Int)) (s0_1:List Int) (s5 s6:Int) (h0_0:List Int) (h0_1:Int) (h0_2:List Int):has_L0 F (n+1) s0_0 s0_1 s5 s6 h0_0 h0_1 h0_2=bif decide (0≤s6)&&decide (s6<(s0_1.length:Int)) then bif nth 0 s0_1 (Int.toNat s6) !=0 then bif decide (0≤s6)&&decide (s6<(s0_1.length:Int)) then bif decide (0≤IntKind.wrap .i64 (nth 0 s0_1 (Int.toNat s6)-1))&&decide (IntKind.wrap .i64 (nth 0 s0_1 (Int.toNat s6)-1)<(s0_0.length:Int)) then bif rSameSOk ((nth ([],0,[]) s0_0 (Int.toNat (IntKind.wrap .i64 (nth 0 s0_1 (Int.toNat s6)-1)))).1,(nth ([],0,[]) s0_0 (Int.toNat (IntKind.wrap .i64 (nth 0 s0_1 (Int.toNat s6)-1)))).2.1,(nth ([],0,[]) s0_0 (Int.toNat (IntKind.wrap .i64 (nth 0 s0_1 (Int.toNat s6)-1)))).2.2,h0_0,h0_1,h0_2) then bif rSameSM ((nth ([],0,[]) s0_0 (Int.toNat (IntKind.wrap .i64 (nth 0 s0_1 (Int.toNat s6)-1)))).1,(nth ([],0,[]) s0_0 (Int.toNat (IntKind.wrap .i64 (nth 0 s0_1 (Int.toNat s6)-1)))).2.1,(nth ([],0,[]) s0_0 (Int.toNat (IntKind.wrap .i64 (nth 0 s0_1 (Int.toNat s6)-1)))).2.2,h0_0,h0_1,h0_2) then {ok:=true,val:=AV.bool true} else bif s5 !=0 then has_L0 F n s0_0 s0_1 s5 (Int.tmod (IntKind.wrap .u64 (s6+1)) s5) h0_0 h0_1 h0_2 else BR else BR else BR else BR else {ok:=true,val:=AV.bool false} else BR:=by rewrite [has_L0_def];kernel_rfl
theorem has_eq (F:Nat) (a0:List (List Int×Int×List Int)) (a1 a2:List Int) (a3:Int) (a4:List Int):runF (cx_has F) Tryz.f35 [AV.rptr [AV.ro (CK.pair KL (CK.pair KI KL)) a0,AV.ro KI a1] 0,AV.agg [AV.ro KI a2,AV.int .i64 a3,AV.ro KI a4]] []=bif hashOk (a2,a3,a4) then bif IntKind.wrap .u64 (a1.length:Int) !=0 then has_L0 F F a0 a1 (IntKind.wrap .u64 (a1.length:Int)) (Int.tmod (hashM (a2,a3,a4)) (IntKind.wrap .u64 (a1.length:Int))) a2 a3 a4 else BR else BR:=by rewrite [has_L0_def];kernel_rfl
noncomputable def has_run (F:Nat) (x:CT has_K):Res:=runF (cx_has F) Tryz.f35 (groupS has_sh (enc has_K x)) []
theorem has_arg (F:Nat) (a0:List (List Int×Int×List Int)) (a1 a2:List Int) (a3:Int) (a4:List Int):has_run F (a0,a1,a2,a3,a4)=runF (cx_has F) Tryz.f35 [AV.rptr [AV.ro (CK.pair KL (CK.pair KI KL)) a0,AV.ro KI a1] 0,AV.agg [AV.ro KI a2,AV.int .i64 a3,AV.ro KI a4]] []:=by kernel_rfl
theorem opn_eq (F:Nat) (a0:Int):runF (cx_opn F) Tryz.f30 [AV.int .i64 a0] []=bif decide (0≤IntKind.wrap .i64 (IntKind.wrap .i64 (2*a0)+8))&&(decide (IntKind.wrap .i64 (IntKind.wrap .i64 (2*a0)+8)≤IntKind.wrap .i64 (IntKind.wrap .i64 (2*a0)+8))&&(decide (IntKind.wrap .i64 (IntKind.wrap .i64 (2*a0)+8)*8≤140737488355328)&&decide (IntKind.wrap .i64 (IntKind.wrap .i64 (2*a0)+8)≤4611686018427387904))) then {ok:=true,val:=AV.ptr 0 0,heap:=[Blk.cells [AV.nils,AV.sl 1 0 0 none],Blk.row 0 3 KI ((List.replicate (Int.toNat (IntKind.wrap .i64 (IntKind.wrap .i64 (2*a0)+8))) 0):List Int)]} else BR:=by kernel_rfl
noncomputable def put_L0r (F n:Nat) (s4 s5:Int) (h1:List (List Int×Int×List Int)) (h2 h3_0:List Int) (h3_1:Int) (h3_2:List Int):Res:=Lp (cx_put F) (loopBy (loopsOf (cx_put F) (bodyOf Tryz.f31) (endK (cx_put F) Tryz.f31)) 3) n {T:=fr 49 [(0,AV.ptr 0 0),(3,AV.ptr 3 0),(4,AV.int .u64 s4),(5,AV.int .u64 s5)],H:=[Blk.cells [AV.sl 1 0 0 none,AV.sl 2 0 0 none],Blk.row 0 74 (CK.pair KL (CK.pair KI KL)) h1,Blk.row 0 3 KI h2,Blk.cells [AV.ro KI h3_0,AV.int .i64 h3_1,AV.ro KI h3_2]],ok:=true}
noncomputable def put_L0:=Classical.choose (hideE put_L0r)
theorem put_L0_def:put_L0=put_L0r:=Classical.choose_spec (hideE put_L0r)
theorem put_L0_succ (F n:Nat) (s4 s5:Int) (h1:List (List Int×Int×List Int)) (h2 h3_0:List Int) (h3_1:Int) (h3_2:List Int):put_L0 F (n+1) s4 s5 h1 h2 h3_0 h3_1 h3_2=bif decide (0≤s5)&&decide (s5<(h2.length:Int)) then bif decide (Int.toNat s5<List.length h2) then bif nth 0 h2 (Int.toNat s5) !=0 then bif s4 !=0 then put_L0 F n s4 (Int.tmod (IntKind.wrap .u64 (s5+1)) s4) h1 h2 h3_0 h3_1 h3_2 else BR else bif Nat.ble 0 (List.length h1)&&decide (Nat.mul (Nat.add (List.length h1) 1) 56≤140737488355328) then bif decide (0≤s5)&&decide (s5<(h2.length:Int)) then bif decide (Int.toNat s5<List.length h2) then {ok:=true,val:=AV.tup [],heap:=[Blk.cells [AV.sl 1 1 0 none,AV.sl 2 0 0 none],Blk.row 1 74 (CK.pair KL (CK.pair KI KL)) (h1++[(h3_0,h3_1,h3_2)]),Blk.row 0 3 KI (List.set h2 (Int.toNat s5) (↑(List.length (h1++[(h3_0,h3_1,h3_2)])):Int))]} else BR else BR else BR else BR else BR:=by rewrite [put_L0_def];kernel_rfl
theorem put_eq (F:Nat) (sl:List (List Int×Int×List Int)) (so sc:List Int) (ss:Int) (sd:List Int):runF (cx_put F) Tryz.f31 [AV.ptr 0 0,AV.agg [AV.ro KI sc,AV.int .i64 ss,AV.ro KI sd]] [Blk.cells [AV.sl 1 0 0 none,AV.sl 2 0 0 none],Blk.row 0 74 (CK.pair KL (CK.pair KI KL)) sl,Blk.row 0 3 KI so]=bif hashOk (sc,ss,sd) then bif IntKind.wrap .u64 (so.length:Int) !=0 then put_L0 F F (IntKind.wrap .u64 (so.length:Int)) (Int.tmod (hashM (sc,ss,sd)) (IntKind.wrap .u64 (so.length:Int))) sl so sc ss sd else BR else BR:=by rewrite [put_L0_def];kernel_rfl
abbrev SitK:CK:=CK.pair KL (CK.pair KI KL)
def eqSit (a b:Sit):Bool:=decide (a.2.1=b.2.1)&&(decide (a.2.2=b.2.2)&&decide (a.1=b.1))
def probe (list:List Sit) (slots:List Int) (s:Sit):Nat→Nat→Option Bool
 |0,_=>none
 |n+1,i=>bif decide (nth 0 slots i=0) then some false else bif eqSit (nth ([],0,[]) list (nth 0 slots i-1).toNat) s then some true else probe list slots s n ((i+1) % slots.length)
def gap (slots:List Int):Nat→Nat→Option Nat
 |0,_=>none
 |n+1,i=>bif decide (nth 0 slots i=0) then some i else gap slots n ((i+1) % slots.length)
def startOf (slots:List Int) (s:Sit):Nat:=(hashM s).toNat % slots.length
def sitFit (s:Sit):Bool:=decide (s.1.length<big∧s.2.2.length<big)
def tabWf (list:List Sit) (slots:List Int):Bool:=decide (1≤slots.length∧slots.length<1000000∧list.length<1000000)&&(slots.all (fun v=>decide (0≤v∧v≤(list.length:Int)))&&list.all sitFit)
abbrev HaZ:=List Sit×List Int×List Int×Int×List Int
def hasOk:HaZ→Bool:=fun (list,slots,s)=>tabWf list slots&&(sitFit s&&(probe list slots s slots.length (startOf slots s)).isSome)
def hasM:HaZ→Bool:=fun (list,slots,s)=>(probe list slots s slots.length (startOf slots s)).getD false
def hasFu:HaZ→Nat:=fun (list,slots,s)=>slots.length+1
theorem startOf_eq {slots:List Int} (h:1≤slots.length∧slots.length<1000000) (s:Sit):Int.tmod (hashM s) (slots.length:Int)=((startOf slots s:Nat):Int)∧startOf slots s<slots.length:=by
 obtain ⟨r1,r2⟩:=hash_range s
 refine ⟨?_,Nat.mod_lt _ (by omega)⟩
 rw[startOf]
 obtain ⟨a,ha⟩:∃a:Nat,hashM s=a:=⟨(hashM s).toNat,by omega⟩
 rw[ha];rfl
theorem has_L0_spec (F:Nat) {list:List Sit} {slots:List Int} {s:Sit} (hw:tabWf list slots=true) (hs:sitFit s=true):∀(n m i:Nat),i<slots.length→n<m→(probe list slots s n i).isSome=true→
  has_L0 F m list slots slots.length i s.1 s.2.1 s.2.2=resB ((probe list slots s n i).getD false)
 |0,m,i,_,_,h=>by cases h
 |n+1,0,i,_,h,_=>by omega
 | n+1,m+1,i,hi,hm,hp=>by
  simp only[tabWf,Bool.and_eq_true,decide_eq_true_eq] at hw
  obtain ⟨⟨w1,w2,w3⟩,w4,w5⟩:=hw
  have hv:=List.all_eq_true.1 w4 _ (nth_mem 0 slots hi)
  simp only[decide_eq_true_eq] at hv
  have hmod:(i+1) % slots.length<slots.length:=Nat.mod_lt _ (by omega)
  rw[has_L0_succ,Int.toNat_natCast]
  simp only[probe] at hp⊢
  rw[wrapu_id (n:=(i:Int)+1) (by omega) (by omega),show Int.tmod ((i:Int)+1) (slots.length:Int)=(((i+1) % slots.length:Nat):Int) from rfl]
  simp only[show (0:Int)≤(i:Int) by omega,show (i:Int)<slots.length by omega,decide_true,Bool.and_self,cond_true,beq_ne]
  by_cases c0:nth 0 slots i=0
  ·simp only[c0,decide_true,Bool.not_true,cond_false,cond_true];rfl
  ·have hlt:(nth 0 slots i-1).toNat<list.length:=by omega
   have hf:sitFit (nth ([],0,[]) list (nth 0 slots i-1).toNat)=true:=List.all_eq_true.1 w5 _ (nth_mem _ list hlt)
   have hf':=of_decide_eq_true hf
   rw[decide_eq_false c0] at hp⊢
   rw[wrap_id (n:=nth 0 slots i-1) (by omega) (by omega)]
   have ho:rSameSOk ((nth ([],0,[]) list (nth 0 slots i-1).toNat).1,(nth ([],0,[]) list (nth 0 slots i-1).toNat).2.1,(nth ([],0,[]) list (nth 0 slots i-1).toNat).2.2,s.1,s.2.1,s.2.2)=true:=decide_eq_true hf'
   simp only[cond_false,show (0:Int)≤nth 0 slots i-1 by omega,show nth 0 slots i-1<(list.length:Int) by omega,decide_true,Bool.and_self,cond_true,ho,Bool.not_false] at hp⊢
   rw[show rSameSM ((nth ([],0,[]) list (nth 0 slots i-1).toNat).1,(nth ([],0,[]) list (nth 0 slots i-1).toNat).2.1,(nth ([],0,[]) list (nth 0 slots i-1).toNat).2.2,s.1,s.2.1,s.2.2)=eqSit (nth ([],0,[]) list (nth 0 slots i-1).toNat) s from rfl]
   cases he:eqSit (nth ([],0,[]) list (nth 0 slots i-1).toNat) s with
   |true=>rfl
   |false=>
    rw[he] at hp
    simp only[cond_false] at hp⊢
    have hne:¬(slots.length:Int)=0:=by omega
    simp only[hne,decide_false,Bool.not_false,cond_true]
    exact has_L0_spec F (by simp only[tabWf,Bool.and_eq_true,decide_eq_true_eq];exact ⟨⟨w1,w2,w3⟩,w4,w5⟩) hs n m _ hmod (by omega) hp
theorem has_ret (z:HaZ) (hk:hasOk z=true):Ret has_re has_R (has_run (hasFu z) z) (hasM z):=by
 obtain ⟨list,slots,sc,ss,sd⟩:=z
 simp only[hasOk,Bool.and_eq_true] at hk
 obtain ⟨hw,hs,hp⟩:=hk
 have hw':=hw
 simp only[tabWf,Bool.and_eq_true,decide_eq_true_eq] at hw'
 obtain ⟨⟨w1,w2,w3⟩,w4,w5⟩:=hw'
 obtain ⟨e1,e2⟩:=startOf_eq (slots:=slots) ⟨w1,w2⟩ (sc,ss,sd)
 refine Ret.of (r':=resB (hasM (list,slots,sc,ss,sd))) ((has_arg ..).trans ((has_eq ..).trans ?_)) (Ret.bool _)
 rw[show hashOk (sc,ss,sd)=true from hs,wrapu_id (n:=(slots.length:Int)) (by omega) (by omega),e1,beq_ne,decide_eq_false (show ¬(slots.length:Int)=0 by omega)]
 exact has_L0_spec (slots.length+1) (s:=(sc,ss,sd)) hw hs slots.length (slots.length+1) _ e2 (by omega) hp
noncomputable def zerosN:Nat→List Int:=Classical.choose (hideE fun n=>List.replicate n (0:Int))
theorem zerosN_eq (n:Nat):zerosN n=List.replicate n (0:Int):=by
 rw[show zerosN=fun n=>List.replicate n (0:Int) from Classical.choose_spec (hideE fun n=>List.replicate n (0:Int))]
noncomputable def opnSpec (vs:List AV) (Hi:List Blk):Res:=
 match vs with
 |[v]=>⟨Hi.isEmpty&&(isInt .i64 v&&decide (0≤Go.Abs.asInt v∧Go.Abs.asInt v≤400000)), .ptr 0 0,[.cells [.sl 2 0 0 none, .sl 1 0 0 none], .row 0 3 (.int .i64) (zerosN (2*Go.Abs.asInt v+8).toNat), .row 0 74 SitK []]⟩
 |_=> .bad
theorem opnSpec_ok {vs:List AV} {Hi:List Blk} (h:(opnSpec vs Hi).ok=true):Hi=[]∧∃r b j cs e k,runF (cx_opn 0) Tryz.f30 vs []=r∧r.ok=true∧nth .free r.heap b= .cells cs∧j<cs.length∧nth .junk cs j= .nils∧
   (r.heap++[Blk.free]).all (cutB (r.heap++[Blk.free]).length)=true∧(opnSpec vs Hi).val=r.val∧(opnSpec vs Hi).heap=nilH r.heap b j cs e k:=by
 unfold opnSpec at h
 split at h
 ·rename_i v
  simp only[Bool.and_eq_true,decide_eq_true_eq,List.isEmpty_iff] at h
  obtain ⟨rfl,h1,h2,h3⟩:=h
  refine ⟨rfl,{ok:=true,val:= .ptr 0 0,heap:=[.cells [.nils, .sl 1 0 0 none], .row 0 3 (.int .i64) (zerosN (2*Go.Abs.asInt v+8).toNat)]},0,0,[.nils, .sl 1 0 0 none],74,SitK,?_,rfl,rfl,by simp,rfl,rfl,rfl,rfl⟩
  have e:=isI_eq h1
  generalize Go.Abs.asInt v=many at*
  subst e
  rw[zerosN_eq,opn_eq,wrap_id (n:=2*many) (by omega) (by omega),wrap_id (n:=2*many+8) (by omega) (by omega)]
  simp only[show (0:Int)≤2*many+8 by omega,Int.le_refl,show (2*many+8)*8≤140737488355328 by omega,show 2*many+8≤4611686018427387904 by omega,decide_true,Bool.and_self,cond_true]
 ·cases h
def isSlX (n:Nat):AV→Bool| .sl b v o l=>Nat.beq b n&&(Nat.beq v 0&&(Nat.beq o 0&&l.isNone))|_=>false
theorem isSlX_eq {n:Nat} {v:AV} (h:isSlX n v=true):v= .sl n 0 0 none:=by
 cases v<;>simp[isSlX] at h
 obtain ⟨rfl,rfl,rfl,rfl⟩:=h
 rfl
def isRowX (e:TypeId) (k:CK):Blk→Bool| .row v e' k' _=>Nat.beq v 0&&(Nat.beq e' e&&decide (k'=k))|_=>false
def asRowX (k:CK):Blk→List (CT k)| .row _ _ k' xs=>asL k (.ro k' xs)|_=>[]
theorem isRowX_eq {e:TypeId} {k:CK} {b:Blk} (h:isRowX e k b=true):b= .row 0 e k (asRowX k b):=by
 cases b<;>simp[isRowX] at h
 obtain ⟨rfl,rfl,rfl⟩:=h
 simp only[asRowX,asL_ro]
def tabC:List Blk→Bool
 |[.cells [c0,c1],b1,b2]=>isSlX 1 c0&&(isSlX 2 c1&&(isRowX 74 SitK b1&&isRowX 3 (.int .i64) b2))
 |_=>false
def tabL:List Blk→List Sit|[_,b1,_]=>asRowX SitK b1|_=>[]
def tabS:List Blk→List Int|[_,_,b2]=>asRowX (.int .i64) b2|_=>[]
def tabH (l:List Sit) (so:List Int):List Blk:=[.cells [.sl 1 0 0 none, .sl 2 0 0 none], .row 0 74 SitK l, .row 0 3 (.int .i64) so]
theorem tabC_eq {H:List Blk} (h:tabC H=true):H=tabH (tabL H) (tabS H):=by
 unfold tabC at h
 split at h
 ·rename_i c0 c1 b1 b2
  simp only[Bool.and_eq_true] at h
  obtain ⟨h0,h1,h2,h3⟩:=h
  obtain ⟨l,hl⟩:∃l,b1= .row 0 74 SitK l:=⟨_,isRowX_eq h2⟩
  obtain ⟨so,hs⟩:∃so,b2= .row 0 3 (.int .i64) so:=⟨_,isRowX_eq h3⟩
  have e0:=isSlX_eq h0
  have e1:=isSlX_eq h1
  rw[e0,e1,hl,hs]
  have g1:asL SitK (.ro SitK l)=l:=asL_ro SitK l
  have g2:asL (.int .i64) (.ro (.int .i64) so)=so:=asL_ro (.int .i64) so
  show tabH l so=tabH (asL SitK (.ro SitK l)) (asL (.int .i64) (.ro (.int .i64) so))
  rw[g1,g2]
 ·cases h
def putIdx (slots:List Int) (s:Sit):Nat:=(gap slots slots.length (startOf slots s)).getD 0
def putSlots (list:List Sit) (slots:List Int) (s:Sit):List Int:=slots.set (putIdx slots s) ((list.length+1:Nat):Int)
def putOk:HaZ→Bool:=fun (list,slots,s)=>tabWf list slots&&(sitFit s&&(gap slots slots.length (startOf slots s)).isSome)
def putM:HaZ→List Sit×List Int:=fun (list,slots,s)=>(list++[s],putSlots list slots s)
def putSpec (vs:List AV) (Hi:List Blk):Res:=
 match vs with
 |[a,s]=>⟨tabC Hi&&(isPtr0 a&&(siC s&&putOk (tabL Hi,tabS Hi,siX s))), .tup [],[.cells [.sl 1 1 0 none, .sl 2 0 0 none], .row 1 74 SitK (putM (tabL Hi,tabS Hi,siX s)).1, .row 0 3 (.int .i64) (putM (tabL Hi,tabS Hi,siX s)).2]⟩
 |_=> .bad
def putFuS (vs:List AV) (Hi:List Blk):Nat:=(tabS Hi).length+1
def putR (list:List Sit) (so:List Int):Res:={ok:=true,val:=AV.tup [],heap:=[Blk.cells [AV.sl 1 1 0 none,AV.sl 2 0 0 none],Blk.row 1 74 SitK list,Blk.row 0 3 KI so]}
theorem put_L0_spec (F:Nat) {list:List Sit} {slots:List Int} {s:Sit} (hw:tabWf list slots=true):∀(n m i:Nat),i<slots.length→n<m→(gap slots n i).isSome=true→
  put_L0 F m slots.length i list slots s.1 s.2.1 s.2.2=putR (list++[s]) (slots.set ((gap slots n i).getD 0) ((list.length+1:Nat):Int))
 |0,m,i,_,_,h=>by cases h
 |n+1,0,i,_,h,_=>by omega
 | n+1,m+1,i,hi,hm,hp=>by
  have hw':=hw
  simp only[tabWf,Bool.and_eq_true,decide_eq_true_eq] at hw'
  obtain ⟨⟨w1,w2,w3⟩,w4,w5⟩:=hw'
  have hmod:(i+1) % slots.length<slots.length:=Nat.mod_lt _ (by omega)
  rw[put_L0_succ,Int.toNat_natCast]
  simp only[gap] at hp⊢
  rw[wrapu_id (n:=(i:Int)+1) (by omega) (by omega),show Int.tmod ((i:Int)+1) (slots.length:Int)=(((i+1) % slots.length:Nat):Int) from rfl,decide_eq_true (show Nat.mul (Nat.add list.length 1) 56≤140737488355328 from by show (list.length+1)*56≤_;omega)]
  simp only[show (0:Int)≤(i:Int) by omega,show (i:Int)<slots.length by omega,hi,decide_true,Bool.and_self,cond_true,beq_ne,nble,Nat.zero_le]
  by_cases c0:nth 0 slots i=0
  ·simp only[c0,decide_true,Bool.not_true,cond_false,cond_true,List.length_append,List.length_cons,List.length_nil,Option.getD_some]
   rfl
  ·have hne:¬(slots.length:Int)=0:=by omega
   rw[decide_eq_false c0] at hp⊢
   simp only[cond_false,Bool.not_false,cond_true,hne,decide_false] at hp⊢
   exact put_L0_spec F hw n m _ hmod (by omega) hp
theorem put_run {list:List Sit} {slots:List Int} {s:Sit} (hk:putOk (list,slots,s)=true):runF (cx_put (slots.length+1)) Tryz.f31 [AV.ptr 0 0,siV s] (tabH list slots)=putR (list++[s]) (putSlots list slots s):=by
 simp only[putOk,Bool.and_eq_true] at hk
 obtain ⟨hw,hs,hp⟩:=hk
 have hw':=hw
 simp only[tabWf,Bool.and_eq_true,decide_eq_true_eq] at hw'
 obtain ⟨⟨w1,w2,w3⟩,w4,w5⟩:=hw'
 obtain ⟨e1,e2⟩:=startOf_eq (slots:=slots) ⟨w1,w2⟩ s
 refine (put_eq (slots.length+1) list slots s.1 s.2.1 s.2.2).trans ?_
 rw[show hashOk (s.1,s.2.1,s.2.2)=true from hs,wrapu_id (n:=(slots.length:Int)) (by omega) (by omega),show hashM (s.1,s.2.1,s.2.2)=hashM s from rfl,e1,beq_ne,decide_eq_false (show ¬(slots.length:Int)=0 by omega)]
 exact put_L0_spec (slots.length+1) hw slots.length (slots.length+1) _ e2 (by omega) hp
theorem putSpec_ok {vs:List AV} {Hi:List Blk} (h:(putSpec vs Hi).ok=true):runF (cx_put (putFuS vs Hi)) Tryz.f31 vs Hi=putSpec vs Hi∧Hi.length=3:=by
 unfold putSpec at h
 split at h
 ·rename_i a s
  simp only[Bool.and_eq_true] at h
  obtain ⟨h0,h1,h2,h3⟩:=h
  have e0:=tabC_eq h0
  have hr:=put_run h3
  rw[show tabH (tabL Hi) (tabS Hi)=Hi from e0.symm] at hr
  have ev:[a,s]=[AV.ptr 0 0,siV (siX s)]:=by rw[←isPtr0_eq h1,←siC_eq h2]
  refine ⟨?_,by rw[e0];rfl⟩
  simp only[putSpec,h0,h1,h2,h3,Bool.and_self,putFuS]
  exact (congrArg (fun v=>runF (cx_put ((tabS Hi).length+1)) Tryz.f31 v Hi) ev).trans hr
 ·cases h
noncomputable def tbTCL_1:=addC 35 (tspecS has_sh has_K has_re has_R hasOk hasM) tbTC
theorem tabTCL_1:Tab Tryz.prog tbTCL_1 cxMd tbKTC:=Tab.addTyS (os:=[]) tabTC tabTC (KK:=has_K) (R:=has_R) (fn:=Tryz.f35) (by kernel_rfl) (by kernel_rfl) (by kernel_rfl) (by kernel_rfl) _ hasFu has_ret
noncomputable def tbTCL_2:=addC 30 opnSpec tbTCL_1
theorem tabTCL_2:Tab Tryz.prog tbTCL_2 cxMd tbKTC:=Tab.addNilH tabTCL_1 tabTC (fn:=Tryz.f30) (by kernel_rfl) (by kernel_rfl) (by kernel_rfl) (by kernel_rfl) (cx_opn 0).live (fun _=>0) fun vs Hi h=>opnSpec_ok h
noncomputable def tbTCL_3:=addC 31 putSpec tbTCL_2
theorem tabTCL_3:Tab Tryz.prog tbTCL_3 cxMd tbKTC:=Tab.add tabTCL_2 tabTC (fn:=Tryz.f31) (by kernel_rfl) (by kernel_rfl) (by kernel_rfl) (by kernel_rfl) (cx_put 0).live putFuS fun vs Hi h=>by
 obtain ⟨h1,h2⟩:=putSpec_ok h
 rw[h2]
 exact h1
noncomputable def tbTCB:=tbTCL_3
noncomputable def tbKTCB:KT:=tbKTC
theorem tabTCB:Tab Tryz.prog tbTCB cxMd tbKTCB:=tabTCL_3
end Go.Proofs.YtiglikocfjhkcaaGreatDoor
