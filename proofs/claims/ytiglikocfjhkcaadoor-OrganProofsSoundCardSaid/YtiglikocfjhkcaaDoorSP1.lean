/- What stands outside an organ: newBody's map and the document's mouths say the same. -/
import Derived.Test.YtiglikocfjhkcaaDoorSK
import Derived.Test.YtiglikocfjhkcaaDoorSM
import Derived.Test.YtiglikocfjhkcaaDoorProg
import Derived.KernelRfl
import Derived.Test.YtiglikocfjhkcaaDoorA27
set_option linter.all false
set_option linter.unusedVariables false
set_option linter.unusedSimpArgs false
open Go Go.Abs Go.Proofs
namespace Go.Abs
theorem hasM_insM {V:Type} (kk:CK) (hk:keyC kk=true):∀(m:List (CT kk×V)) (k:CT kk) (v:V) (k':CT kk),hasM kk (insM kk m k v) k'=(eqK kk k' k||hasM kk m k')
 |[],k,v,k'=>by simp[insM,hasM]
 | p::m,k,v,k'=>by
  have ih:=hasM_insM kk hk m k v k'
  cases h:eqK kk k p.1 with
  |true=>
   have e:=(eqK_spec kk k p.1 hk).1 h
   simp only[insM,h,cond_true,hasM]
   rw[e]
   cases eqK kk k' p.1<;>simp
  |false=>
   simp only[insM,h,cond_false,hasM,ih]
   cases eqK kk k' p.1<;>cases eqK kk k' k<;>simp
end Go.Abs
namespace Go.Proofs.YtiglikocfjhkcaaDoor
def look (x y d:Int):List Mo→Nat→Nat→Option (Bool×Nat)
 |[],_,_=>none
 |m::r,a,b=>bif sameM m (x,y,d,true) then some (m.2.2.2,bif m.2.2.2 then a else b) else bif m.2.2.2 then look x y d r (a+1) b else look x y d r a (b+1)
def lookG (q:Option (Bool×Nat)) (v:Int):Int:=match q with
 |none=>v
 |some (true,a)=>100+a
 |some (false,b)=>b
def dist:List Mo→Prop
 |[]=>True
 |m::r=>(∀n∈r,sameM m n=false)∧dist r
theorem sameM_eq {a b c:Mo} (h:sameM a b=true):sameM a c=sameM b c:=by
 simp only[sameM,Bool.and_eq_true,decide_eq_true_eq] at h
 simp only[sameM,h.1,h.2.1,h.2.2]
theorem sameM_symm {a b:Mo}:sameM a b=sameM b a:=by
 simp only[sameM]
 rw[show decide (a.1=b.1)=decide (b.1=a.1) from decide_eq_decide.2 eq_comm,show decide (a.2.1=b.2.1)=decide (b.2.1=a.2.1) from decide_eq_decide.2 eq_comm,show decide (a.2.2.1=b.2.2.1)=decide (b.2.2.1=a.2.2.1) from decide_eq_decide.2 eq_comm]
theorem look_none {x y d:Int}:∀(l:List Mo) (a b:Nat),(∀n∈l,sameM n (x,y,d,true)=false)→look x y d l a b=none
 |[],_,_,_=>rfl
 |m::r,a,b,h=>by
  simp only[look,h m (by simp),cond_false,look_none r _ _ (fun n hn=>h n (by simp[hn]))]
  cases m.2.2.2<;>rfl
theorem bodyMap_get (x y d:Int):∀(l:List Mo) (a b:Nat) (m:MM),dist l→gM (bodyMap l a b m) x y d=lookG (look x y d l a b) (gM m x y d)∧hM (bodyMap l a b m) x y d=((look x y d l a b).isSome||hM m x y d)
 |[],a,b,m,_=>⟨rfl,rfl⟩
 | (u,v,e,o)::r,a,b,m,h=>by
  have key:∀(n:Int),gM (insM K3 m ((u,v,e):Int×Int×Int) n) x y d=(bif sameM (u,v,e,o) (x,y,d,true) then n else gM m x y d)∧hM (insM K3 m ((u,v,e):Int×Int×Int) n) x y d=(sameM (u,v,e,o) (x,y,d,true)||hM m x y d):=fun n=>by
   have e1:=getM_insM (V:=Int) K3 rfl 0 m ((u,v,e):Int×Int×Int) n ((x,y,d):Int×Int×Int)
   have e2:=hasM_insM (V:=Int) K3 rfl m ((u,v,e):Int×Int×Int) n ((x,y,d):Int×Int×Int)
   have e3:eqK K3 ((x,y,d):Int×Int×Int) ((u,v,e):Int×Int×Int)=sameM (u,v,e,o) (x,y,d,true):=by
    rw[sameM_symm];rfl
   rw[e3] at e1 e2
   exact ⟨e1,e2⟩
  have two:∀(a' b':Nat) (n:Int) (q:Option (Bool×Nat)),(sameM (u,v,e,o) (x,y,d,true)=true→lookG q (gM m x y d)=n∧q.isSome=true)→(sameM (u,v,e,o) (x,y,d,true)=false→q=look x y d r a' b')→
    gM (bodyMap r a' b' (insM K3 m ((u,v,e):Int×Int×Int) n)) x y d=lookG q (gM m x y d)∧hM (bodyMap r a' b' (insM K3 m ((u,v,e):Int×Int×Int) n)) x y d=(q.isSome||hM m x y d):=fun a' b' n q h1 h2=>by
   obtain ⟨i1,i2⟩:=bodyMap_get x y d r a' b' (insM K3 m ((u,v,e):Int×Int×Int) n) h.2
   rw[i1,i2,(key n).1,(key n).2]
   cases hs:sameM (u,v,e,o) (x,y,d,true) with
   | true=>
    have hn:look x y d r a' b'=none:=look_none r a' b' fun z hz=>by
     have:=h.1 z hz
     rw[sameM_symm,←sameM_eq hs]
     exact (sameM_symm.trans (sameM_symm.trans this))
    rw[hn,(h1 hs).1,(h1 hs).2]
    exact ⟨rfl,rfl⟩
   |false=>
    rw[h2 hs]
    exact ⟨rfl,rfl⟩
  cases o with
  |true=>
   simp only[bodyMap,cond_true,look]
   refine two (a+1) b _ _ (fun hs=> ?_) (fun hs=> ?_)
   ·rw[hs];exact ⟨rfl,rfl⟩
   ·rw[hs];rfl
  |false=>
   simp only[bodyMap,cond_false,look]
   refine two a (b+1) _ _ (fun hs=> ?_) (fun hs=> ?_)
   ·rw[hs];exact ⟨rfl,rfl⟩
   ·rw[hs];rfl
def lookW (word d:Int):Option (Bool×Nat)→Int
 |none=>0
 |some (true,_)=>ordinaryM d false
 |some (false,b)=>ordinaryM (Int.tmod (IntKind.wrap .i64 (d+2)) 4) (bitM word b)
theorem meetsL_look (word x y d px py:Int):∀(l:List Mo) (a b:Nat),(∀m∈l,(decide ((outerM m).1=px)&&decide ((outerM m).2=py))=sameM m (x,y,d,true))→meetsL word px py l b=lookW word d (look x y d l a b)
 |[],_,_,_=>rfl
 | m::r,a,b,h=>by
  have ih:=fun a b=>meetsL_look word x y d px py r a b (fun n hn=>h n (by simp[hn]))
  simp only[meetsL,look,h m (by simp)]
  cases hs:sameM m (x,y,d,true) with
  | true=>
   have hd:m.2.2.1=d:=by
    simp only[sameM,Bool.and_eq_true,decide_eq_true_eq] at hs
    exact hs.2.2
   simp only[cond_true,hd]
   cases m.2.2.2<;>rfl
  |false=>
   simp only[cond_false]
   cases m.2.2.2
   ·exact ih a (b+1)
   ·exact ih (a+1) b
theorem look_lt {x y d:Int}:∀(l:List Mo) (a b:Nat) {o:Bool} {k:Nat},look x y d l a b=some (o,k)→k<a+b+l.length
 |[],a,b,_,_,h=>by simp[look] at h
 | m::r,a,b,o,k,h=>by
  simp only[look] at h
  cases hs:sameM m (x,y,d,true) with
  |true=>
   rw[hs] at h
   simp only[cond_true,Option.some.injEq,Prod.mk.injEq] at h
   obtain ⟨_,h⟩:=h
   subst h
   cases m.2.2.2<;>simp<;>omega
  | false=>
   rw[hs] at h
   simp only[cond_false] at h
   cases ho:m.2.2.2 with
   |true=>
    rw[ho] at h
    have:=look_lt r (a+1) b h
    simp;omega
   |false=>
    rw[ho] at h
    have:=look_lt r a (b+1) h
    simp;omega
theorem outer_meets {ms:List Mo} {x y d px py word:Int} (hd:dist ms) (hl:ms.length<100) (hp:∀m∈ms,(decide ((outerM m).1=px)&&decide ((outerM m).2=py))=sameM m (x,y,d,true)):
  outerBO (bodyMap ms 0 0 []) x y d word=(meetsL word px py ms 0,(look x y d ms 0 0).isSome):=by
 obtain ⟨h1,h2⟩:=bodyMap_get x y d ms 0 0 [] hd
 rw[meetsL_look word x y d px py ms 0 0 hp]
 simp only[outerBO,h1,h2]
 rw[show hM [] x y d=false from rfl,Bool.or_false]
 cases hk:look x y d ms 0 0 with
 |none=>rfl
 | some q=>
  obtain ⟨o,k⟩:=q
  have:=look_lt _ _ _ hk
  cases o with
  |true=>
   rw[show lookG (some (true,k)) (gM [] x y d)=100+(k:Int) from rfl,decide_eq_true (show (100+(k:Int))≥100 by omega)]
   rfl
  |false=>
   rw[show lookG (some (false,k)) (gM [] x y d)=(k:Int) from rfl,decide_eq_false (show ¬((k:Int))≥100 by omega)]
   rfl
def inR (w h x y:Int):Bool:=decide (0≤x∧x<w∧0≤y∧y<h)
theorem inR_within (k w h:Int) (cells:List Int) (ms:List Mo) (x y:Int):withinM (k,w,h,cells,ms,x,y)=inR w h x y:=rfl
def dX (d:Int):Int:=nth 0 [1,0, -1,0] d.toNat
def dY (d:Int):Int:=nth 0 [0, -1,0,1] d.toNat
theorem beside_in {x y d:Int} (hx: -100≤x∧x<100) (hy: -100≤y∧y<100) (hd:0≤d∧d<4):besideM (x,y,d)=(x+dX d,y+dY d):=by
 obtain rfl|rfl|rfl|rfl:d=0∨d=1∨d=2∨d=3:=by omega
 all_goals
  simp only[besideM,dX,dY,nth]
  refine Prod.ext ?_ ?_
  ·exact wrap_id (by simp only[Int.toNat,nth];omega) (by simp only[Int.toNat,nth];omega)
  ·exact wrap_id (by simp only[Int.toNat,nth];omega) (by simp only[Int.toNat,nth];omega)
theorem geo {kind w h x y d:Int} {cells:List Int} {ms:List Mo} {m:Mo} (hw:1≤w∧w≤24) (hh:1≤h∧h≤24) (hx:0≤x∧x<w) (hy:0≤y∧y<h) (hd:0≤d∧d<4) (hm:mouthP kind w h cells ms m=true) (ho:inR w h (x+dX d) (y+dY d)=false):
  (decide ((outerM m).1=x+dX d)&&decide ((outerM m).2=y+dY d))=sameM m (x,y,d,true):=by
 obtain ⟨a,b,e,o⟩:=m
 simp only[mouthP,inR_within,Bool.and_eq_true,decide_eq_true_eq,Bool.not_eq_true'] at hm
 obtain ⟨he,ha,hb⟩:=hm
 simp only[inR,decide_eq_true_eq] at ha
 rw[beside_in (by omega) (by omega) he] at hb
 simp only[inR,decide_eq_false_iff_not] at ho hb
 rw[Bool.eq_iff_iff]
 simp only[Bool.and_eq_true,decide_eq_true_eq,sameM]
 rw[show outerM (a,b,e,o)=(a+dX e,b+dY e) from beside_in (by omega) (by omega) he]
 have c0:dX 0=1:=rfl
 have c1:dX 1=0:=rfl
 have c2:dX 2= -1:=rfl
 have c3:dX 3=0:=rfl
 have e0:dY 0=0:=rfl
 have e1:dY 1= -1:=rfl
 have e2:dY 2=0:=rfl
 have e3:dY 3=1:=rfl
 obtain rfl|rfl|rfl|rfl:d=0∨d=1∨d=2∨d=3:=by omega
 all_goals
  obtain rfl|rfl|rfl|rfl:e=0∨e=1∨e=2∨e=3:=by omega
 all_goals
  simp only[c0,c1,c2,c3,e0,e1,e2,e3] at ho hb⊢
  first|omega|(constructor<;>intro q<;>simp only[and_true] at q⊢ <;>omega)
noncomputable def tbSN:=tbSMB
noncomputable def tbKSN:KT:=tbKSMB
theorem tabSN:Tab Tryd.prog tbSN cxMd tbKSN:=tabSMB
noncomputable def cx_step (F:Nat):Cx:={P:=Tryd.prog,C:=tbSN,K:=tbKSN,mode:=cxMd,fuel:=F,live:=liveTab [(4,[36,7,35,6,37,2,0,8,1,9]),(9,[50,36,7,35,6,37,10,11,2,13,12,0,8,1,9,14]),(21,[118,117,8,116,18,6,7,1,9])],pin:=2}
noncomputable def step_L0r (F n:Nat) (s1:List Int) (s2 s7:Int) (s8:Bool) (s35:List Int) (s36 s37 h0_0 h0_1 h0_2:Int) (h0_3:List Int) (h0_4:List Mo) (h0_5 h0_7:Int) (h1:List ((Int×Int×Int)×Int)) (h2:List Int) (h3_0 h3_1 h3_2:Int) (h3_3:List Int) (h3_4:List Mo):Res:=Lp (cx_step F) (loopBy (loopsOf (cx_step F) (bodyOf Tryd.f33) (endK (cx_step F) Tryd.f33)) 4) n {T:=fr 170 [(0,AV.ptr 0 0),(1,AV.ro KI s1),(2,AV.int .i64 s2),(6,AV.sl 2 0 0 none),(7,AV.int .i64 s7),(8,AV.bool s8),(9,AV.ptr 3 0),(35,AV.ro KI s35),(36,AV.int .i64 s36),(37,AV.int .i64 s37)],H:=[Blk.cells [AV.int .i64 h0_0,AV.int .i64 h0_1,AV.int .i64 h0_2,AV.ro KI h0_3,AV.ro MoK h0_4,AV.int .i64 h0_5,AV.nils,AV.int .i64 h0_7,AV.mp 1],Blk.map true false (CK.pair KI (CK.pair KI KI)) KI h1,Blk.row 0 3 KI h2,Blk.cells [AV.int .i64 h3_0,AV.int .i64 h3_1,AV.int .i64 h3_2,AV.ro KI h3_3,AV.ro MoK h3_4]],ok:=true}
noncomputable def step_L0:=Classical.choose (hideE step_L0r)
theorem step_L0_def:step_L0=step_L0r:=Classical.choose_spec (hideE step_L0r)
noncomputable def step_L1r (F m0 n:Nat) (s1:List Int) (s2 s7:Int) (s8:Bool) (s10 s11 s12 s13:Int) (s35:List Int) (s36 s37 s50 h0_0 h0_1 h0_2:Int) (h0_3:List Int) (h0_4:List Mo) (h0_5 h0_7:Int) (h1:List ((Int×Int×Int)×Int)) (h2:List Int) (h3_0 h3_1 h3_2:Int) (h3_3:List Int) (h3_4:List Mo) (h4_0 h4_1 h4_2 h4_3:Int):Res:=Lp (cx_step F) (loopBy (innersOf (cx_step F) (loopBy (loopsOf (cx_step F) (bodyOf Tryd.f33) (endK (cx_step F) Tryd.f33)) 4) m0) 9) n {T:=fr 170 [(0,AV.ptr 0 0),(1,AV.ro KI s1),(2,AV.int .i64 s2),(6,AV.sl 2 0 0 none),(7,AV.int .i64 s7),(8,AV.bool s8),(9,AV.ptr 3 0),(10,AV.int .i64 s10),(11,AV.int .i64 s11),(12,AV.int .i64 s12),(13,AV.int .i64 s13),(14,AV.ptr 4 0),(35,AV.ro KI s35),(36,AV.int .i64 s36),(37,AV.int .i64 s37),(50,AV.int .i64 s50)],H:=[Blk.cells [AV.int .i64 h0_0,AV.int .i64 h0_1,AV.int .i64 h0_2,AV.ro KI h0_3,AV.ro MoK h0_4,AV.int .i64 h0_5,AV.nils,AV.int .i64 h0_7,AV.mp 1],Blk.map true false (CK.pair KI (CK.pair KI KI)) KI h1,Blk.row 0 3 KI h2,Blk.cells [AV.int .i64 h3_0,AV.int .i64 h3_1,AV.int .i64 h3_2,AV.ro KI h3_3,AV.ro MoK h3_4],Blk.cells [AV.int .i64 h4_0,AV.int .i64 h4_1,AV.int .i64 h4_2,AV.int .i64 h4_3]],ok:=true}
noncomputable def step_L1:=Classical.choose (hideE step_L1r)
theorem step_L1_def:step_L1=step_L1r:=Classical.choose_spec (hideE step_L1r)
noncomputable def step_L2r (F n:Nat) (s1:List Int) (s7:Int) (s8:Bool) (s18:Int) (s116:List Mo) (s117 s118 h0_0 h0_1 h0_2:Int) (h0_3:List Int) (h0_4:List Mo) (h0_5 h0_7:Int) (h1:List ((Int×Int×Int)×Int)) (h2:List Int) (h3_0 h3_1 h3_2:Int) (h3_3:List Int) (h3_4:List Mo):Res:=Lp (cx_step F) (loopBy (loopsOf (cx_step F) (bodyOf Tryd.f33) (endK (cx_step F) Tryd.f33)) 21) n {T:=fr 170 [(1,AV.ro KI s1),(6,AV.sl 2 0 0 none),(7,AV.int .i64 s7),(8,AV.bool s8),(9,AV.ptr 3 0),(18,AV.int .i64 s18),(116,AV.ro MoK s116),(117,AV.int .i64 s117),(118,AV.int .i64 s118)],H:=[Blk.cells [AV.int .i64 h0_0,AV.int .i64 h0_1,AV.int .i64 h0_2,AV.ro KI h0_3,AV.ro MoK h0_4,AV.int .i64 h0_5,AV.nils,AV.int .i64 h0_7,AV.mp 1],Blk.map true false (CK.pair KI (CK.pair KI KI)) KI h1,Blk.row 0 3 KI h2,Blk.cells [AV.int .i64 h3_0,AV.int .i64 h3_1,AV.int .i64 h3_2,AV.ro KI h3_3,AV.ro MoK h3_4]],ok:=true}
noncomputable def step_L2:=Classical.choose (hideE step_L2r)
theorem step_L2_def:step_L2=step_L2r:=Classical.choose_spec (hideE step_L2r)
theorem step_L0_succ (F n:Nat) (s1:List Int) (s2 s7:Int) (s8:Bool) (s35:List Int) (s36 s37 h0_0 h0_1 h0_2:Int) (h0_3:List Int) (h0_4:List Mo) (h0_5 h0_7:Int) (h1:List ((Int×Int×Int)×Int)) (h2:List Int) (h3_0 h3_1 h3_2:Int) (h3_3:List Int) (h3_4:List Mo):step_L0 F (n+1) s1 s2 s7 s8 s35 s36 s37 h0_0 h0_1 h0_2 h0_3 h0_4 h0_5 h0_7 h1 h2 h3_0 h3_1 h3_2 h3_3 h3_4=bif decide (s37<s36) then bif decide (0≤s37)&&decide (s37<(s35.length:Int)) then bif h3_1 !=0 then bif h3_1 !=0 then step_L1 F n F s1 s2 s7 s8 s37 (nth 0 s35 (Int.toNat s37)) (Int.tmod s37 h3_1) (IntKind.wrap .i64 (Int.tdiv s37 h3_1)) s35 s36 s37 0 h0_0 h0_1 h0_2 h0_3 h0_4 h0_5 h0_7 h1 h2 h3_0 h3_1 h3_2 h3_3 h3_4 0 0 0 0 else BR else BR else BR else step_L2 F F s1 s7 s8 0 h3_4 (h3_4.length:Int) 0 h0_0 h0_1 h0_2 h0_3 h0_4 h0_5 h0_7 h1 h2 h3_0 h3_1 h3_2 h3_3 h3_4:=by rewrite [step_L0_def,step_L1_def,step_L2_def];kernel_rfl
theorem step_L1_succ (F m0 n:Nat) (s1:List Int) (s2 s7:Int) (s8:Bool) (s10 s11 s12 s13:Int) (s35:List Int) (s36 s37 s50 h0_0 h0_1 h0_2:Int) (h0_3:List Int) (h0_4:List Mo) (h0_5 h0_7:Int) (h1:List ((Int×Int×Int)×Int)) (h2:List Int) (h3_0 h3_1 h3_2:Int) (h3_3:List Int) (h3_4:List Mo) (h4_0 h4_1 h4_2 h4_3:Int):step_L1 F m0 (n+1) s1 s2 s7 s8 s10 s11 s12 s13 s35 s36 s37 s50 h0_0 h0_1 h0_2 h0_3 h0_4 h0_5 h0_7 h1 h2 h3_0 h3_1 h3_2 h3_3 h3_4 h4_0 h4_1 h4_2 h4_3=bif decide (s50<4) then bif besideOk (s12,s13,s50) then bif oWithinM (h3_0,h3_1,h3_2,h3_3,h3_4,(besideM (s12,s13,s50)).1,(besideM (s12,s13,s50)).2) then bif decide (0≤IntKind.wrap .i64 (IntKind.wrap .i64 ((besideM (s12,s13,s50)).2*h3_1)+(besideM (s12,s13,s50)).1))&&decide (IntKind.wrap .i64 (IntKind.wrap .i64 ((besideM (s12,s13,s50)).2*h3_1)+(besideM (s12,s13,s50)).1)<(s1.length:Int)) then bif decide (0≤s50)&&decide (s50<4) then bif Nat.ble (Nat.add (Nat.add 0 (Nat.mul (Int.toNat s50) 1)) 1) 4&&true then step_L1 F m0 n s1 s2 s7 s8 s10 s11 s12 s13 s35 s36 s37 (IntKind.wrap .i64 (s50+1)) h0_0 h0_1 h0_2 h0_3 h0_4 h0_5 h0_7 h1 h2 h3_0 h3_1 h3_2 h3_3 h3_4 (bif Nat.beq (Nat.add 0 (Nat.mul (Int.toNat s50) 1)) 0 then nth 0 s1 (Int.toNat (IntKind.wrap .i64 (IntKind.wrap .i64 ((besideM (s12,s13,s50)).2*h3_1)+(besideM (s12,s13,s50)).1))) else h4_0) (bif Nat.beq (Nat.add 0 (Nat.mul (Int.toNat s50) 1)) 1 then nth 0 s1 (Int.toNat (IntKind.wrap .i64 (IntKind.wrap .i64 ((besideM (s12,s13,s50)).2*h3_1)+(besideM (s12,s13,s50)).1))) else h4_1) (bif Nat.beq (Nat.add 0 (Nat.mul (Int.toNat s50) 1)) 2 then nth 0 s1 (Int.toNat (IntKind.wrap .i64 (IntKind.wrap .i64 ((besideM (s12,s13,s50)).2*h3_1)+(besideM (s12,s13,s50)).1))) else h4_2) (bif Nat.beq (Nat.add 0 (Nat.mul (Int.toNat s50) 1)) 3 then nth 0 s1 (Int.toNat (IntKind.wrap .i64 (IntKind.wrap .i64 ((besideM (s12,s13,s50)).2*h3_1)+(besideM (s12,s13,s50)).1))) else h4_3) else BR else BR else BR else bif outerBOk (h0_0,h0_1,h0_2,h0_3,h0_4,h0_5,[],h0_7,h1,s12,s13,s50,s2) then bif decide (0≤s50)&&decide (s50<4) then bif Nat.ble (Nat.add (Nat.add 0 (Nat.mul (Int.toNat s50) 1)) 1) 4&&true then bif s8 then step_L1 F m0 n s1 s2 s7 true s10 s11 s12 s13 s35 s36 s37 (IntKind.wrap .i64 (s50+1)) h0_0 h0_1 h0_2 h0_3 h0_4 h0_5 h0_7 h1 h2 h3_0 h3_1 h3_2 h3_3 h3_4 (bif Nat.beq (Nat.add 0 (Nat.mul (Int.toNat s50) 1)) 0 then (outerBM (h0_0,h0_1,h0_2,h0_3,h0_4,h0_5,[],h0_7,h1,s12,s13,s50,s2)).1 else h4_0) (bif Nat.beq (Nat.add 0 (Nat.mul (Int.toNat s50) 1)) 1 then (outerBM (h0_0,h0_1,h0_2,h0_3,h0_4,h0_5,[],h0_7,h1,s12,s13,s50,s2)).1 else h4_1) (bif Nat.beq (Nat.add 0 (Nat.mul (Int.toNat s50) 1)) 2 then (outerBM (h0_0,h0_1,h0_2,h0_3,h0_4,h0_5,[],h0_7,h1,s12,s13,s50,s2)).1 else h4_2) (bif Nat.beq (Nat.add 0 (Nat.mul (Int.toNat s50) 1)) 3 then (outerBM (h0_0,h0_1,h0_2,h0_3,h0_4,h0_5,[],h0_7,h1,s12,s13,s50,s2)).1 else h4_3) else bif leaksAtOk (h0_0,h0_1,h0_2,h0_3,h0_4,h0_5,[],h0_7,h1,s12,s13,s50,s2,s11) then step_L1 F m0 n s1 s2 s7 (leaksAtM (h0_0,h0_1,h0_2,h0_3,h0_4,h0_5,[],h0_7,h1,s12,s13,s50,s2,s11)) s10 s11 s12 s13 s35 s36 s37 (IntKind.wrap .i64 (s50+1)) h0_0 h0_1 h0_2 h0_3 h0_4 h0_5 h0_7 h1 h2 h3_0 h3_1 h3_2 h3_3 h3_4 (bif Nat.beq (Nat.add 0 (Nat.mul (Int.toNat s50) 1)) 0 then (outerBM (h0_0,h0_1,h0_2,h0_3,h0_4,h0_5,[],h0_7,h1,s12,s13,s50,s2)).1 else h4_0) (bif Nat.beq (Nat.add 0 (Nat.mul (Int.toNat s50) 1)) 1 then (outerBM (h0_0,h0_1,h0_2,h0_3,h0_4,h0_5,[],h0_7,h1,s12,s13,s50,s2)).1 else h4_1) (bif Nat.beq (Nat.add 0 (Nat.mul (Int.toNat s50) 1)) 2 then (outerBM (h0_0,h0_1,h0_2,h0_3,h0_4,h0_5,[],h0_7,h1,s12,s13,s50,s2)).1 else h4_2) (bif Nat.beq (Nat.add 0 (Nat.mul (Int.toNat s50) 1)) 3 then (outerBM (h0_0,h0_1,h0_2,h0_3,h0_4,h0_5,[],h0_7,h1,s12,s13,s50,s2)).1 else h4_3) else BR else BR else BR else BR else BR else bif cNextOk (h0_5,[],s11,h4_0,h4_1,h4_2,h4_3) then bif decide (0≤s10)&&decide (s10<(h2.length:Int)) then bif decide (Int.toNat s10<List.length h2) then step_L0 F m0 s1 s2 s7 s8 s35 s36 (IntKind.wrap .i64 (s37+1)) h0_0 h0_1 h0_2 h0_3 h0_4 h0_5 h0_7 h1 (List.set h2 (Int.toNat s10) (cNextM (h0_5,[],s11,h4_0,h4_1,h4_2,h4_3))) h3_0 h3_1 h3_2 h3_3 h3_4 else BR else BR else BR:=by rewrite [step_L0_def,step_L1_def];kernel_rfl
theorem step_L2_succ (F n:Nat) (s1:List Int) (s7:Int) (s8:Bool) (s18:Int) (s116:List Mo) (s117 s118 h0_0 h0_1 h0_2:Int) (h0_3:List Int) (h0_4:List Mo) (h0_5 h0_7:Int) (h1:List ((Int×Int×Int)×Int)) (h2:List Int) (h3_0 h3_1 h3_2:Int) (h3_3:List Int) (h3_4:List Mo):step_L2 F (n+1) s1 s7 s8 s18 s116 s117 s118 h0_0 h0_1 h0_2 h0_3 h0_4 h0_5 h0_7 h1 h2 h3_0 h3_1 h3_2 h3_3 h3_4=bif decide (s118<s117) then bif decide (0≤s118)&&decide (s118<(s116.length:Int)) then bif !(nth (0,0,0,false) s116 (Int.toNat s118)).2.2.2 then step_L2 F n s1 s7 s8 s18 s116 s117 (IntKind.wrap .i64 (s118+1)) h0_0 h0_1 h0_2 h0_3 h0_4 h0_5 h0_7 h1 h2 h3_0 h3_1 h3_2 h3_3 h3_4 else bif decide (0≤IntKind.wrap .i64 (IntKind.wrap .i64 ((nth (0,0,0,false) s116 (Int.toNat s118)).2.1*h3_1)+(nth (0,0,0,false) s116 (Int.toNat s118)).1))&&decide (IntKind.wrap .i64 (IntKind.wrap .i64 ((nth (0,0,0,false) s116 (Int.toNat s118)).2.1*h3_1)+(nth (0,0,0,false) s116 (Int.toNat s118)).1)<(s1.length:Int)) then bif (cIsOrdM (nth 0 s1 (Int.toNat (IntKind.wrap .i64 (IntKind.wrap .i64 ((nth (0,0,0,false) s116 (Int.toNat s118)).2.1*h3_1)+(nth (0,0,0,false) s116 (Int.toNat s118)).1))))).2.1 then bif decide (0≤s18) then bif decide (0≤IntKind.wrap .i64 (IntKind.wrap .i64 ((nth (0,0,0,false) s116 (Int.toNat s118)).2.1*h3_1)+(nth (0,0,0,false) s116 (Int.toNat s118)).1))&&decide (IntKind.wrap .i64 (IntKind.wrap .i64 ((nth (0,0,0,false) s116 (Int.toNat s118)).2.1*h3_1)+(nth (0,0,0,false) s116 (Int.toNat s118)).1)<(h2.length:Int)) then bif decide (Int.toNat (IntKind.wrap .i64 (IntKind.wrap .i64 ((nth (0,0,0,false) s116 (Int.toNat s118)).2.1*h3_1)+(nth (0,0,0,false) s116 (Int.toNat s118)).1))<List.length h2) then bif !(cIsOrdM (nth 0 h2 (Int.toNat (IntKind.wrap .i64 (IntKind.wrap .i64 ((nth (0,0,0,false) s116 (Int.toNat s118)).2.1*h3_1)+(nth (0,0,0,false) s116 (Int.toNat s118)).1))))).2.2 then step_L2 F n s1 (orI .i64 s7 (shlI .i64 1 s18)) true (IntKind.wrap .i64 (s18+1)) s116 s117 (IntKind.wrap .i64 (s118+1)) h0_0 h0_1 h0_2 h0_3 h0_4 h0_5 h0_7 h1 h2 h3_0 h3_1 h3_2 h3_3 h3_4 else bif (cIsOrdM (nth 0 h2 (Int.toNat (IntKind.wrap .i64 (IntKind.wrap .i64 ((nth (0,0,0,false) s116 (Int.toNat s118)).2.1*h3_1)+(nth (0,0,0,false) s116 (Int.toNat s118)).1))))).1 !=(nth (0,0,0,false) s116 (Int.toNat s118)).2.2.1 then step_L2 F n s1 (orI .i64 s7 (shlI .i64 1 s18)) true (IntKind.wrap .i64 (s18+1)) s116 s117 (IntKind.wrap .i64 (s118+1)) h0_0 h0_1 h0_2 h0_3 h0_4 h0_5 h0_7 h1 h2 h3_0 h3_1 h3_2 h3_3 h3_4 else step_L2 F n s1 (orI .i64 s7 (shlI .i64 1 s18)) s8 (IntKind.wrap .i64 (s18+1)) s116 s117 (IntKind.wrap .i64 (s118+1)) h0_0 h0_1 h0_2 h0_3 h0_4 h0_5 h0_7 h1 h2 h3_0 h3_1 h3_2 h3_3 h3_4 else BR else BR else BR else bif decide (0≤IntKind.wrap .i64 (IntKind.wrap .i64 ((nth (0,0,0,false) s116 (Int.toNat s118)).2.1*h3_1)+(nth (0,0,0,false) s116 (Int.toNat s118)).1))&&decide (IntKind.wrap .i64 (IntKind.wrap .i64 ((nth (0,0,0,false) s116 (Int.toNat s118)).2.1*h3_1)+(nth (0,0,0,false) s116 (Int.toNat s118)).1)<(h2.length:Int)) then bif decide (Int.toNat (IntKind.wrap .i64 (IntKind.wrap .i64 ((nth (0,0,0,false) s116 (Int.toNat s118)).2.1*h3_1)+(nth (0,0,0,false) s116 (Int.toNat s118)).1))<List.length h2) then bif !(cIsOrdM (nth 0 h2 (Int.toNat (IntKind.wrap .i64 (IntKind.wrap .i64 ((nth (0,0,0,false) s116 (Int.toNat s118)).2.1*h3_1)+(nth (0,0,0,false) s116 (Int.toNat s118)).1))))).2.2 then step_L2 F n s1 s7 true (IntKind.wrap .i64 (s18+1)) s116 s117 (IntKind.wrap .i64 (s118+1)) h0_0 h0_1 h0_2 h0_3 h0_4 h0_5 h0_7 h1 h2 h3_0 h3_1 h3_2 h3_3 h3_4 else bif (cIsOrdM (nth 0 h2 (Int.toNat (IntKind.wrap .i64 (IntKind.wrap .i64 ((nth (0,0,0,false) s116 (Int.toNat s118)).2.1*h3_1)+(nth (0,0,0,false) s116 (Int.toNat s118)).1))))).1 !=(nth (0,0,0,false) s116 (Int.toNat s118)).2.2.1 then step_L2 F n s1 s7 true (IntKind.wrap .i64 (s18+1)) s116 s117 (IntKind.wrap .i64 (s118+1)) h0_0 h0_1 h0_2 h0_3 h0_4 h0_5 h0_7 h1 h2 h3_0 h3_1 h3_2 h3_3 h3_4 else step_L2 F n s1 s7 s8 (IntKind.wrap .i64 (s18+1)) s116 s117 (IntKind.wrap .i64 (s118+1)) h0_0 h0_1 h0_2 h0_3 h0_4 h0_5 h0_7 h1 h2 h3_0 h3_1 h3_2 h3_3 h3_4 else BR else BR else BR else BR else {ok:=true,val:=AV.tup [AV.sl 2 0 0 none,AV.int .i64 s7,AV.bool s8],heap:=[Blk.cells [AV.int .i64 h0_0,AV.int .i64 h0_1,AV.int .i64 h0_2,AV.ro KI h0_3,AV.ro MoK h0_4,AV.int .i64 h0_5,AV.nils,AV.int .i64 h0_7,AV.mp 1],Blk.map true false (CK.pair KI (CK.pair KI KI)) KI h1,Blk.row 0 3 KI h2]}:=by rewrite [step_L2_def];kernel_rfl
theorem step_eq (F:Nat) (k w h:Int) (cells:List Int) (ms:List Mo) (rk ins:Int) (m:List ((Int×Int×Int)×Int)) (l:List Int) (word:Int):runF (cx_step F) Tryd.f33 [AV.ptr 0 0,AV.ro KI l,AV.int .i64 word] [Blk.cells [AV.int .i64 k,AV.int .i64 w,AV.int .i64 h,AV.ro KI cells,AV.ro MoK ms,AV.int .i64 rk,AV.nils,AV.int .i64 ins,AV.mp 1],Blk.map true false (CK.pair KI (CK.pair KI KI)) KI m]=bif decide (0≤(l.length:Int))&&(decide ((l.length:Int)≤(l.length:Int))&&(decide ((l.length:Int)*8≤140737488355328)&&decide ((l.length:Int)≤4611686018427387904))) then step_L0 F F l word 0 false l (l.length:Int) 0 k w h cells ms rk ins m (List.replicate (Int.toNat (l.length:Int)) (0:Int)) k w h cells ms else BR:=by rewrite [step_L0_def];kernel_rfl
theorem leads_isOrd (s d:Int):leadsM (s,d)=((cIsOrdM s).2.2&&decide ((cIsOrdM s).1=d)):=by
 rw[cIsOrd_isOrd]
 by_cases c:9≤s∧s<17
 ·have e:isOrdM s=(Int.tmod (s-9) 4,decide (s≥13),true):=by simp only[isOrdM,decide_eq_true c,cond_true]
  rw[e]
  simp[leadsM,c]
 ·have e:isOrdM s=(0,false,false):=by simp only[isOrdM,decide_eq_false c,cond_false]
  rw[e]
  simp only[leadsM,Bool.false_and,decide_eq_false_iff_not]
  exact fun q=>c ⟨q.1,q.2.1⟩
def nearM (w h:Int) (l:List Int) (m:MM) (word x y d:Int):Int:=bif inR w h (x+dX d) (y+dY d) then nth 0 l ((y+dY d)*w+(x+dX d)).toNat else (outerBO m x y d word).1
def leakM (w h rk:Int) (rc:List Six) (m:MM) (word s x y d:Int):Bool:= !inR w h (x+dX d) (y+dY d)&&leakB (outerBO m x y d word).1 (sideN rk rc (outerBO m x y d word).1 d s) (outerBO m x y d word).2
theorem d4 {d:Int} (hd:0≤d∧d<4):Nat.ble (Nat.add (Nat.add 0 (Nat.mul (Int.toNat d) 1)) 1) 4=true:=by
 obtain rfl|rfl|rfl|rfl:d=0∨d=1∨d=2∨d=3:=by omega
 all_goals rfl
theorem dX_le {d:Int} (hd:0≤d∧d<4):(-1≤dX d∧dX d≤1)∧(-1≤dY d∧dY d≤1):=by
 obtain rfl|rfl|rfl|rfl:d=0∨d=1∨d=2∨d=3:=by omega
 all_goals decide
theorem inR_iff {w h x y:Int}:inR w h x y=true↔(0≤x∧x<w)∧(0≤y∧y<h):=by
 simp only[inR,decide_eq_true_eq,and_assoc]
theorem L1_step (F m0 n:Nat) {k w h:Int} {cells:List Int} {ms:List Mo} {rk:Int} {ins:Int} {m:MM} {l:List Int} {word:Int} {told:Int} {lk:Bool} {i s x y d:Int} {h0:List Int} {a b c e:Int} {i2:Int}
  (hw:1≤w∧w≤24) (hh:1≤h∧h≤24) (hl:(l.length:Int)=w*h) (hx:0≤x∧x<w) (hy:0≤y∧y<h) (hrk:rk=0∨rk=1) (hm:∀x y d,0≤gM m x y d) (hd:0≤d∧d<4):
  step_L1 F m0 (n+1) l word told lk i s x y l l.length i2 d k w h cells ms rk ins m h0 k w h cells ms a b c e=
  step_L1 F m0 n l word told (lk||leakM w h rk [] m word s x y d) i s x y l l.length i2 (d+1) k w h cells ms rk ins m h0 k w h cells ms
   (bif Nat.beq (Nat.add 0 (Nat.mul (Int.toNat d) 1)) 0 then nearM w h l m word x y d else a) (bif Nat.beq (Nat.add 0 (Nat.mul (Int.toNat d) 1)) 1 then nearM w h l m word x y d else b) (bif Nat.beq (Nat.add 0 (Nat.mul (Int.toNat d) 1)) 2 then nearM w h l m word x y d else c) (bif Nat.beq (Nat.add 0 (Nat.mul (Int.toNat d) 1)) 3 then nearM w h l m word x y d else e):=by
 have hq:=dX_le hd
 rw[step_L1_succ,beside_in (by omega) (by omega) hd,show oWithinM (k,w,h,cells,ms,(x+dX d,y+dY d).1,(x+dX d,y+dY d).2)=inR w h (x+dX d) (y+dY d) from rfl,d4 hd,wrap_id (n:=d+1) (by omega) (by omega),
  show besideOk (x,y,d)=true from decide_eq_true hd,show decide (d<4)=true from decide_eq_true hd.2,show decide (0≤d)=true from decide_eq_true hd.1]
 simp only[cond_true,Bool.and_self,nearM,leakM]
 cases hr:inR w h (x+dX d) (y+dY d) with
 |true=>
  obtain ⟨r1,r2⟩:=inR_iff.1 hr
  obtain ⟨i1,i2,i3,i4⟩:=idx_ok hw hh hl r1 r2
  rw[wrap_id (n:=(y+dY d)*w) (by omega) (by omega),wrap_id (n:=(y+dY d)*w+(x+dX d)) (by omega) (by omega),decide_eq_true i3,decide_eq_true i4]
  simp only[cond_true,Bool.and_self,Bool.not_true,Bool.false_and,Bool.or_false]
 | false=>
  have o1:outerBOk (k,w,h,cells,ms,rk,[],ins,m,x,y,d,word)=true:=decide_eq_true (hm x y d)
  have o2:leaksAtOk (k,w,h,cells,ms,rk,[],ins,m,x,y,d,word,s)=true:=by
   simp only[leaksAtOk,o1,Bool.true_and]
   exact decide_eq_true ⟨hd,hrk⟩
  rw[o1,o2]
  simp only[cond_true,cond_false,Bool.not_false,Bool.true_and]
  cases lk with
  |true=>rfl
  |false=>simp only[cond_false,Bool.false_or];rfl
def leak4 (w h rk:Int) (rc:List Six) (m:MM) (word s x y:Int):Bool:=leakM w h rk rc m word s x y 0||leakM w h rk rc m word s x y 1||leakM w h rk rc m word s x y 2||leakM w h rk rc m word s x y 3
def cellN (w h rk:Int) (rc:List Six) (m:MM) (l:List Int) (word s x y:Int):Int:=cNextM (rk,rc,s,nearM w h l m word x y 0,nearM w h l m word x y 1,nearM w h l m word x y 2,nearM w h l m word x y 3)
theorem L1_all (F m0 n:Nat) {k w h:Int} {cells:List Int} {ms:List Mo} {rk:Int} {ins:Int} {m:MM} {l:List Int} {word:Int} {told:Int} {lk:Bool} {i:Nat} {s x y:Int} {h0:List Int}
  (hw:1≤w∧w≤24) (hh:1≤h∧h≤24) (hl:(l.length:Int)=w*h) (hx:0≤x∧x<w) (hy:0≤y∧y<h) (hrk:rk=0∨rk=1) (hm:∀x y d,0≤gM m x y d) (hi:i<h0.length) (hi2:i<1000):
  step_L1 F m0 (n+5) l word told lk i s x y l l.length i 0 k w h cells ms rk ins m h0 k w h cells ms 0 0 0 0=
  step_L0 F m0 l word told (lk||leak4 w h rk [] m word s x y) l l.length ((i+1:Nat):Int) k w h cells ms rk ins m (h0.set i (cellN w h rk [] m l word s x y)) k w h cells ms:=by
 rw[L1_step F m0 (n+4) hw hh hl hx hy hrk hm ⟨by omega,by omega⟩,L1_step F m0 (n+3) hw hh hl hx hy hrk hm ⟨by omega,by omega⟩,L1_step F m0 (n+2) hw hh hl hx hy hrk hm ⟨by omega,by omega⟩,L1_step F m0 (n+1) hw hh hl hx hy hrk hm ⟨by omega,by omega⟩,step_L1_succ,wrap_succ (by omega)]
 rw[show ∀x,cNextOk (rk,[],x)=true from fun _=>decide_eq_true hrk]
 simp only[show (decide ((0:Int)+1+1+1+1<4))=false from rfl,cond_false,cond_true,show (0:Int)≤(i:Int) by omega,show (i:Int)<h0.length by omega,decide_true,Bool.and_self,Int.toNat_natCast,hi]
 rw[leak4,←Bool.or_assoc,←Bool.or_assoc,←Bool.or_assoc]
 rfl
def setAll (f:Nat→Int):Nat→Nat→List Int→List Int
 |0,_,a=>a
 |j+1,i,a=>setAll f j (i+1) (a.set i (f i))
def anyAll (f:Nat→Bool):Nat→Nat→Bool→Bool
 |0,_,b=>b
 |j+1,i,b=>anyAll f j (i+1) (b||f i)
def cellI (w h rk:Int) (rc:List Six) (m:MM) (l:List Int) (word:Int) (i:Nat):Int:=cellN w h rk rc m l word (nth 0 l i) ((i % w.toNat:Nat):Int) ((i / w.toNat:Nat):Int)
def leakI (w h rk:Int) (rc:List Six) (m:MM) (l:List Int) (word:Int) (i:Nat):Bool:=leak4 w h rk rc m word (nth 0 l i) ((i % w.toNat:Nat):Int) ((i / w.toNat:Nat):Int)
theorem coord {w h:Int} {len:Nat} {i:Nat} (hw:1≤w∧w≤24) (hh:1≤h∧h≤24) (hl:(len:Int)=w*h) (hi:i<len):Int.tmod (i:Int) w=((i % w.toNat:Nat):Int)∧Int.tdiv (i:Int) w=((i / w.toNat:Nat):Int)∧i % w.toNat<w.toNat∧i / w.toNat<h.toNat:=by
 obtain ⟨a,rfl⟩:∃a:Nat,w=a:=⟨w.toNat,by omega⟩
 obtain ⟨b,rfl⟩:∃b:Nat,h=b:=⟨h.toNat,by omega⟩
 simp only[Int.toNat_natCast]
 refine ⟨rfl,rfl,Nat.mod_lt _ (by omega),?_⟩
 have:len=a*b:=by exact_mod_cast hl
 exact Nat.div_lt_of_lt_mul (by rw[←this];exact hi)
theorem natb {a:Nat} {b:Int} (h:a<b.toNat):0≤(a:Int)∧(a:Int)<b:=by omega
theorem wrapN {a:Nat} {b:Int} (h:a<b.toNat) (hb:b≤1000):IntKind.wrap .i64 (a:Int)=a:=wrap_id (by omega) (by omega)
theorem L0_all (F:Nat) (hF:5≤F) {k w h:Int} {cells:List Int} {ms:List Mo} {rk:Int} {ins:Int} {m:MM} {l:List Int} {word:Int} {told:Int}
  (hw:1≤w∧w≤24) (hh:1≤h∧h≤24) (hl:(l.length:Int)=w*h) (hrk:rk=0∨rk=1) (hm:∀x y d,0≤gM m x y d):∀(j n i:Nat) (lk:Bool) (h0:List Int),i+j=l.length→j<n→h0.length=l.length→
  step_L0 F n l word told lk l l.length i k w h cells ms rk ins m h0 k w h cells ms=step_L2 F F l told (anyAll (leakI w h rk [] m l word) j i lk) 0 ms ms.length 0 k w h cells ms rk ins m (setAll (cellI w h rk [] m l word) j i h0) k w h cells ms
 |j,0,i,_,_,_,h,_=>by omega
 |0,n+1,i,lk,h0,hi,_,_=>by
  rw[step_L0_succ]
  simp only[show ¬((i:Int)<l.length) by omega,decide_false,cond_false,anyAll,setAll]
 |j+1,n+1,i,lk,h0,hi,hn,h0l=>by
  have hlen:w*h≤24*24:=Int.mul_le_mul hw.2 hh.2 (by omega) (by omega)
  have hi':i<l.length:=by omega
  obtain ⟨c1,c2,c3,c4⟩:=coord hw hh hl hi'
  have ih:=L0_all F hF (k:=k) (cells:=cells) (ms:=ms) (ins:=ins) (word:=word) (told:=told) hw hh hl hrk hm j n (i+1) (lk||leakI w h rk [] m l word i) (h0.set i (cellI w h rk [] m l word i)) (by omega) (by omega) (by rw[List.length_set];exact h0l)
  obtain ⟨f,rfl⟩:∃f,F=f+5:=⟨F-5,by omega⟩
  rw[step_L0_succ,c1,c2,Int.toNat_natCast,wrapN c4 (by omega)]
  simp only[show ((i:Int)<l.length) by omega,show (0:Int)≤(i:Int) by omega,decide_true,Bool.and_self,cond_true,show (w !=0)=true by simp;omega]
  rw[L1_all (f+5) n f hw hh hl (natb c3) (natb c4) hrk hm (by omega) (by omega)]
  exact ih
def toldL (w:Int) (l:List Int):List Mo→Nat→Int→Int
 |[],_,t=>t
 |m::r,a,t=>bif !m.2.2.2 then toldL w l r a t else toldL w l r (a+1) (bif (cIsOrdM (nth 0 l (m.2.1*w+m.1).toNat)).2.1 then orI .i64 t (shlI .i64 1 a) else t)
def badL (w:Int) (l:List Int) (ms:List Mo):Bool:=ms.any fun m=>m.2.2.2&& !leadsM (nth 0 l (m.2.1*w+m.1).toNat,m.2.2.1)
def mIn (w h:Int) (m:Mo):Bool:=inR w h m.1 m.2.1
def bodyH (k w h:Int) (cells:List Int) (ms:List Mo) (rk ins:Int) (m:MM):List Blk:=
 [Blk.cells [AV.int .i64 k,AV.int .i64 w,AV.int .i64 h,AV.ro KI cells,AV.ro MoK ms,AV.int .i64 rk,AV.nils,AV.int .i64 ins,AV.mp 1],Blk.map true false (CK.pair KI (CK.pair KI KI)) KI m]
def stR (H:List Blk) (l:List Int) (t:Int) (b:Bool):Res:={ok:=true,val:=AV.tup [AV.sl 2 0 0 none,AV.int .i64 t,AV.bool b],heap:=H++[Blk.row 0 3 KI l]}
theorem L2_all (F:Nat) {k w h:Int} {cells:List Int} {ms:List Mo} {rk ins:Int} {m:MM} {l l2:List Int}
  (hw:1≤w∧w≤24) (hh:1≤h∧h≤24) (hl:(l.length:Int)=w*h) (hl2:l2.length=l.length) (hms:ms.all (mIn w h)=true) (hx:ms.length<1000):∀(j n i a:Nat) (t:Int) (lk:Bool),i+j=ms.length→j<n→a≤i→
  step_L2 F n l t lk a ms ms.length i k w h cells ms rk ins m l2 k w h cells ms=stR (bodyH k w h cells ms rk ins m) l2 (toldL w l (ms.drop i) a t) (lk||badL w l2 (ms.drop i))
 |j,0,i,_,_,_,_,h,_=>by omega
 |0,n+1,i,a,t,lk,hi,_,_=>by
  rw[step_L2_succ,drop_len ms (by omega)]
  simp only[show ¬((i:Int)<ms.length) by omega,decide_false,cond_false,toldL,badL,List.any_nil,Bool.or_false]
  rfl
 | j+1,n+1,i,a,t,lk,hi,hn,ha=>by
  have ih:=L2_all F (k:=k) (cells:=cells) (rk:=rk) (ins:=ins) (m:=m) (l:=l) (l2:=l2) hw hh hl hl2 hms hx j n (i+1)
  have hq:mIn w h (nth (0,0,0,false) ms i)=true:=List.all_eq_true.1 hms _ (nth_mem (0,0,0,false) ms (show i<ms.length by omega))
  rw[step_L2_succ,drop_nth (0,0,0,false) ms (show i<ms.length by omega),Int.toNat_natCast,wrap_succ (i:=i) (by omega),wrap_succ (i:=a) (by omega),hl2]
  revert hq
  generalize nth (0,0,0,false) ms i=q
  obtain ⟨x,y,d,o⟩:=q
  intro hq
  obtain ⟨r1,r2⟩:=inR_iff.1 hq
  have r3:0≤x∧x<w:=r1
  have r4:0≤y∧y<h:=r2
  obtain ⟨i1,i2,i3,i4⟩:=idx_ok hw hh hl r3 r4
  have i5:(y*w+x).toNat<l.length:=by omega
  simp only[show (i:Int)<ms.length by omega,show (0:Int)≤i by omega,show (0:Int)≤a by omega,decide_true,Bool.and_self,cond_true,wrap_id (n:=y*w) (by omega) (by omega),wrap_id (n:=y*w+x) (by omega) (by omega),i3,i4,i5,toldL,badL,List.any_cons,leads_isOrd]
  cases o with
  |false=>
   simp only[Bool.not_false,cond_true,Bool.false_and,Bool.false_or]
   refine (ih a t lk (by omega) (by omega) (by omega)).trans ?_
   simp only[badL,leads_isOrd]
  | true=>
   simp only[Bool.not_true,cond_false,Bool.true_and,beq_ne]
   cases (cIsOrdM (nth 0 l (y*w+x).toNat)).2.1<;>cases (cIsOrdM (nth 0 l2 (y*w+x).toNat)).2.2<;>cases decide ((cIsOrdM (nth 0 l2 (y*w+x).toNat)).1=d)<;>simp only[cond_true,cond_false,Bool.not_true,Bool.not_false,Bool.and_true,Bool.and_false,Bool.true_or,Bool.false_or,Bool.or_true]
   all_goals
    refine (ih (a+1) _ _ (by omega) (by omega) (by omega)).trans ?_
    simp only[badL,leads_isOrd,Bool.true_or,Bool.or_true]
theorem setAll_len (f:Nat→Int):∀(j i:Nat) (a:List Int),(setAll f j i a).length=a.length
 |0,_,_=>rfl
 |j+1,i,a=>by rw[setAll,setAll_len,List.length_set]
abbrev StZ:=Int×Int×Int×List Int×List Mo×Int×Int×MM×List Int×Int
def stepOk:StZ→Bool:=fun (k,w,h,cells,ms,rk,ins,m,l,word)=>
 decide ((1≤w∧w≤24)∧(1≤h∧h≤24)∧(l.length:Int)=w*h∧(rk=0∨rk=1)∧ms.length<1000)&&(ms.all (mIn w h)&&m.all fun e=>decide (0≤e.2))
def afterM (w h rk:Int) (m:MM) (l:List Int) (word:Int):List Int:=setAll (cellI w h rk [] m l word) l.length 0 (List.replicate l.length 0)
def stepM:StZ→List Int×Int×Bool:=fun (k,w,h,cells,ms,rk,ins,m,l,word)=>
 (afterM w h rk m l word,toldL w l ms 0 0,anyAll (leakI w h rk [] m l word) l.length 0 false||badL w (afterM w h rk m l word) ms)
def stepFu:StZ→Nat:=fun (k,w,h,cells,ms,rk,ins,m,l,word)=>l.length+ms.length+5
theorem gM_nonneg:∀(m:MM),(m.all fun e=>decide (0≤e.2))=true→∀x y d,0≤gM m x y d
 |[],_,_,_,_=>Int.le_refl 0
 |e::m,h,x,y,d=>by
  simp only[List.all_cons,Bool.and_eq_true,decide_eq_true_eq] at h
  show 0≤(bif eqK K3 ((x,y,d):Int×Int×Int) e.1 then e.2 else gM m x y d)
  cases eqK K3 ((x,y,d):Int×Int×Int) e.1
  ·exact gM_nonneg m h.2 x y d
  ·exact h.1
theorem step_run {k w h:Int} {cells:List Int} {ms:List Mo} {rk ins:Int} {m:MM} {l:List Int} {word:Int} (hk:stepOk (k,w,h,cells,ms,rk,ins,m,l,word)=true):
  runF (cx_step (stepFu (k,w,h,cells,ms,rk,ins,m,l,word))) Tryd.f33 [AV.ptr 0 0,AV.ro KI l,AV.int .i64 word] (bodyH k w h cells ms rk ins m)=
  stR (bodyH k w h cells ms rk ins m) (stepM (k,w,h,cells,ms,rk,ins,m,l,word)).1 (stepM (k,w,h,cells,ms,rk,ins,m,l,word)).2.1 (stepM (k,w,h,cells,ms,rk,ins,m,l,word)).2.2:=by
 simp only[stepOk,Bool.and_eq_true,decide_eq_true_eq] at hk
 obtain ⟨⟨hw,hh,hl,hrk,hx⟩,hms,hm⟩:=hk
 have hlen:w*h≤24*24:=Int.mul_le_mul hw.2 hh.2 (by omega) (by omega)
 refine (step_eq ..).trans ?_
 have a0:=L0_all (l.length+ms.length+5) (by omega) (k:=k) (cells:=cells) (ms:=ms) (ins:=ins) (word:=word) (told:=0) hw hh hl hrk (gM_nonneg m hm) l.length (l.length+ms.length+5) 0 false (List.replicate l.length 0) (by omega) (by omega) (by simp)
 have a1:=L2_all (l.length+ms.length+5) (k:=k) (cells:=cells) (rk:=rk) (ins:=ins) (m:=m) (l2:=afterM w h rk m l word) hw hh hl (by rw[afterM,setAll_len,List.length_replicate]) hms hx ms.length (l.length+ms.length+5) 0 0 0 (anyAll (leakI w h rk [] m l word) l.length 0 false) (by omega) (by omega) (by omega)
 rw[List.drop_zero] at a1
 simp only[show (0:Int)≤(l.length:Int) by omega,Int.le_refl,show (l.length:Int)*8≤140737488355328 by omega,show (l.length:Int)≤4611686018427387904 by omega,decide_true,Bool.and_self,cond_true,Int.toNat_natCast]
 exact a0.trans a1
def bodyC:List Blk→Bool
 |[.cells [c0,c1,c2,c3,c4,c5,c6,c7,c8],b]=>isInt .i64 c0&&(isInt .i64 c1&&(isInt .i64 c2&&(isRoX (.int .i64) c3&&(isRoX MoK c4&&(isInt .i64 c5&&(isNilsX c6&&(isInt .i64 c7&&(isMp1 c8&&isMapX K3 (.int .i64) b))))))))
 |_=>false
abbrev BX:=Int×Int×Int×List Int×List Mo×Int×Int×MM
def bodyX:List Blk→BX
 |[.cells [c0,c1,c2,c3,c4,c5,c6,c7,c8],b]=>(Go.Abs.asInt c0,Go.Abs.asInt c1,Go.Abs.asInt c2,asL (.int .i64) c3,asL MoK c4,Go.Abs.asInt c5,Go.Abs.asInt c7,asMapX K3 (.int .i64) b)
 |_=>(0,0,0,[],[],0,0,[])
theorem bodyC_eq {H:List Blk} (h:bodyC H=true):H=bodyH (bodyX H).1 (bodyX H).2.1 (bodyX H).2.2.1 (bodyX H).2.2.2.1 (bodyX H).2.2.2.2.1 (bodyX H).2.2.2.2.2.1 (bodyX H).2.2.2.2.2.2.1 (bodyX H).2.2.2.2.2.2.2:=by
 unfold bodyC at h
 split at h
 ·rename_i c0 c1 c2 c3 c4 c5 c6 c7 c8 b
  simp only[Bool.and_eq_true] at h
  obtain ⟨h0,h1,h2,h3,h4,h5,h6,h7,h8,h9⟩:=h
  have e:=isMapX_eq h9
  simp only[bodyX,bodyH]
  rw[←isI_eq h0,←isI_eq h1,←isI_eq h2,←isRoX_eq h3,←isRoX_eq h4,←isI_eq h5,←isI_eq h7,←isNilsX_eq h6,←isMp1_eq h8]
  exact congrArg (fun q=>[_,q]) e
 ·cases h
def zOf (H:List Blk) (l:List Int) (word:Int):StZ:=((bodyX H).1,(bodyX H).2.1,(bodyX H).2.2.1,(bodyX H).2.2.2.1,(bodyX H).2.2.2.2.1,(bodyX H).2.2.2.2.2.1,(bodyX H).2.2.2.2.2.2.1,(bodyX H).2.2.2.2.2.2.2,l,word)
def stepSpec (vs:List AV) (Hi:List Blk):Res:=
 match vs with
 | [a,b,c]=>⟨bodyC Hi&&(isPtr0 a&&(isRoX (.int .i64) b&&(isInt .i64 c&&stepOk (zOf Hi (asL (.int .i64) b) (Go.Abs.asInt c))))),
   .tup [.ro (.int .i64) (stepM (zOf Hi (asL (.int .i64) b) (Go.Abs.asInt c))).1, .int .i64 (stepM (zOf Hi (asL (.int .i64) b) (Go.Abs.asInt c))).2.1, .bool (stepM (zOf Hi (asL (.int .i64) b) (Go.Abs.asInt c))).2.2],
   Hi++[.fro 0 3 (.int .i64) (stepM (zOf Hi (asL (.int .i64) b) (Go.Abs.asInt c))).1]⟩
 |_=> .bad
def stepFuS (vs:List AV) (Hi:List Blk):Nat:=match vs with|[a,b,c]=>stepFu (zOf Hi (asL (.int .i64) b) (Go.Abs.asInt c))|_=>0
theorem stepSpec_ok {vs:List AV} {Hi:List Blk} (h:(stepSpec vs Hi).ok=true):stepSpec vs Hi=frzR (runF (cx_step (stepFuS vs Hi)) Tryd.f33 vs Hi):=by
 unfold stepSpec at h
 split at h
 ·rename_i a b c
  simp only[Bool.and_eq_true] at h
  obtain ⟨h0,h1,h2,h3,h4⟩:=h
  have e0:=bodyC_eq h0
  have e1:=isPtr0_eq h1
  have e2:=isRoX_eq h2
  have e3:=isI_eq h3
  have hr:=step_run h4
  simp only[stepSpec,stepFuS,h0,h1,h2,h3,h4,Bool.and_self]
  generalize asL (.int .i64) b=l at*
  generalize Go.Abs.asInt c=word at*
  subst e1 e2 e3
  rw[show bodyH (bodyX Hi).1 (bodyX Hi).2.1 (bodyX Hi).2.2.1 (bodyX Hi).2.2.2.1 (bodyX Hi).2.2.2.2.1 (bodyX Hi).2.2.2.2.2.1 (bodyX Hi).2.2.2.2.2.2.1 (bodyX Hi).2.2.2.2.2.2.2=Hi from e0.symm] at hr
  rw[show runF (cx_step (stepFu (zOf Hi l word))) Tryd.f33 [AV.ptr 0 0,AV.ro KI l,AV.int .i64 word] Hi=_ from hr]
  show _=frzR (stR Hi (stepM (zOf Hi l word)).1 (stepM (zOf Hi l word)).2.1 (stepM (zOf Hi l word)).2.2)
  generalize stepM (zOf Hi l word)=q
  rw[e0]
  rfl
 ·cases h
theorem bodyC_len {H:List Blk} (h:bodyC H=true):H.length=2:=by rw[bodyC_eq h];rfl
theorem stepSpec_len {vs:List AV} {Hi:List Blk} (h:(stepSpec vs Hi).ok=true):Hi.length=2:=by
 unfold stepSpec at h
 split at h
 ·simp only[Bool.and_eq_true] at h
  exact bodyC_len h.1
 ·cases h
noncomputable def tbSNB:=addC 33 stepSpec tbSN
noncomputable def tbKSNB:KT:=tbKSN
theorem tabSNB:Tab Tryd.prog tbSNB cxMd tbKSNB:=Tab.addF tabSN tabSN (fn:=Tryd.f33) (by kernel_rfl) (by kernel_rfl) (by kernel_rfl) (by kernel_rfl) (cx_step 0).live stepFuS fun vs Hi h=>by
 rw[stepSpec_len h]
 exact stepSpec_ok h
end Go.Proofs.YtiglikocfjhkcaaDoor
