/- What stands outside an organ: newBody's map and the document's mouths say the same. -/
import Derived.Test.YtiglikocfjhkcaaGreatDoorSK
set_option linter.all false
set_option linter.unusedVariables false
set_option linter.unusedSimpArgs false
open Go Go.Abs Go.Proofs
namespace Go.Abs
theorem hasM_insM {V:Type} (kk:CK) (hk:keyC kk=true):∀(m:List (CT kk×V)) (k:CT kk) (v:V) (k':CT kk),hasM kk (insM kk m k v) k'=(eqK kk k' k||hasM kk m k')
 |[],k,v,k'=>by simp[insM,hasM]
 | p::m,k,v,k'=>by
  have ih:=hasM_insM kk hk m k v k'
  cases h:eqK kk k p.1 with
  |true=>
   have e:=(eqK_spec kk k p.1 hk).1 h
   simp only[insM,h,cond_true,hasM]
   rw[e]
   cases eqK kk k' p.1<;>simp
  |false=>
   simp only[insM,h,cond_false,hasM,ih]
   cases eqK kk k' p.1<;>cases eqK kk k' k<;>simp
end Go.Abs
namespace Go.Proofs.YtiglikocfjhkcaaGreatDoor
def look (x y d:Int):List Mo→Nat→Nat→Option (Bool×Nat)
 |[],_,_=>none
 |m::r,a,b=>bif sameM m (x,y,d,true) then some (m.2.2.2,bif m.2.2.2 then a else b) else bif m.2.2.2 then look x y d r (a+1) b else look x y d r a (b+1)
def lookG (q:Option (Bool×Nat)) (v:Int):Int:=match q with
 |none=>v
 |some (true,a)=>100+a
 |some (false,b)=>b
def dist:List Mo→Prop
 |[]=>True
 |m::r=>(∀n∈r,sameM m n=false)∧dist r
theorem sameM_eq {a b c:Mo} (h:sameM a b=true):sameM a c=sameM b c:=by
 simp only[sameM,Bool.and_eq_true,decide_eq_true_eq] at h
 simp only[sameM,h.1,h.2.1,h.2.2]
theorem sameM_symm {a b:Mo}:sameM a b=sameM b a:=by
 simp only[sameM]
 rw[show decide (a.1=b.1)=decide (b.1=a.1) from decide_eq_decide.2 eq_comm,show decide (a.2.1=b.2.1)=decide (b.2.1=a.2.1) from decide_eq_decide.2 eq_comm,show decide (a.2.2.1=b.2.2.1)=decide (b.2.2.1=a.2.2.1) from decide_eq_decide.2 eq_comm]
theorem look_none {x y d:Int}:∀(l:List Mo) (a b:Nat),(∀n∈l,sameM n (x,y,d,true)=false)→look x y d l a b=none
 |[],_,_,_=>rfl
 |m::r,a,b,h=>by
  simp only[look,h m (by simp),cond_false,look_none r _ _ (fun n hn=>h n (by simp[hn]))]
  cases m.2.2.2<;>rfl
theorem bodyMap_get (x y d:Int):∀(l:List Mo) (a b:Nat) (m:MM),dist l→gM (bodyMap l a b m) x y d=lookG (look x y d l a b) (gM m x y d)∧hM (bodyMap l a b m) x y d=((look x y d l a b).isSome||hM m x y d)
 |[],a,b,m,_=>⟨rfl,rfl⟩
 | (u,v,e,o)::r,a,b,m,h=>by
  have key:∀(n:Int),gM (insM K3 m ((u,v,e):Int×Int×Int) n) x y d=(bif sameM (u,v,e,o) (x,y,d,true) then n else gM m x y d)∧hM (insM K3 m ((u,v,e):Int×Int×Int) n) x y d=(sameM (u,v,e,o) (x,y,d,true)||hM m x y d):=fun n=>by
   have e1:=getM_insM (V:=Int) K3 rfl 0 m ((u,v,e):Int×Int×Int) n ((x,y,d):Int×Int×Int)
   have e2:=hasM_insM (V:=Int) K3 rfl m ((u,v,e):Int×Int×Int) n ((x,y,d):Int×Int×Int)
   have e3:eqK K3 ((x,y,d):Int×Int×Int) ((u,v,e):Int×Int×Int)=sameM (u,v,e,o) (x,y,d,true):=by
    rw[sameM_symm];rfl
   rw[e3] at e1 e2
   exact ⟨e1,e2⟩
  have two:∀(a' b':Nat) (n:Int) (q:Option (Bool×Nat)),(sameM (u,v,e,o) (x,y,d,true)=true→lookG q (gM m x y d)=n∧q.isSome=true)→(sameM (u,v,e,o) (x,y,d,true)=false→q=look x y d r a' b')→
    gM (bodyMap r a' b' (insM K3 m ((u,v,e):Int×Int×Int) n)) x y d=lookG q (gM m x y d)∧hM (bodyMap r a' b' (insM K3 m ((u,v,e):Int×Int×Int) n)) x y d=(q.isSome||hM m x y d):=fun a' b' n q h1 h2=>by
   obtain ⟨i1,i2⟩:=bodyMap_get x y d r a' b' (insM K3 m ((u,v,e):Int×Int×Int) n) h.2
   rw[i1,i2,(key n).1,(key n).2]
   cases hs:sameM (u,v,e,o) (x,y,d,true) with
   | true=>
    have hn:look x y d r a' b'=none:=look_none r a' b' fun z hz=>by
     have:=h.1 z hz
     rw[sameM_symm,←sameM_eq hs]
     exact (sameM_symm.trans (sameM_symm.trans this))
    rw[hn,(h1 hs).1,(h1 hs).2]
    exact ⟨rfl,rfl⟩
   |false=>
    rw[h2 hs]
    exact ⟨rfl,rfl⟩
  cases o with
  |true=>
   simp only[bodyMap,cond_true,look]
   refine two (a+1) b _ _ (fun hs=> ?_) (fun hs=> ?_)
   ·rw[hs];exact ⟨rfl,rfl⟩
   ·rw[hs];rfl
  |false=>
   simp only[bodyMap,cond_false,look]
   refine two a (b+1) _ _ (fun hs=> ?_) (fun hs=> ?_)
   ·rw[hs];exact ⟨rfl,rfl⟩
   ·rw[hs];rfl
def lookW (word d:Int):Option (Bool×Nat)→Int
 |none=>0
 |some (true,_)=>ordinaryM d false
 |some (false,b)=>ordinaryM (Int.tmod (IntKind.wrap .i64 (d+2)) 4) (bitM word b)
theorem meetsL_look (word x y d px py:Int):∀(l:List Mo) (a b:Nat),(∀m∈l,(decide ((outerM m).1=px)&&decide ((outerM m).2=py))=sameM m (x,y,d,true))→meetsL word px py l b=lookW word d (look x y d l a b)
 |[],_,_,_=>rfl
 | m::r,a,b,h=>by
  have ih:=fun a b=>meetsL_look word x y d px py r a b (fun n hn=>h n (by simp[hn]))
  simp only[meetsL,look,h m (by simp)]
  cases hs:sameM m (x,y,d,true) with
  | true=>
   have hd:m.2.2.1=d:=by
    simp only[sameM,Bool.and_eq_true,decide_eq_true_eq] at hs
    exact hs.2.2
   simp only[cond_true,hd]
   cases m.2.2.2<;>rfl
  |false=>
   simp only[cond_false]
   cases m.2.2.2
   ·exact ih a (b+1)
   ·exact ih (a+1) b
theorem look_lt {x y d:Int}:∀(l:List Mo) (a b:Nat) {o:Bool} {k:Nat},look x y d l a b=some (o,k)→k<a+b+l.length
 |[],a,b,_,_,h=>by simp[look] at h
 | m::r,a,b,o,k,h=>by
  simp only[look] at h
  cases hs:sameM m (x,y,d,true) with
  |true=>
   rw[hs] at h
   simp only[cond_true,Option.some.injEq,Prod.mk.injEq] at h
   obtain ⟨_,h⟩:=h
   subst h
   cases m.2.2.2<;>simp<;>omega
  | false=>
   rw[hs] at h
   simp only[cond_false] at h
   cases ho:m.2.2.2 with
   |true=>
    rw[ho] at h
    have:=look_lt r (a+1) b h
    simp;omega
   |false=>
    rw[ho] at h
    have:=look_lt r a (b+1) h
    simp;omega
theorem outer_meets {ms:List Mo} {x y d px py word:Int} (hd:dist ms) (hl:ms.length<100) (hp:∀m∈ms,(decide ((outerM m).1=px)&&decide ((outerM m).2=py))=sameM m (x,y,d,true)):
  outerBO (bodyMap ms 0 0 []) x y d word=(meetsL word px py ms 0,(look x y d ms 0 0).isSome):=by
 obtain ⟨h1,h2⟩:=bodyMap_get x y d ms 0 0 [] hd
 rw[meetsL_look word x y d px py ms 0 0 hp]
 simp only[outerBO,h1,h2]
 rw[show hM [] x y d=false from rfl,Bool.or_false]
 cases hk:look x y d ms 0 0 with
 |none=>rfl
 | some q=>
  obtain ⟨o,k⟩:=q
  have:=look_lt _ _ _ hk
  cases o with
  |true=>
   rw[show lookG (some (true,k)) (gM [] x y d)=100+(k:Int) from rfl,decide_eq_true (show (100+(k:Int))≥100 by omega)]
   rfl
  |false=>
   rw[show lookG (some (false,k)) (gM [] x y d)=(k:Int) from rfl,decide_eq_false (show ¬((k:Int))≥100 by omega)]
   rfl
def inR (w h x y:Int):Bool:=decide (0≤x∧x<w∧0≤y∧y<h)
theorem inR_within (k w h:Int) (cells:List Int) (ms:List Mo) (x y:Int):withinM (k,w,h,cells,ms,x,y)=inR w h x y:=rfl
def dX (d:Int):Int:=nth 0 [1,0, -1,0] d.toNat
def dY (d:Int):Int:=nth 0 [0, -1,0,1] d.toNat
theorem beside_in {x y d:Int} (hx: -100≤x∧x<100) (hy: -100≤y∧y<100) (hd:0≤d∧d<4):besideM (x,y,d)=(x+dX d,y+dY d):=by
 obtain rfl|rfl|rfl|rfl:d=0∨d=1∨d=2∨d=3:=by omega
 all_goals
  simp only[besideM,dX,dY,nth]
  refine Prod.ext ?_ ?_
  ·exact wrap_id (by simp only[Int.toNat,nth];omega) (by simp only[Int.toNat,nth];omega)
  ·exact wrap_id (by simp only[Int.toNat,nth];omega) (by simp only[Int.toNat,nth];omega)
theorem geo {kind w h x y d:Int} {cells:List Int} {ms:List Mo} {m:Mo} (hw:1≤w∧w≤24) (hh:1≤h∧h≤24) (hx:0≤x∧x<w) (hy:0≤y∧y<h) (hd:0≤d∧d<4) (hm:mouthP kind w h cells ms m=true) (ho:inR w h (x+dX d) (y+dY d)=false):
  (decide ((outerM m).1=x+dX d)&&decide ((outerM m).2=y+dY d))=sameM m (x,y,d,true):=by
 obtain ⟨a,b,e,o⟩:=m
 simp only[mouthP,inR_within,Bool.and_eq_true,decide_eq_true_eq,Bool.not_eq_true'] at hm
 obtain ⟨he,ha,hb⟩:=hm
 simp only[inR,decide_eq_true_eq] at ha
 rw[beside_in (by omega) (by omega) he] at hb
 simp only[inR,decide_eq_false_iff_not] at ho hb
 rw[Bool.eq_iff_iff]
 simp only[Bool.and_eq_true,decide_eq_true_eq,sameM]
 rw[show outerM (a,b,e,o)=(a+dX e,b+dY e) from beside_in (by omega) (by omega) he]
 have c0:dX 0=1:=rfl
 have c1:dX 1=0:=rfl
 have c2:dX 2= -1:=rfl
 have c3:dX 3=0:=rfl
 have e0:dY 0=0:=rfl
 have e1:dY 1= -1:=rfl
 have e2:dY 2=0:=rfl
 have e3:dY 3=1:=rfl
 obtain rfl|rfl|rfl|rfl:d=0∨d=1∨d=2∨d=3:=by omega
 all_goals
  obtain rfl|rfl|rfl|rfl:e=0∨e=1∨e=2∨e=3:=by omega
 all_goals
  simp only[c0,c1,c2,c3,e0,e1,e2,e3] at ho hb⊢
  first|omega|(constructor<;>intro q<;>simp only[and_true] at q⊢ <;>omega)
end Go.Proofs.YtiglikocfjhkcaaGreatDoor
