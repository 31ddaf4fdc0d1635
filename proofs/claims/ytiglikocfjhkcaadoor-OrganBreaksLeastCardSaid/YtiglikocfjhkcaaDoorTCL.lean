/- The document's table of situations. -/
import Derived.Test.YtiglikocfjhkcaaDoorTB
import Derived.Test.YtiglikocfjhkcaaDoorA27
set_option linter.all false
set_option linter.unusedVariables false
set_option linter.unusedSimpArgs false
open Go Go.Abs Go.Proofs
namespace Go.Proofs.YtiglikocfjhkcaaDoor
abbrev SitK:CK:=CK.pair KL (CK.pair KI KL)
def eqSit (a b:Sit):Bool:=decide (a.2.1=b.2.1)&&(decide (a.2.2=b.2.2)&&decide (a.1=b.1))
def probe (list:List Sit) (slots:List Int) (s:Sit):Nat→Nat→Option Bool
 |0,_=>none
 |n+1,i=>bif decide (nth 0 slots i=0) then some false else bif eqSit (nth ([],0,[]) list (nth 0 slots i-1).toNat) s then some true else probe list slots s n ((i+1) % slots.length)
def gap (slots:List Int):Nat→Nat→Option Nat
 |0,_=>none
 |n+1,i=>bif decide (nth 0 slots i=0) then some i else gap slots n ((i+1) % slots.length)
def startOf (slots:List Int) (s:Sit):Nat:=(hashM s).toNat % slots.length
def sitFit (s:Sit):Bool:=decide (s.1.length<big∧s.2.2.length<big)
def tabWf (list:List Sit) (slots:List Int):Bool:=decide (1≤slots.length∧slots.length<1000000∧list.length<1000000)&&(slots.all (fun v=>decide (0≤v∧v≤(list.length:Int)))&&list.all sitFit)
abbrev HaZ:=List Sit×List Int×List Int×Int×List Int
def hasOk:HaZ→Bool:=fun (list,slots,s)=>tabWf list slots&&(sitFit s&&(probe list slots s slots.length (startOf slots s)).isSome)
def hasM:HaZ→Bool:=fun (list,slots,s)=>(probe list slots s slots.length (startOf slots s)).getD false
def putIdx (slots:List Int) (s:Sit):Nat:=(gap slots slots.length (startOf slots s)).getD 0
def putSlots (list:List Sit) (slots:List Int) (s:Sit):List Int:=slots.set (putIdx slots s) ((list.length+1:Nat):Int)
def putOk:HaZ→Bool:=fun (list,slots,s)=>tabWf list slots&&(sitFit s&&(gap slots slots.length (startOf slots s)).isSome)
theorem eqSit_iff {a b:Sit}:eqSit a b=true↔a=b:=by
 obtain ⟨a1,a2,a3⟩:=a
 obtain ⟨b1,b2,b3⟩:=b
 simp only[eqSit,Bool.and_eq_true,decide_eq_true_eq,Prod.mk.injEq]
 exact ⟨fun h=>⟨h.2.2,h.1,h.2.1⟩,fun h=>⟨h.2.1,h.2.2,h.1⟩⟩
def zeros (l:List Int):Nat:=l.countP (fun v=>decide (v=0))
structure TabI (list:List Sit) (slots:List Int):Prop where
 size:1≤slots.length∧slots.length<1000000∧list.length<1000000
 room:zeros slots+list.length=slots.length
 less:list.length<slots.length
 val:∀v∈slots,0≤v∧v≤(list.length:Int)
 fit:∀s∈list,sitFit s=true
 found:∀j,j<list.length→∃d,d<slots.length∧nth 0 slots ((startOf slots (nth ([],0,[]) list j)+d) % slots.length)=((j+1:Nat):Int)∧
  ∀d',d'<d→nth 0 slots ((startOf slots (nth ([],0,[]) list j)+d') % slots.length)≠0
theorem TabI.wf {list:List Sit} {slots:List Int} (t:TabI list slots):tabWf list slots=true:=by
 simp only[tabWf,Bool.and_eq_true,decide_eq_true_eq]
 exact ⟨t.size,List.all_eq_true.2 fun v hv=>decide_eq_true (t.val v hv),List.all_eq_true.2 t.fit⟩
theorem TabI.zero {list:List Sit} {slots:List Int} (t:TabI list slots):∃z,z<slots.length∧nth 0 slots z=0:=by
 have h:0<zeros slots:=by have:=t.room;have:=t.less;omega
 obtain ⟨v,hv,hz⟩:=List.countP_pos_iff.1 h
 obtain ⟨i,hi,e⟩:=List.getElem_of_mem hv
 exact ⟨i,hi,by rw[nth_lt _ _ _ hi,e];exact of_decide_eq_true hz⟩
theorem reach {n h z:Nat} (hh:h<n) (hz:z<n):∃d,d<n∧(h+d) % n=z:=by
 by_cases c:h≤z
 ·exact ⟨z-h,by omega,by rw[show h+(z-h)=z by omega,Nat.mod_eq_of_lt hz]⟩
 ·refine ⟨z+n-h,by omega,?_⟩
  rw[show h+(z+n-h)=z+n by omega,Nat.add_mod_right,Nat.mod_eq_of_lt hz]
theorem next_place (a d n:Nat):((a+d) % n+1) % n=(a+(d+1)) % n:=by
 rw[Nat.mod_add_mod,Nat.add_assoc]
theorem gap_spec {slots:List Int} (a:Nat):∀(n d z:Nat),d≤z→z<d+n→nth 0 slots ((a+z) % slots.length)=0→∃i e,gap slots n ((a+d) % slots.length)=some i∧i=(a+e) % slots.length∧d≤e∧e≤z∧nth 0 slots i=0∧∀e',d≤e'→e'<e→nth 0 slots ((a+e') % slots.length)≠0
 |0,d,z,h1,h2,_=>by omega
 | n+1,d,z,h1,h2,h3=>by
  simp only[gap]
  by_cases c:nth 0 slots ((a+d) % slots.length)=0
  ·rw[decide_eq_true c]
   exact ⟨_,d,rfl,rfl,Nat.le_refl _,h1,c,fun e' q1 q2=>by omega⟩
  ·rw[decide_eq_false c,cond_false,next_place]
   have hd:d≠z:=fun h=>c (h▸h3)
   obtain ⟨i,e,g1,g2,g3,g4,g5,g6⟩:=gap_spec a n (d+1) z (by omega) (by omega) h3
   refine ⟨i,e,g1,g2,by omega,g4,g5,fun e' q1 q2=> ?_⟩
   by_cases h:e'=d
   ·rw[h];exact c
   ·exact g6 e' (by omega) q2
theorem probe_spec {list:List Sit} {slots:List Int} {s:Sit} (a:Nat) (hv:∀v∈slots,0≤v∧v≤(list.length:Int)) (hs:1≤slots.length):∀(n d z:Nat),d≤z→z<d+n→nth 0 slots ((a+z) % slots.length)=0→
  ∃b,probe list slots s n ((a+d) % slots.length)=some b∧(b=true→s∈list)∧(b=false→∀e j,d≤e→j<list.length→nth 0 slots ((a+e) % slots.length)=((j+1:Nat):Int)→(∀e',e'<e→nth 0 slots ((a+e') % slots.length)≠0)→nth ([],0,[]) list j≠s)
 |0,d,z,h1,h2,_=>by omega
 | n +1,d,z,h1,h2,h3=>by
  simp only[probe]
  by_cases c:nth 0 slots ((a+d) % slots.length)=0
  ·rw[decide_eq_true c]
   refine ⟨false,rfl,fun h=>absurd h (by decide),fun _ e j q1 q2 q3 q4=> ?_⟩
   by_cases h:e=d
   ·rw[h,c] at q3;omega
   ·exact absurd c (q4 d (by omega))
  ·have hm:(a+d) % slots.length<slots.length:=Nat.mod_lt _ (by omega)
   have hvv:=hv _ (nth_mem 0 slots hm)
   rw[decide_eq_false c,cond_false]
   have hlt:(nth 0 slots ((a+d) % slots.length)-1).toNat<list.length:=by omega
   cases he:eqSit (nth ([],0,[]) list (nth 0 slots ((a+d) % slots.length)-1).toNat) s with
   |true=>
    refine ⟨true,rfl,fun _=> ?_,fun h=>absurd h (by decide)⟩
    rw[←eqSit_iff.1 he]
    exact nth_mem _ list hlt
   | false=>
    rw[cond_false,next_place]
    have hd:d≠z:=fun h=>c (h▸h3)
    obtain ⟨b,g1,g2,g3⟩:=probe_spec a hv hs n (d+1) z (by omega) (by omega) h3
    refine ⟨b,g1,g2,fun hb e j q1 q2 q3 q4=> ?_⟩
    by_cases h:e=d
    ·intro hj
     rw[h] at q3
     rw[q3] at he
     rw[show (((j+1:Nat):Int)-1).toNat=j by omega,hj] at he
     rw[eqSit_iff.2 rfl] at he
     cases he
    ·exact g3 hb e j (by omega) q2 q3 q4
theorem TabI.has {list:List Sit} {slots:List Int} (t:TabI list slots) {s:Sit} (hs:sitFit s=true):hasOk (list,slots,s)=true∧hasM (list,slots,s)=decide (s∈list):=by
 obtain ⟨z,hz,h0⟩:=t.zero
 have hst:startOf slots s<slots.length:=Nat.mod_lt _ (by have:=t.size.1;omega)
 obtain ⟨d,hd,he⟩:=reach hst hz
 obtain ⟨b,g1,g2,g3⟩:=probe_spec (list:=list) (s:=s) (startOf slots s) t.val t.size.1 slots.length 0 d (Nat.zero_le _) (by omega) (by rw[he];exact h0)
 rw[Nat.add_zero,Nat.mod_eq_of_lt hst] at g1
 refine ⟨?_,?_⟩
 ·simp only[hasOk,t.wf,hs,g1,Bool.true_and];rfl
 ·simp only[hasM,g1,Option.getD_some]
  cases b with
  |true=>rw[decide_eq_true (g2 rfl)]
  |false=>
   rw[decide_eq_false]
   intro hm
   obtain ⟨j,hj,e⟩:=List.getElem_of_mem hm
   have ej:nth ([],0,[]) list j=s:=by rw[nth_lt _ _ _ hj,e]
   obtain ⟨d2,k1,k2,k3⟩:=t.found j hj
   rw[ej] at k2 k3
   exact g3 rfl d2 j (Nat.zero_le _) hj k2 k3 ej
theorem countP_set {l:List Int} {i:Nat} {v:Int} (hi:i<l.length) (h0:nth 0 l i=0) (hv:v≠0):zeros (l.set i v)+1=zeros l:=by
 simp only[zeros]
 induction l generalizing i with
 |nil=>simp at hi
 | cons x l ih=>
  cases i with
  |zero=>
   have:x=0:=h0
   simp[this,hv]
  |succ i=>
   have h0':nth 0 l i=0:=h0
   have:=ih (by simpa using hi) h0'
   simp only[List.set_cons_succ,List.countP_cons]
   omega
theorem startOf_set {slots:List Int} {i:Nat} {v:Int} (s:Sit):startOf (slots.set i v) s=startOf slots s:=by simp only[startOf,List.length_set]
theorem TabI.put {list:List Sit} {slots:List Int} (t:TabI list slots) {s:Sit} (hs:sitFit s=true) (hl:list.length+1<slots.length):putOk (list,slots,s)=true∧TabI (list++[s]) (putSlots list slots s):=by
 obtain ⟨z,hz,h0⟩:=t.zero
 have hst:startOf slots s<slots.length:=Nat.mod_lt _ (by have:=t.size.1;omega)
 obtain ⟨d,hd,he⟩:=reach hst hz
 obtain ⟨i,e,g1,g2,g3,g4,g5,g6⟩:=gap_spec (slots:=slots) (startOf slots s) slots.length 0 d (Nat.zero_le _) (by omega) (by rw[he];exact h0)
 rw[Nat.add_zero,Nat.mod_eq_of_lt hst] at g1
 have hi:i<slots.length:=by rw[g2];exact Nat.mod_lt _ (by omega)
 have hp:putIdx slots s=i:=by simp only[putIdx,g1,Option.getD_some]
 have hlen:(putSlots list slots s).length=slots.length:=by simp only[putSlots,List.length_set]
 refine ⟨by simp only[putOk,t.wf,hs,g1,Bool.true_and];rfl,?_⟩
 have ns:∀q,nth 0 (putSlots list slots s) q=if q=i then ((list.length+1:Nat):Int) else nth 0 slots q:=fun q=>by
  simp only[putSlots,hp]
  by_cases hq:q<slots.length
  ·rw[nth_lt _ _ _ (by rw[List.length_set];exact hq),List.getElem_set]
   by_cases h:q=i
   ·rw[if_pos h.symm,if_pos h]
   ·rw[if_neg (fun x=>h x.symm),if_neg h,nth_lt _ _ _ hq]
  ·rw[nth_ge _ _ _ (by rw[List.length_set];omega),nth_ge _ _ _ (by omega),if_neg (by omega)]
 refine ⟨⟨by rw[hlen];exact t.size.1,by rw[hlen];exact t.size.2.1,by have:=t.size;simp;omega⟩,?_,by rw[hlen];simp;omega,?_,?_,?_⟩
 ·have:=countP_set (v:=((list.length+1:Nat):Int)) hi g5 (by omega)
  have hr:=t.room
  rw[hlen,show putSlots list slots s=slots.set i ((list.length+1:Nat):Int) by simp only[putSlots,hp],List.length_append]
  show zeros (slots.set i ((list.length+1:Nat):Int))+(list.length+1)=slots.length
  omega
 ·intro v hv
  rw[show putSlots list slots s=slots.set i ((list.length+1:Nat):Int) by simp only[putSlots,hp]] at hv
  rcases List.mem_or_eq_of_mem_set hv with h|h
  ·have:=t.val v h;simp;omega
  ·subst h;simp;omega
 ·intro q hq
  rcases List.mem_append.1 hq with h|h
  ·exact t.fit q h
  ·rcases List.mem_singleton.1 h with rfl;exact hs
 ·intro j hj
  simp only[List.length_append,List.length_cons,List.length_nil] at hj
  rw[hlen]
  by_cases hjl:j<list.length
  ·have ej:nth ([],0,[]) (list++[s]) j=nth ([],0,[]) list j:=by rw[nth_lt _ _ _ (by simp;omega),nth_lt _ _ _ hjl,List.getElem_append_left hjl]
   obtain ⟨d2,k1,k2,k3⟩:=t.found j hjl
   rw[ej,show startOf (putSlots list slots s) (nth ([],0,[]) list j)=startOf slots (nth ([],0,[]) list j) from startOf_set _]
   refine ⟨d2,k1,?_,fun d' hd'=> ?_⟩
   ·rw[ns,if_neg (fun h=>by rw[h,g5] at k2;omega)];exact k2
   ·rw[ns]
    by_cases h:(startOf slots (nth ([],0,[]) list j)+d') % slots.length=i
    ·rw[if_pos h];omega
    ·rw[if_neg h];exact k3 d' hd'
  ·have hjj:j=list.length:=by omega
   subst hjj
   have ej:nth ([],0,[]) (list++[s]) list.length=s:=by rw[nth_lt _ _ _ (by simp)];simp
   rw[ej,show startOf (putSlots list slots s) s=startOf slots s from startOf_set _]
   refine ⟨e,by omega,?_,fun d' hd'=> ?_⟩
   ·rw[ns,if_pos g2.symm]
   ·rw[ns]
    by_cases h:(startOf slots s+d') % slots.length=i
    ·rw[if_pos h];omega
    ·rw[if_neg h];exact g6 d' (Nat.zero_le _) hd'
theorem TabI.new (n:Nat) (h:1≤n∧n<1000000):TabI [] (List.replicate n 0):=by
 refine ⟨⟨by simp;exact h.1,by simp;exact h.2,by simp⟩,by simp[zeros,List.countP_replicate],by simp;exact h.1,fun v hv=> ?_,fun s hs=>by simp at hs,fun j hj=>by simp at hj⟩
 have:=List.eq_of_mem_replicate hv
 subst this
 simp
def byteL (l:List Int):Prop:=∀x∈l,0≤x∧x<256
theorem bytesS_inj:∀(a b:List Int),byteL a→byteL b→bytesS a=bytesS b→a=b
 |[],[],_,_,_=>rfl
 |[],y::b,_,_,h=>by simp[bytesS] at h
 |x::a,[],_,_,h=>by simp[bytesS] at h
 | x::a,y::b,ha,hb,h=>by
  simp only[bytesS,List.cons.injEq] at h
  have h1:=ha x (by simp)
  have h2:=hb y (by simp)
  have e:x=y:=by
   have:=congrArg UInt8.toNat h.1
   simp only[UInt8.toNat_ofNat'] at this
   omega
  rw[e,bytesS_inj a b (fun z hz=>ha z (by simp[hz])) (fun z hz=>hb z (by simp[hz])) h.2]
theorem packF_id {l:List Int} (h:byteL l):upTo (packF l) l.length=l:=by
 refine List.ext_getElem (upTo_len ..) fun i h1 h2=> ?_
 have e:(upTo (packF l) l.length)[i]=packF l i:=by simp[upTo]
 have hx:=h l[i] (List.getElem_mem h2)
 rw[e,packF,nth_lt _ _ _ h2,IntKind.wrap_u8]
 omega
theorem packM_inj {a b:List Int} (ha:byteL a) (hb:byteL b) (h:packM a=packM b):a=b:=by
 simp only[packM,packF_id ha,packF_id hb] at h
 exact bytesS_inj a b ha hb h
theorem keyOf_inj {a b:Sit} (h1:byteL a.1∧byteL a.2.2) (h2:byteL b.1∧byteL b.2.2) (h:keyOfM a=keyOfM b):a=b:=by
 obtain ⟨a1,a2,a3⟩:=a
 obtain ⟨b1,b2,b3⟩:=b
 simp only[keyOfM,Prod.mk.injEq] at h
 have e1:a1=b1:=packM_inj h1.1 h2.1 h.1
 have e2:a3=b3:=packM_inj h1.2 h2.2 h.2.1
 rw[e1,e2,h.2.2]
theorem two4 {o:Int} (h:0≤o∧o≤4):shlI .i64 1 o≤16:=by
 obtain rfl|rfl|rfl|rfl|rfl:o=0∨o=1∨o=2∨o=3∨o=4:=by omega
 all_goals decide
theorem form_bytes {k w h:Int} {ms:List Mo} {o dl:Int} {len:Nat} {s:Sit} (ho:0≤o∧o≤4) (hf:formB k w h ms o dl len s.1 s.2.1 s.2.2=true):byteL s.1∧byteL s.2.2:=by
 simp only[formB,Bool.and_eq_true] at hf
 obtain ⟨h1,_,_,h4⟩:=hf
 have v:=OrgV.of h1
 obtain ⟨_,_,_,hk,_,_,_⟩:=orgG_spec v.good
 refine ⟨fun x hx=> ?_,fun x hx=> ?_⟩
 ·have:=List.all_eq_true.1 v.cell x hx
  simp only[cellOk,Bool.and_eq_true,decide_eq_true_eq] at this
  have h32:rStatesM k≤32:=by rcases hk with rfl|rfl<;>decide
  omega
 ·have:=List.all_eq_true.1 h4 x hx
  simp only[fineB,Bool.and_eq_true,decide_eq_true_eq] at this
  have:=two4 ho
  omega
theorem words_put {n outs:Int} {nx pt:List Int}:∀(k a:Nat),wordsOk n outs nx pt k a=true→∀j,a≤j→j<a+k→(0≤nth 0 nx j∧nth 0 nx j<n)∧0≤nth 0 pt j∧nth 0 pt j<2^outs.toNat
 |0,a,_,j,h1,h2=>by omega
 |k+1,a,h,j,h1,h2=>by
  simp only[wordsOk,okWord,Bool.and_eq_true,decide_eq_true_eq] at h
  obtain ⟨h3,h4,h5,h6⟩:=h
  by_cases e:j=a
  ·subst e;exact ⟨⟨h3,h4⟩,h5⟩
  ·exact words_put k (a+1) h6 j (by omega) (by omega)
theorem rows_put {w:Nat} {n outs:Int} {next put:List (List Int)} {lets:List (List Bool)}:∀(k q:Nat),rowsOk w n outs next put lets k q=true→∀j,q≤j→j<q+k→
  ((nth [] next j).length=w∧(nth [] put j).length=w∧(nth [] lets j).length=w)∧∀a,a<w→(0≤nth 0 (nth [] next j) a∧nth 0 (nth [] next j) a<n)∧0≤nth 0 (nth [] put j) a∧nth 0 (nth [] put j) a<2^outs.toNat
 |0,q,_,j,h1,h2=>by omega
 |k+1,q,h,j,h1,h2=>by
  simp only[rowsOk,Bool.and_eq_true,decide_eq_true_eq] at h
  obtain ⟨h3,h4,h5⟩:=h
  by_cases e:j=q
  ·subst e;exact ⟨h3,fun a ha=>words_put _ 0 h4 a (by omega) (by omega)⟩
  ·exact rows_put k (q+1) h5 j (by omega) (by omega)
structure CtV (i o dl:Int) (n p:List (List Int)) (l:List (List Bool)):Prop where
 ins:0≤i∧i≤4
 outs:0≤o∧o≤4
 late:1≤dl∧dl≤64
 len:n.length≤32∧p.length=n.length∧l.length=n.length
 row:∀q,q<n.length→((nth [] n q).length=2^i.toNat∧(nth [] p q).length=2^i.toNat∧(nth [] l q).length=2^i.toNat)∧
  ∀a,a<2^i.toNat→(0≤nth 0 (nth [] n q) a∧nth 0 (nth [] n q) a<n.length)∧0≤nth 0 (nth [] p q) a∧nth 0 (nth [] p q) a<2^o.toNat
theorem CtV.of {i o dl:Int} {n p:List (List Int)} {l:List (List Bool)} (h:contractOk i o dl n p l=true):CtV i o dl n p l:=by
 simp only[contractOk,Bool.and_eq_true,decide_eq_true_eq] at h
 obtain ⟨⟨h1,h2,h3,h4,h5,h6,h7,h8,h9,h10⟩,h11⟩:=h
 exact ⟨⟨h1,h2⟩,⟨h3,h4⟩,⟨h5,h6⟩,⟨h8,h9,h10⟩,fun q hq=>rows_put _ 0 h11 q (Nat.zero_le _) (by omega)⟩
theorem lt_form {k w h:Int} {ms:List Mo} {i o dl:Int} {n p:List (List Int)} {l:List (List Bool)} (c:CtV i o dl n p l) {s:Sit} {word:Nat} (hw:word<2^i.toNat) (hf:formB k w h ms o dl n.length s.1 s.2.1 s.2.2=true)
  (hok:(ltB k w h ms n p s.1 s.2.1 s.2.2 word).2.2.2=true):formB k w h ms o dl n.length (ltB k w h ms n p s.1 s.2.1 s.2.2 word).1 (ltB k w h ms n p s.1 s.2.1 s.2.2 word).2.1 (ltB k w h ms n p s.1 s.2.1 s.2.2 word).2.2.1=true:=by
 simp only[formB,Bool.and_eq_true,decide_eq_true_eq] at hf
 obtain ⟨h1,⟨h2,h3⟩,h4,h5⟩:=hf
 have v:=OrgV.of h1
 have hq:s.2.1.toNat<n.length:=by omega
 obtain ⟨_,r2⟩:=c.row _ hq
 obtain ⟨⟨a1,a2⟩,a3,a4⟩:=r2 word hw
 simp only[ltB,Int.toNat_natCast] at hok⊢
 cases hc:(decide (toldL w s.1 ms 0 0=nth 0 s.2.2 0)&&stOk k w h ms s.1 word) with
 |false=>rw[hc] at hok;cases hok
 | true=>
  simp only[Bool.and_eq_true] at hc
  have v2:=v.step hc.2
  have hld:(s.2.2.drop 1).length=s.2.2.length-1:=List.length_drop
  have hlate:=c.late
  simp only[cond_true,formB,v2.to,Bool.true_and,Bool.and_eq_true,decide_eq_true_eq]
  refine ⟨⟨a1,a2⟩,?_,List.all_eq_true.2 fun x hx=> ?_⟩
  ·simp only[List.length_append,hld,List.length_cons,List.length_nil];omega
  ·rcases List.mem_append.1 hx with h|h
   ·exact List.all_eq_true.1 h5 x (List.mem_of_mem_drop h)
   ·rcases List.mem_singleton.1 h with rfl
    simp only[fineB,Bool.and_eq_true,decide_eq_true_eq]
    have:=c.outs
    rw[shl_one this.1 (by omega)]
    exact ⟨a3,a4⟩
theorem asked0 {k w h:Int} {c:List Int} {ms:List Mo} {i o dl:Int} {n p:List (List Int)} {l:List (List Bool)} (ha:askedM (k,w,h,c,ms,i,o,dl,n,p,l)=0):OrgV k w h c ms∧CtV i o dl n p l∧(cntI ms:Int)=i:=by
 simp only[askedM] at ha
 cases h1:organB k w h c ms with
 |false=>rw[h1] at ha;simp at ha
 | true=>
  cases h2:contractOk i o dl n p l with
  |false=>rw[h1,h2] at ha;simp at ha
  |true=>
   refine ⟨OrgV.of h1,CtV.of h2,?_⟩
   rw[h1,h2] at ha
   by_cases h3:(cntI ms:Int)=i∧(cntO ms:Int)=o
   ·exact h3.1
   ·simp[h3] at ha
theorem form_lt {k w h:Int} {ms:List Mo} {i o dl:Int} {n p:List (List Int)} {l:List (List Bool)} (c:CtV i o dl n p l) {s:Sit} (hf:formB k w h ms o dl n.length s.1 s.2.1 s.2.2=true) {a:Nat} (ha:a<2^i.toNat):
  orgG k w h s.1 ms=true∧(1≤s.2.2.length∧s.2.2.length≤1000)∧idxB n p s.2.1 a=true∧(0≤s.2.1∧s.2.1<(l.length:Int)∧a<(nth [] l s.2.1.toNat).length)∧
   sitFit ((ltB k w h ms n p s.1 s.2.1 s.2.2 a).1,(ltB k w h ms n p s.1 s.2.1 s.2.2 a).2.1,(ltB k w h ms n p s.1 s.2.1 s.2.2 a).2.2.1)=true:=by
 simp only[formB,Bool.and_eq_true,decide_eq_true_eq] at hf
 obtain ⟨h1,⟨h2,h3⟩,h4,h5⟩:=hf
 have v:=OrgV.of h1
 have hl:=c.late
 have hn:=c.len
 obtain ⟨⟨r1,r2,r3⟩,_⟩:=c.row s.2.1.toNat (by omega)
 obtain ⟨hw,hh,hc,_,_,_,_⟩:=orgG_spec v.good
 have hlen:w*h≤24*24:=Int.mul_le_mul hw.2 hh.2 (by omega) (by omega)
 refine ⟨v.good,by omega,?_,⟨h2,by omega,by rw[r3];exact ha⟩,?_⟩
 ·simp only[idxB,decide_eq_true_eq,r1,r2]
  exact ⟨⟨h2,h3,by omega⟩,by omega,by exact_mod_cast ha,by exact_mod_cast ha⟩
 ·simp only[ltB]
  cases decide (toldL w s.1 ms 0 0=nth 0 s.2.2 0)&&stOk k w h ms s.1 a with
  |false=>exact decide_eq_true ⟨by simp,by simp⟩
  |true=>exact decide_eq_true ⟨by simp only[cond_true,nextC_len];simp only[big];omega,by simp only[cond_true,List.length_append,List.length_drop,List.length_cons,List.length_nil];simp only[big];omega⟩
abbrev KeyK:CK:=CK.pair CK.str (CK.pair CK.str KI)
abbrev MK:=List (Key×Bool)
def getK (m:MK) (k:Key):Bool:=getM KeyK (V:=Bool) false m (k:List UInt8×List UInt8×Int)
def insK (m:MK) (k:Key):MK:=insM KeyK (V:=Bool) m (k:List UInt8×List UInt8×Int) true
theorem getK_insK (m:MK) (k k':Key):getK (insK m k) k'=(decide (k'=k)||getK m k'):=by
 have e:=getM_insM (V:=Bool) KeyK rfl false m (k:List UInt8×List UInt8×Int) true (k':List UInt8×List UInt8×Int)
 have e2:eqK KeyK (k':List UInt8×List UInt8×Int) (k:List UInt8×List UInt8×Int)=decide (k'=k):=by
  rw[Bool.eq_iff_iff,decide_eq_true_iff]
  exact eqK_spec KeyK _ _ rfl
 rw[e2] at e
 refine e.trans ?_
 cases decide (k'=k)<;>rfl
def keyEqB (a b:Key):Bool:=List.beq a.1 b.1&&(List.beq a.2.1 b.2.1&&(decide (a.2.2=b.2.2)&&true))
theorem keyEqB_iff {a b:Key}:keyEqB a b=true↔a=b:=by
 obtain ⟨a1,a2,a3⟩:=a
 obtain ⟨b1,b2,b3⟩:=b
 have e:∀x y:List UInt8,List.beq x y=true↔x=y:=fun x y=>(beq_iff_eq:(x==y)=true↔x=y)
 simp only[keyEqB,Bool.and_eq_true,decide_eq_true_eq,e,Prod.mk.injEq,and_true]
section
variable {k w h:Int} {c:List Int} {ms:List Mo} {i o dl:Int} {n p:List (List Int)} {l:List (List Bool)}
def fB (k w h:Int) (ms:List Mo) (o dl:Int) (n:List (List Int)) (s:Sit):Bool:=formB k w h ms o dl n.length s.1 s.2.1 s.2.2
theorem form_key (ct:CtV i o dl n p l) {s:Sit} (hf:fB k w h ms o dl n s=true):keyOfOk s=true:=by
 have hf':=hf
 simp only[fB,formB,Bool.and_eq_true,decide_eq_true_eq] at hf'
 obtain ⟨h1,_,h4,_⟩:=hf'
 have v:=OrgV.of h1
 have hl:=ct.late
 obtain ⟨hw,hh,hc,_,_,_,_⟩:=orgG_spec v.good
 have hlen:w*h≤24*24:=Int.mul_le_mul hw.2 hh.2 (by omega) (by omega)
 have e1:s.1.length≤1000:=by omega
 have e2:s.2.2.length≤1000:=by omega
 obtain ⟨a,b,d⟩:=s
 simp only[keyOfOk,packOk,Bool.and_eq_true,decide_eq_true_eq]
 exact ⟨e1,e2⟩
theorem leadM_lt {s:Sit} (v:OrgV k w h s.1 ms) (c0:List Int) (ins:Int) (i o dl:Int) (n p:List (List Int)) (l:List (List Bool)) (a:Int):leadM ((k,w,h,c0,ms,k,ins,bodyMap ms 0 0 []),(i,o,dl,n,p,l),s,a)=ltB k w h ms n p s.1 s.2.1 s.2.2 a:=by
 have e:=stepM_eq v c0 ins a
 simp only[leadM,zL,e,ltB,Bool.not_not]
 rw[Bool.and_comm]
theorem leadOk_of (ct:CtV i o dl n p l) {s:Sit} (hf:fB k w h ms o dl n s=true) (c0:List Int) (ins:Int) {a:Nat} (ha:a<2^i.toNat):leadOk ((k,w,h,c0,ms,k,ins,bodyMap ms 0 0 []),(i,o,dl,n,p,l),s,(a:Int))=true:=by
 obtain ⟨g1,g2,g3,_,_⟩:=form_lt ct hf ha
 simp only[leadOk,zL,stepOk_of g1,g2,g3,and_self,decide_true,Bool.and_self]
theorem first_byte (v:OrgV k w h c ms) (ct:CtV i o dl n p l):byteL c∧byteL (List.replicate dl.toNat (0:Int)):=by
 obtain ⟨_,_,_,hk,_,_,_⟩:=orgG_spec v.good
 refine ⟨fun x hx=> ?_,fun x hx=> ?_⟩
 ·have:=List.all_eq_true.1 v.cell x hx
  simp only[cellOk,Bool.and_eq_true,decide_eq_true_eq] at this
  have h32:rStatesM k≤32:=by rcases hk with rfl|rfl<;>decide
  omega
 ·have:=List.eq_of_mem_replicate hx
  omega
end
end Go.Proofs.YtiglikocfjhkcaaDoor
