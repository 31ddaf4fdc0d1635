/- The program's step of a valid organ is the document's. -/
import Derived.Test.YtiglikocfjhkcaaDoorSOL
import Derived.Test.YtiglikocfjhkcaaDoorST
import Derived.Test.YtiglikocfjhkcaaDoorSG
set_option linter.all false
set_option linter.unusedVariables false
set_option linter.unusedSimpArgs false
open Go Go.Abs Go.Proofs
namespace Go.Proofs.YtiglikocfjhkcaaDoor
theorem outer_of {k w h:Int} {cells:List Int} {ms:List Mo} (v:OrgV k w h cells ms) {x y d word:Int} (hx:0≤x∧x<w) (hy:0≤y∧y<h) (hd:0≤d∧d<4) (ho:inR w h (x+dX d) (y+dY d)=false):
  outerBO (bodyMap ms 0 0 []) x y d word=(meetsL word (x+dX d) (y+dY d) ms 0,(look x y d ms 0 0).isSome):=by
 obtain ⟨hw,hh,hl,hrk,_,_,_⟩:=orgG_spec v.good
 have:=v.len
 exact outer_meets v.dist (by omega) fun m hm=>geo (kind:=k) (cells:=cells) (ms:=ms) hw hh hx hy hd (v.fit m hm) ho
theorem near_eq {k w h:Int} {cells:List Int} {ms:List Mo} (v:OrgV k w h cells ms) {x y d word:Int} (hx:0≤x∧x<w) (hy:0≤y∧y<h) (hd:0≤d∧d<4):
  nearM w h cells (bodyMap ms 0 0 []) word x y d=atV w h cells ms word (x+dX d) (y+dY d):=by
 simp only[nearM,atV]
 cases ho:inR w h (x+dX d) (y+dY d) with
 |true=>rfl
 |false=>simp only[cond_false];rw[outer_of v hx hy hd ho]
theorem look_d {x y d:Int} (hd:0≤d∧d<4):0≤Int.tmod (IntKind.wrap .i64 (d+2)) 4∧Int.tmod (IntKind.wrap .i64 (d+2)) 4<4:=by
 obtain rfl|rfl|rfl|rfl:d=0∨d=1∨d=2∨d=3:=by omega
 all_goals decide
theorem ord_ne0 {d:Int} (hd:0≤d∧d<4) (on:Bool):ordinaryM d on≠0:=by
 obtain rfl|rfl|rfl|rfl:d=0∨d=1∨d=2∨d=3:=by omega
 all_goals cases on<;>decide
theorem leak_eq {k w h:Int} {cells:List Int} {ms:List Mo} (v:OrgV k w h cells ms) {x y d word:Int} (hx:0≤x∧x<w) (hy:0≤y∧y<h) (hd:0≤d∧d<4):
  leakM w h k [] (bodyMap ms 0 0 []) word (nth 0 cells (y*w+x).toNat) x y d=lkD k w h cells ms word x y d:=by
 obtain ⟨hw,hh,hl,hrk,_,_,_⟩:=orgG_spec v.good
 simp only[leakM,lkD]
 cases ho:inR w h (x+dX d) (y+dY d) with
 |true=>rfl
 | false=>
  simp only[Bool.not_false,Bool.true_and,leaksM]
  rw[outer_of v hx hy hd ho]
  simp only[leakB,leakOf]
  have hlk:=meetsL_look word x y d (x+dX d) (y+dY d) ms 0 0 fun m hm=>geo (kind:=k) (cells:=cells) (ms:=ms) hw hh hx hy hd (v.fit m hm) ho
  rw[hlk,rIs_cIs]
  cases hq:look x y d ms 0 0 with
  |none=>rfl
  | some q=>
   obtain ⟨o,b⟩:=q
   have hne:¬lookW word d (some (o,b))=0:=by
    cases o with
    |true=>exact ord_ne0 hd false
    |false=>exact ord_ne0 (look_d (x:=x) (y:=y) hd) _
   rw[decide_eq_false hne]
   simp only[Option.isSome,Bool.not_true,cond_false,leads_isOrd,beq_ne]
   generalize sideN k [] (lookW word d (some (o,b))) d (nth 0 cells (y*w+x).toNat)=t
   cases (cIsOrdM t).2.2<;>simp
theorem idx_xy {w:Nat} {i:Nat} (hw:0<w):(i / w)*w+i % w=i:=by rw[Nat.mul_comm];exact Nat.div_add_mod i w
theorem cellI_eq {k w h:Int} {cells:List Int} {ms:List Mo} (v:OrgV k w h cells ms) {word:Int} {i:Nat} (hi:i<cells.length):
  cellI w h k [] (bodyMap ms 0 0 []) cells word i=nxI k w h cells ms word i∧leakI w h k [] (bodyMap ms 0 0 []) cells word i=lkI k w h cells ms word i:=by
 obtain ⟨hw,hh,hl,hrk,_,_,_⟩:=orgG_spec v.good
 obtain ⟨c1,c2,c3,c4⟩:=coord hw hh hl hi
 have x0:=natb c3
 have y0:=natb c4
 have hidx:(((i / w.toNat:Nat):Int)*w+((i % w.toNat:Nat):Int)).toNat=i:=by
  have:=idx_xy (w:=w.toNat) (i:=i) (by omega)
  have e:((i / w.toNat:Nat):Int)*w+((i % w.toNat:Nat):Int)=((i / w.toNat*w.toNat+i % w.toNat:Nat):Int):=by
   rw[Int.natCast_add,Int.natCast_mul,Int.toNat_of_nonneg (show 0≤w by omega)]
  rw[e,this];rfl
 have hs:atV w h cells ms word ((i % w.toNat:Nat):Int) ((i / w.toNat:Nat):Int)=nth 0 cells i:=by
  simp only[atV,inR_iff.2 ⟨x0,y0⟩,cond_true,hidx]
 have q0:(0:Int)≤0∧(0:Int)<4:=by decide
 have q1:(0:Int)≤1∧(1:Int)<4:=by decide
 have q2:(0:Int)≤2∧(2:Int)<4:=by decide
 have q3:(0:Int)≤3∧(3:Int)<4:=by decide
 constructor
 ·simp only[cellI,nxI,cellN,nxV,hs]
  rw[near_eq v x0 y0 q0,near_eq v x0 y0 q1,near_eq v x0 y0 q2,near_eq v x0 y0 q3]
  simp only[show dX 0=1 from rfl,show dX 1=0 from rfl,show dX 2= -1 from rfl,show dX 3=0 from rfl,show dY 0=0 from rfl,show dY 1= -1 from rfl,show dY 2=0 from rfl,show dY 3=1 from rfl,Int.add_zero]
  rfl
 ·simp only[leakI,lkI,leak4,lkAt]
  have e:=fun d hd=>leak_eq v (word:=word) (d:=d) x0 y0 hd
  rw[hidx] at e
  rw[e 0 q0,e 1 q1,e 2 q2,e 3 q3]
theorem after_eq {k w h:Int} {cells:List Int} {ms:List Mo} (v:OrgV k w h cells ms) (word:Int):afterM w h k (bodyMap ms 0 0 []) cells word=upTo (nxI k w h cells ms word) cells.length:=by
 rw[afterM_upTo]
 exact upTo_congr fun i hi=>(cellI_eq v hi).1
theorem leaky_eq' {k w h:Int} {cells:List Int} {ms:List Mo} (v:OrgV k w h cells ms) (word:Int):anyAll (leakI w h k [] (bodyMap ms 0 0 []) cells word) cells.length 0 false=leakyM (k,w,h,cells,ms,word):=
 anyAll_congr _ _ _ fun q _ hq=>(cellI_eq v (by omega)).2
def r29 (n:Int):Bool:=decide (0≤n)&&decide (n<29)
theorem r29_iff {n:Int}:r29 n=true↔0≤n∧n<29:=by simp[r29]
theorem cr29 {b:Bool} {m n:Int} (h:r29 m=true) (h':r29 n=true):r29 (bif b then m else n)=true:=by cases b<;>assumption
theorem grow_r {c:Int} (h0:0≤c) (h1:c<32) (one:Bool) (hs:(sortOfM c).1=1):r29 (growM (c,one))=true:=by
 have:=all32 (p:=fun c=> !decide ((sortOfM c).1=1)||(r29 (growM (c,true))&&r29 (growM (c,false)))) (by decide+kernel) h0 h1
 rw[decide_eq_true hs] at this
 simp only[Bool.not_true,Bool.false_or,Bool.and_eq_true] at this
 cases one
 ·exact this.2
 ·exact this.1
theorem wire_r {c:Int} (h0:0≤c) (h1:c<32) (a b e d:Int):r29 (wireNextM (c,a,b,e,d))=true:=by
 have:=all32 (p:=fun c=>r29 (IntKind.wrap .i64 (17+(sortOfM c).2.1))&&r29 (IntKind.wrap .i64 (9+(sortOfM c).2.1))&&(r29 (IntKind.wrap .i64 (IntKind.wrap .i64 (17+(sortOfM c).2.1)+4))&&r29 (IntKind.wrap .i64 (IntKind.wrap .i64 (9+(sortOfM c).2.1)+4)))) (by decide+kernel) h0 h1
 simp only[Bool.and_eq_true] at this
 obtain ⟨⟨g1,g2⟩,g3,g4⟩:=this
 simp only[wireNextM,wchain]
 exact cr29 (cr29 rfl (cr29 g3 g1)) (cr29 rfl (cr29 g4 g2))
theorem jend_r {c:Int} (h0:0≤c) (h1:c<32) (l:List Int):r29 (jend (jnx c) l)=true:=by
 have:=all32 (p:=fun c=>r29 (jbase (jnx c))&&r29 (IntKind.wrap .i64 (jbase (jnx c)+1))) (by decide+kernel) h0 h1
 simp only[Bool.and_eq_true] at this
 simp only[jend]
 exact cr29 this.2 this.1
theorem next29_r {c a b e d:Int} {x:Bool} (h0:0≤c) (h1:c<32):(0≤next29M (c,a,b,e,d,x)∧next29M (c,a,b,e,d,x)<32)∧(x=false→next29M (c,a,b,e,d,x)<29):=by
 have sm:∀n,r29 n=true→(0≤n∧n<32)∧(x=false→n<29):=fun n h=>by
  have:=r29_iff.1 h
  exact ⟨⟨this.1,by omega⟩,fun _=>this.2⟩
 simp only[next29M]
 cases k0:decide ((sortOfM c).1=0) with
 |true=>
  simp only[cond_true]
  exact sm _ (cr29 rfl rfl)
 | false=>
  cases k1:decide ((sortOfM c).1=1) with
  |true=>exact sm _ (grow_r h0 h1 _ (of_decide_eq_true k1))
  | false=>
   simp only[cond_false]
   cases hk:decide ((sortOfM c).1=2)||decide ((sortOfM c).1=3) with
   |true=>exact sm _ (wire_r h0 h1 ..)
   | false=>
    simp only[cond_false,jointNextM]
    cases (hitsM (a,b,e,d)).2 with
    |true=>exact sm 0 rfl
    | false=>
     simp only[cond_false]
     cases hx:x&&(cAcrossM (a,b,e,d)).1 with
     |false=>exact sm _ (jend_r h0 h1 _)
     |true=>
      simp only[Bool.and_eq_true] at hx
      simp only[cond_true]
      cases (cAcrossM (a,b,e,d)).2.1<;>cases (cAcrossM (a,b,e,d)).2.2<;>simp[hx.1]
theorem clp_r {k s:Int} (hk:k=0∨k=1):0≤clp k s∧clp k s<32:=by
 simp only[clp,isStateM]
 cases h:(decide (0≤s)&&decide (s<bif decide (k=0) then 29 else 32)) with
 |false=>simp
 |true=>
  simp only[Bool.and_eq_true,decide_eq_true_eq] at h
  simp only[cond_true]
  rcases hk with rfl|rfl<;>simp at h<;>omega
theorem cNext_r {k:Int} (hk:k=0∨k=1) {cs:List Six} {c a b e d:Int}:0≤cNextM (k,cs,c,a,b,e,d)∧cNextM (k,cs,c,a,b,e,d)<(bif decide (k=0) then 29 else 32):=by
 simp only[cNextM]
 obtain ⟨g1,g2⟩:=clp_r (s:=c) hk
 obtain ⟨⟨h1,h2⟩,h3⟩:=next29_r (a:=clp k a) (b:=clp k b) (e:=clp k e) (d:=clp k d) (x:=decide (k=1)) g1 g2
 refine ⟨h1,?_⟩
 rcases hk with rfl|rfl
 ·exact h3 rfl
 ·exact h2
def nextC (k w h:Int) (ms:List Mo) (cells:List Int) (word:Int):List Int:=upTo (nxI k w h cells ms word) cells.length
def stOk (k w h:Int) (ms:List Mo) (cells:List Int) (word:Int):Bool:= !(leakyM (k,w,h,cells,ms,word)||badL w (nextC k w h ms cells word) ms)
theorem steppedM_eq (k w h:Int) (ms:List Mo) (cells:List Int) (word:Int):steppedM (k,w,h,cells,ms,word)=bif stOk k w h ms cells word then (k,w,h,nextC k w h ms cells word,ms,true) else (0,0,0,[],[],false):=by
 simp only[steppedM,stOk,nextC]
 cases leakyM (k,w,h,cells,ms,word)<;>cases badL w (upTo (nxI k w h cells ms word) cells.length) ms<;>rfl
theorem stepM_eq {k w h:Int} {cells:List Int} {ms:List Mo} (v:OrgV k w h cells ms) (c0:List Int) (ins word:Int):
  stepM (k,w,h,c0,ms,k,ins,bodyMap ms 0 0 [],cells,word)=(nextC k w h ms cells word,toldL w cells ms 0 0,!stOk k w h ms cells word):=by
 simp only[stepM,after_eq v,leaky_eq' v,stOk,Bool.not_not]
 rfl
theorem bodyMap_all:∀(l:List Mo) (a b:Nat) (m:MM),(m.all fun e=>decide (0≤e.2))=true→((bodyMap l a b m).all fun e=>decide (0≤e.2))=true
 |[],_,_,_,h=>h
 | (x,y,d,o)::r,a,b,m,h=>by
  have ins:∀(m:MM) (k:Int×Int×Int) (v:Int),0≤v→(m.all fun e=>decide (0≤e.2))=true→((insM K3 m k v).all fun e=>decide (0≤e.2))=true:=by
   intro m
   induction m with
   |nil=>intro k v hv _;simp[insM,hv]
   | cons e m ih=>
    intro k v hv hm
    simp only[List.all_cons,Bool.and_eq_true] at hm
    show ((bif eqK K3 k e.1 then (e.1,v)::m else e::insM K3 m k v).all fun e=>decide (0≤e.2))=true
    cases eqK K3 k e.1 with
    |true=>simp only[cond_true,List.all_cons,hm.2,Bool.and_true,decide_eq_true_eq];exact hv
    |false=>
     have q:=ih k v hv hm.2
     show (decide (0≤e.2)&&(insM K3 m k v).all fun e=>decide (0≤e.2))=true
     rw[hm.1,q];rfl
  cases o with
  |true=>exact bodyMap_all r (a+1) b _ (ins _ _ _ (by omega) h)
  |false=>exact bodyMap_all r a (b+1) _ (ins _ _ _ (by omega) h)
theorem stepOk_of {k w h:Int} {cells:List Int} {ms:List Mo} (g:orgG k w h cells ms=true) (c0:List Int) (ins word:Int):stepOk (k,w,h,c0,ms,k,ins,bodyMap ms 0 0 [],cells,word)=true:=by
 obtain ⟨hw,hh,hl,hrk,hx,_,hm⟩:=orgG_spec g
 simp only[stepOk,Bool.and_eq_true,decide_eq_true_eq]
 exact ⟨⟨hw,hh,hl,hrk,hx⟩,hm,bodyMap_all ms 0 0 [] rfl⟩
theorem nextC_len (k w h:Int) (ms:List Mo) (cells:List Int) (word:Int):(nextC k w h ms cells word).length=cells.length:=upTo_len ..
theorem orgG_cells {k w h:Int} {c c':List Int} {ms:List Mo} (g:orgG k w h c ms=true) (hl:c'.length=c.length):orgG k w h c' ms=true:=by
 simp only[orgG,hl] at g⊢;exact g
theorem OrgV.step {k w h:Int} {cells:List Int} {ms:List Mo} (v:OrgV k w h cells ms) {word:Int} (ho:stOk k w h ms cells word=true):OrgV k w h (nextC k w h ms cells word) ms:=by
 obtain ⟨hw,hh,hl,hrk,hx,_,hm⟩:=orgG_spec v.good
 refine ⟨orgG_cells v.good (nextC_len ..),v.fit,v.dist,fun m hm=> ?_,?_,v.few⟩
 ·simp only[stOk,Bool.not_eq_true',Bool.or_eq_false_iff] at ho
  have:=List.any_eq_false.1 ho.2 m hm
  simp only[Bool.and_eq_true,Bool.not_eq_true',not_and,Bool.not_eq_false] at this
  simp only[mouthL]
  cases h0:m.2.2.2 with
  |false=>rfl
  |true=>rw[this h0];rfl
 ·refine List.all_eq_true.2 fun s hs=> ?_
  simp only[nextC,upTo,List.mem_map,List.mem_range] at hs
  obtain ⟨i,_,rfl⟩:=hs
  have:=cNext_r hrk (cs:=[]) (c:=atV w h cells ms word ((i % w.toNat:Nat):Int) ((i / w.toNat:Nat):Int)) (a:=atV w h cells ms word (((i % w.toNat:Nat):Int)+1) ((i / w.toNat:Nat):Int)) (b:=atV w h cells ms word ((i % w.toNat:Nat):Int) (((i / w.toNat:Nat):Int)-1)) (e:=atV w h cells ms word (((i % w.toNat:Nat):Int)-1) ((i / w.toNat:Nat):Int)) (d:=atV w h cells ms word ((i % w.toNat:Nat):Int) (((i / w.toNat:Nat):Int)+1))
  simp only[cellOk,Bool.and_eq_true,decide_eq_true_eq]
  refine ⟨this.1,?_⟩
  have h2:=this.2
  rcases hrk with rfl|rfl
  ·exact h2
  ·exact h2
theorem fitsAll_of {kind w h:Int} {cells:List Int} {ms:List Mo}:∀(l pre:List Mo),(∀m∈l,mouthP kind w h cells ms m=true)→dist l→(∀m∈l,∀n∈pre,sameM n m=false)→(∀m∈l,mouthL w cells m=true)→fitsAll kind w h cells ms pre l=true
 |[],_,_,_,_,_=>rfl
 | m::l,pre,h1,h2,h3,h4=>by
  simp only[fitsAll,fitB,Bool.and_eq_true,Bool.not_eq_true']
  refine ⟨⟨h1 m (by simp),List.any_eq_false.2 fun n hn=>by rw[h3 m (by simp) n hn];decide,h4 m (by simp)⟩,fitsAll_of l (pre++[m]) (fun q hq=>h1 q (by simp[hq])) h2.2 (fun q hq n hn=> ?_) (fun q hq=>h4 q (by simp[hq]))⟩
  rcases List.mem_append.1 hn with hn|hn
  ·exact h3 q (by simp[hq]) n hn
  ·rcases List.mem_singleton.1 hn with rfl
   exact h2.1 q hq
theorem OrgV.to {k w h:Int} {cells:List Int} {ms:List Mo} (v:OrgV k w h cells ms):organB k w h cells ms=true:=by
 obtain ⟨hw,hh,hl,hrk,hx,_,hm⟩:=orgG_spec v.good
 simp only[organB,shapeB,Bool.and_eq_true,decide_eq_true_eq]
 exact ⟨⟨hrk,hw.1,hw.2,hh.1,hh.2,hl⟩,v.cell,fitsAll_of ms [] v.fit v.dist (by simp) v.lead,v.few⟩
def runL (k w h:Int) (ms:List Mo):List Int→List Int→List Int→List Int×List Int×Bool
 |[],cells,told=>(told,cells,true)
 |a::r,cells,told=>bif stOk k w h ms cells a then runL k w h ms r (nextC k w h ms cells a) (told++[toldL w cells ms 0 0]) else ([],[],false)
abbrev RunO:=List Int×Int×Int×Int×List Int×List Mo×Int
def errU (e:Int):RunO:=([],0,0,0,[],[],e)
abbrev RuZ:=Int×Int×Int×List Int×List Mo×List Int
def runM:RuZ→RunO:=fun (k,w,h,cells,ms,l)=>
 bif !organB k w h cells ms then errU 50 else bif !(l.all (fineB (cntI ms:Nat))&&decide ((l.length:Int)≤4096)) then errU 52 else
  bif (runL k w h ms l cells []).2.2 then ((runL k w h ms l cells []).1,k,w,h,(runL k w h ms l cells []).2.1,ms,0) else errU 53
end Go.Proofs.YtiglikocfjhkcaaDoor
