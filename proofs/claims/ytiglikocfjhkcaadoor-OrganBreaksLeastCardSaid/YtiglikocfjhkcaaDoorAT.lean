/- Rows whose elements own rows: what changes within them. -/
import Derived.Test.YtiglikocfjhkcaaDoorA5
set_option linter.all false
set_option linter.unusedVariables false
set_option linter.unusedSimpArgs false
namespace Go.Abs
variable [Globs]
open Go.RowKit (Below)
section
variable {H:List Blk} {μ:Nat→Value} {w:World} {S:Nat→Prop} {os:List TypeId}
theorem setC_pair (a b:CK) (x:CT (.pair a b)) (j:Nat) (k2:CK) (ys:List (CT k2)):setC (.pair a b) x j k2 ys=bif Nat.blt j (width a) then (setC a x.1 j k2 ys,x.2) else (x.1,setC b x.2 (j-width a) k2 ys):=rfl
theorem setC_slice (e:TypeId) (k:CK) (x:CT (.slice e k)) (j:Nat) (k2:CK) (ys:List (CT k2)):setC (.slice e k) x j k2 ys=asL k (.ro k2 ys):=rfl
theorem enc_setC_t {a b:CK} (x:CT (.pair a b)) {j:Nat} {k2:CK} (ys:List (CT k2)) (h:Nat.blt j (width a)=true):enc (.pair a b) (setC (.pair a b) x j k2 ys)=enc a (setC a x.1 j k2 ys)++enc b x.2:=by rw[setC_pair,h];rfl
theorem enc_setC_f {a b:CK} (x:CT (.pair a b)) {j:Nat} {k2:CK} (ys:List (CT k2)) (h:Nat.blt j (width a)=false):enc (.pair a b) (setC (.pair a b) x j k2 ys)=enc a x.1++enc b (setC b x.2 (j-width a) k2 ys):=by rw[setC_pair,h];rfl
theorem enc_setC_s {e:TypeId} {k:CK} (x:CT (.slice e k)) {j:Nat} (ys:List (CT k)):enc (.slice e k) (setC (.slice e k) x j k ys)=[.ro k ys]:=by rw[setC_slice,asL_ro];rfl
theorem enc_pair (a b:CK) (x:CT (.pair a b)):enc (.pair a b) x=enc a x.1++enc b x.2:=rfl
theorem enc_setC' {e2:TypeId} {k2:CK} (ys:List (CT k2)):∀(k:CK) (j:Nat) (x:CT k),ownC os k j=some (e2,k2)→∀q,nth .junk (enc k (setC k x j k2 ys)) q=if q=j then .ro k2 ys else nth .junk (enc k x) q:=by
 intro k
 induction k with
 |bool=>intro j x h;cases h
 |int _=>intro j x h;cases h
 |str=>intro j x h;cases h
 |map _ _ _ _=>intro j x h;cases h
 |other=>intro j x h;cases h
 | slice e k ih=>
  intro j x h q
  cases j with
  |succ j=>cases h
  | zero=>
   simp only[ownC] at h
   cases hc:os.contains e<;>rw[hc] at h
   ·cases h
   ·simp only[cond_true,Option.some.injEq,Prod.mk.injEq] at h
    obtain ⟨rfl,rfl⟩:=h
    rw[enc_setC_s]
    cases q with
    |zero=>rfl
    |succ q=>rw[if_neg (by omega)];rfl
 | pair a b iha ihb=>
  intro j x h q
  simp only[ownC] at h
  cases hb:Nat.blt j (width a)<;>rw[hb] at h
  ·have hge:¬j<width a:=by rw[←Nat.blt_eq,hb];simp
   rw[cond_false] at h
   rw[enc_setC_f x ys hb,enc_pair,nth_append,nth_append,enc_length]
   rw[ihb (j-width a) x.2 h]
   by_cases hq:q<width a
   ·rw[if_pos hq,if_pos hq,if_neg (by omega)]
   ·rw[if_neg hq,if_neg hq]
    by_cases hqj:q=j
    ·rw[if_pos hqj,if_pos (by omega)]
    ·rw[if_neg hqj,if_neg (by omega)]
  ·have hlt:j<width a:=by rw[←Nat.blt_eq];exact hb
   rw[cond_true] at h
   rw[enc_setC_t x ys hb,enc_pair,nth_append,nth_append,enc_length,enc_length]
   rw[iha j x.1 h]
   by_cases hq:q<width a
   ·rw[if_pos hq,if_pos hq]
   ·rw[if_neg hq,if_neg hq,if_neg (by omega)]
theorem enc_setC {k:CK} {j:Nat} {ek:TypeId×CK} (x:CT k) (ys:List (CT ek.2)) (h:ownC os k j=some ek) (q:Nat):nth .junk (enc k (setC k x j ek.2 ys)) q=if q=j then .ro ek.2 ys else nth .junk (enc k x) q:=
 enc_setC' (e2:=ek.1) ys k j x h q
theorem gt_set {k:CK} {xs:List (CT k)} {i:Nat} {y:CT k} (a:Nat) (hi:i<xs.length):gt k (xs.set i y) a=if a=i then enc k y else gt k xs a:=by
 simp only[gt,nth_set]
 by_cases h:i=a
 ·rw[if_pos ⟨h,hi⟩,if_pos h.symm]
 ·rw[if_neg (fun e=>h e.1),if_neg (fun e=>h e.symm)]
theorem cell_setC {k:CK} {xs:List (CT k)} {i j:Nat} {ek:TypeId×CK} {ys:List (CT ek.2)} (hi:i<xs.length) (ho:ownC os k j=some ek) (a b:Nat):
  nth .junk (gt k (xs.set i (setC k (nth (dflt k) xs i) j ek.2 ys)) a) b=if a=i∧b=j then .ro ek.2 ys else nth .junk (gt k xs a) b:=by
 rw[gt_set a hi]
 by_cases h:a=i
 ·subst h
  rw[if_pos rfl,enc_setC _ ys ho]
  by_cases hb:b=j
  ·rw[if_pos hb,if_pos ⟨rfl,hb⟩]
  ·rw[if_neg hb,if_neg (fun e=>hb e.2)];rfl
 ·rw[if_neg h,if_neg (fun e=>h e.1)]
def hcat (p:Pth) (h:Option Pth):Option Pth:=h.map fun q=>p++q
theorem hcat_nil (h:Option Pth):hcat [] h=h:=by cases h<;>rfl
theorem hcat_none (p:Pth):hcat p none=none:=rfl
theorem hcat_ne {x:Nat×Nat} {p:Pth} {h:Option Pth}:hcat (x::p) h≠some []:=by cases h<;>simp[hcat]
theorem hsub_hcat {i j:Nat} {p:Pth} {h:Option Pth}:hsub (hcat ((i,j)::p) h) i j=hcat p h:=by cases h<;>simp[hcat,hsub]
theorem hsub_hcat_ne {i j a b:Nat} {p:Pth} {h:Option Pth} (hne:¬(a=i∧b=j)):hsub (hcat ((i,j)::p) h) a b=none:=by
 cases h with
 |none=>rfl
 |some q=>simp only[hcat,Option.map_some,List.cons_append,hsub];rw[if_neg hne]
theorem TabV.nodeH {M:Nat→Prop} {h:Option Pth}:∀(p:Pth) (d:Nd) {m:Value},TabV w M S os (hcat p h) d.e d.k d.xs m→pathOk os d p→TabV w M S os h (nodeAt os d p).e (nodeAt os d p).k (nodeAt os d p).xs (imgAt m p)∧∀B,Owns (imgAt m p) B→Owns m B
 |[],d,m,ht,_=>⟨by rw[hcat_nil] at ht;exact ht,fun _ h=>h⟩
 | (i,j)::p,d,m,ht,hp=>by
  obtain ⟨hi,hj,ek,ho,hp⟩:=hp
  rcases ht.inv hcat_ne with ⟨hx,_⟩|⟨B,o,cap,cur,F,rfl,r⟩
  ·rw[hx] at hi;simp at hi
  ·have hs:=r.tab i j ek.1 ek.2 hi hj ho
   rw[hsub_hcat] at hs
   obtain ⟨q1,q2⟩:=TabV.nodeH p ⟨ek.1,ek.2,asL ek.2 (nth .junk (gt d.k d.xs i) j)⟩ hs hp
   rw[nodeAt_cons ho]
   simp only[imgAt,subI_img hi hj]
   exact ⟨q1,fun B' hB'=>(owns_img (by simp)).2 (.inr ⟨i,j,hi,hj,q2 B' hB'⟩)⟩
theorem TabV.ctx {w':World} {M S':Nat→Prop} {h1 h2:Option Pth} {f:(k:CK)→List (CT k)→List (CT k)} {m2:Value} (hh1:h1≠some []) (hR:∀x y,PC w S x y→PC w' S' x y):∀(p:Pth) (d:Nd) {m:Value},TabV w M S os (hcat p h1) d.e d.k d.xs m→pathOk os d p→
  TabV w' M S' os h2 (nodeAt os d p).e (nodeAt os d p).k (f (nodeAt os d p).k (nodeAt os d p).xs) m2→(h2≠some []→p≠[]→hd m2=hdAt m p)→(∀B,Owns m B→¬Owns (imgAt m p) B→w'.heap[B]?=w.heap[B]?)→(∀B,Owns m2 B→Owns (imgAt m p) B∨¬Owns m B)→
  ∃m',TabV w' M S' os (hcat p h2) d.e d.k (modAt os f p d.k d.xs) m'∧(p=[]→m'=m2)∧(p≠[]→hd m'=hd m∧(modAt os f p d.k d.xs).length=d.xs.length)∧(∀B,Owns m' B→Owns m2 B∨(Owns m B∧¬Owns (imgAt m p) B))∧(m2=imgAt m p→m'=m)∧
   ((∀q,hdAt m2 q=hdAt (imgAt m p) q)→∀q,pathOk os d q→hdAt m' q=hdAt m q)
 |[],d,m,ht,_,h2',_,_,_=>⟨m2,by rw[hcat_nil];exact h2',fun _=>rfl,fun h=>absurd rfl h,fun B hB=> .inl hB,fun h=>h,fun h q _=>h q⟩
 | (i, j)::p,d,m,ht,hp,h2',hhd,hw,hnew=>by
  obtain ⟨hi,hj,ek,ho,hp⟩:=hp
  rcases ht.inv hcat_ne with ⟨hx,_⟩|⟨B,o,cap,cur,F,rfl,r⟩
  ·rw[hx] at hi;simp at hi
  ·have hs:=r.tab i j ek.1 ek.2 hi hj ho
   rw[hsub_hcat] at hs
   have hown:=(TabV.nodeH p ⟨ek.1,ek.2,asL ek.2 (nth .junk (gt d.k d.xs i) j)⟩ hs hp).2
   rw[nodeAt_cons ho] at h2'
   have himg:imgAt (img (.slice (some ⟨B,o,none⟩) d.xs.length cap) d.xs.length (width d.k) F) ((i,j)::p)=imgAt (F i j) p:=by simp only[imgAt,subI_img hi hj]
   have hOm:∀a b B',a<d.xs.length→b<width d.k→Owns (F a b) B'→Owns (img (.slice (some ⟨B,o,none⟩) d.xs.length cap) d.xs.length (width d.k) F) B':=fun a b B' ha hb h=>(owns_img (by simp)).2 (.inr ⟨a,b,ha,hb,h⟩)
   have hOB:Owns (img (.slice (some ⟨B,o,none⟩) d.xs.length cap) d.xs.length (width d.k) F) B:=(owns_img (by simp)).2 (.inl rfl)
   rw[himg] at hw hnew
   have hpe:h2≠some []→hd m2=hdAt (F i j) p:=fun h=>by
    have:=hhd h (by simp)
    rw[hdAt,himg] at this
    exact this
   obtain ⟨ms,q1,q2,q3,q4,q5,q6⟩:=TabV.ctx hh1 hR p ⟨ek.1,ek.2,asL ek.2 (nth .junk (gt d.k d.xs i) j)⟩ hs hp h2' (fun h _=>hpe h) (fun B' h1 h2=>hw B' (hOm i j B' hi hj h1) h2) fun B' hB'=>(hnew B' hB').imp id fun h h'=>h (hOm i j B' hi hj h')
   have hmod:modAt os f ((i,j)::p) d.k d.xs=d.xs.set i (setC d.k (nth (dflt d.k) d.xs i) j ek.2 (modAt os f p ek.2 (asL ek.2 (nth .junk (gt d.k d.xs i) j)))):=by simp only[modAt,ho]
   generalize hys:modAt os f p ek.2 (asL ek.2 (nth .junk (gt d.k d.xs i) j))=ys at*
   have hcell:=cell_setC (os:=os) (ys:=ys) hi ho
   have hlen:(d.xs.set i (setC d.k (nth (dflt d.k) d.xs i) j ek.2 ys)).length=d.xs.length:=List.length_set
   have hms:∀B',Owns ms B'→Owns (F i j) B'∨¬Owns (img (.slice (some ⟨B,o,none⟩) d.xs.length cap) d.xs.length (width d.k) F) B':=fun B' h=>(q4 B' h).elim (fun h=>(hnew B' h).imp (hown B') id) fun h=> .inl h.1
   have hF:∀a b,(if a=i∧b=j then ms else F a b)=if a=i∧b=j then ms else F a b:=fun _ _=>rfl
   refine ⟨img (.slice (some ⟨B,o,none⟩) d.xs.length cap) d.xs.length (width d.k) fun a b=>if a=i∧b=j then ms else F a b,?_,fun h=>absurd h (by simp),fun _=>⟨by rw[hd_img,hd_img],by rw[hmod];exact hlen⟩,fun B' hB'=> ?_,fun h=> ?_,fun h q hq=> ?_⟩
   ·rw [hmod]
    refine .row _ _ _ _ d.xs.length B o cap cur _ hcat_ne hlen r.own ?_ r.le r.max r.sz (fun a b ha hb hn=> ?_) (fun a b e2 k2 ha hb hn=> ?_) (fun a b e2 k2 ha hb hn=> ?_) (fun a b a' b' B' ha hb ha' hb' hne h3 h4=> ?_) (fun a b ha hb h3=> ?_)
    ·rw[hw B hOB fun h=>r.apart0 i j hi hj (hown B h)];exact r.at'
    ·have hne:¬(a=i∧b=j):=fun e=>by rw[e.2,ho] at hn;cases hn
     rw[hcell,if_neg hne]
     simp only[if_neg hne]
     exact ⟨hR _ _ (r.pure a b ha hb hn).1,(r.pure a b ha hb hn).2⟩
    ·by_cases he:a=i∧b=j
     ·obtain ⟨rfl,rfl⟩:=he
      rw[ho] at hn
      obtain rfl:ek=(e2,k2):=by simpa using hn
      rw[hcell,if_pos ⟨rfl,rfl⟩,asL_ro,hsub_hcat]
      simp only[and_self,if_true]
      exact q1
     ·rw[hcell,if_neg he,hsub_hcat_ne he]
      simp only[if_neg he]
      have h0:=r.tab a b e2 k2 ha hb hn
      rw[hsub_hcat_ne he] at h0
      refine h0.imp (fun _ h=>h) (fun B' hB'=>hw B' (hOm a b B' ha hb hB') fun h=> ?_) hR
      exact r.apart a b i j B' ha hb hi hj (by rcases Classical.em (a=i) with e|e;exact .inr fun e'=>he ⟨e,e'⟩;exact .inl e) hB' (hown B' h)
    ·obtain ⟨c1,c2⟩:=r.hdr a b e2 k2 ha hb hn
     refine ⟨c1,fun hh=> ?_⟩
     by_cases he:a=i∧b=j
     ·obtain ⟨rfl,rfl⟩:=he
      simp only[and_self,if_true]
      rw[hsub_hcat] at hh c2
      by_cases hp0:p=[]
      ·subst hp0
       rw[hcat_nil] at hh c2
       rw[q2 rfl,c2 hh1,hpe hh]
       rfl
      ·rw[(q3 hp0).1]
       refine c2 ?_
       cases p with
       |nil=>exact absurd rfl hp0
       |cons x p=>exact hcat_ne
     ·simp only[if_neg he]
      exact c2 (by rw[hsub_hcat_ne he];simp)
    ·by_cases he:a=i∧b=j
     ·obtain ⟨rfl,rfl⟩:=he
      have he':¬(a'=a∧b'=b):=fun e=>by rcases hne with h|h;exact h e.1.symm;exact h e.2.symm
      simp only[and_self,if_true] at h3
      simp only[if_neg he'] at h4
      rcases hms B' h3 with h|h
      ·exact r.apart a b a' b' B' ha hb ha' hb' hne h h4
      ·exact h (hOm a' b' B' ha' hb' h4)
     ·simp only[if_neg he] at h3
      by_cases he':a'=i∧b'=j
      ·obtain ⟨rfl,rfl⟩:=he'
       simp only[and_self,if_true] at h4
       rcases hms B' h4 with h|h
       ·exact r.apart a b a' b' B' ha hb ha' hb' hne h3 h
       ·exact h (hOm a b B' ha hb h3)
      ·simp only[if_neg he'] at h4
       exact r.apart a b a' b' B' ha hb ha' hb' hne h3 h4
    ·by_cases he:a=i∧b=j
     ·obtain ⟨rfl,rfl⟩:=he
      simp only[and_self,if_true] at h3
      rcases hms B h3 with h|h
      ·exact r.apart0 a b ha hb h
      ·exact h hOB
     ·simp only[if_neg he] at h3
      exact r.apart0 a b ha hb h3
   ·rw[himg]
    rcases (owns_img (by simp)).1 hB' with h|⟨a,b,ha,hb,h⟩
    ·simp only[blkOf,Option.some.injEq] at h
     subst h
     exact .inr ⟨hOB,fun h=>r.apart0 i j hi hj (hown _ h)⟩
    ·by_cases he:a=i∧b=j
     ·simp only[if_pos he] at h
      exact (q4 B' h).imp id fun h=>⟨hOm i j B' hi hj h.1,h.2⟩
     ·simp only[if_neg he] at h
      exact .inr ⟨hOm a b B' ha hb h,fun h'=>r.apart a b i j B' ha hb hi hj (by rcases Classical.em (a=i) with e|e;exact .inr fun e'=>he ⟨e,e'⟩;exact .inl e) h (hown B' h')⟩
   ·rw[himg] at h
    have hms':=q5 h
    congr 1
    funext a b
    by_cases he:a=i∧b=j
    ·rw[if_pos he,hms',he.1,he.2]
    ·rw[if_neg he]
   ·rw[himg] at h
    cases q with
    |nil=>rw[hdAt,hdAt,imgAt,imgAt,hd_img,hd_img]
    | cons x q=>
     obtain ⟨a,b⟩:=x
     obtain ⟨ha,hb,ek',ho',hq⟩:=hq
     simp only[hdAt,imgAt,subI_img ha hb]
     by_cases he:a=i∧b=j
     ·obtain ⟨rfl,rfl⟩:=he
      rw[ho] at ho'
      obtain rfl:ek=ek':=by simpa using ho'
      simp only[and_self,if_true]
      exact q6 h q hq
     ·simp only[if_neg he]
theorem HR.roS {base:Nat→Prop} {i B:Nat} (hh:HR H μ w S base) (hf:nth .free H i≠ .free) (hl:¬(nth .free H i).live) (hB:Owns (μ i) B):S B:=by
 have hblk:=hh.blk i
 cases hx:nth .free H i with
 |fro ver e kk xs=>rw[hx] at hblk;exact hblk.1 B hB
 |fmap ka va kk vk m=>
  rw[hx] at hblk
  obtain ⟨B',q1,q2,_⟩:=hblk
  rw[q1] at hB
  simp only[Owns,blkOf,Option.some.injEq] at hB
  exact hB▸q2
 |free=>exact absurd hx hf
 |tab fz ver iv e k os xs hole=>
  cases fz with
  |true=>rw[hx] at hblk;exact hblk.1 B hB
  |false=>rw[hx] at hl;exact absurd trivial hl
 |_=>rw[hx] at hl;exact absurd trivial hl
theorem HR.alter {base Ch:Nat→Prop} {H':List Blk} {μ':Nat→Value} {w':World} (hh:HR H μ w S base) (hCh:∀i,¬Ch i→nth .free H' i=nth .free H i∧μ' i=μ i) (he:Ext H μ H' μ') (hsz:w.heap.size≤w'.heap.size)
  (hw:∀B,B<w.heap.size→(∀c,Ch c→(nth .free H c).live→¬Owns (μ c) B)→w'.heap[B]?=w.heap[B]?) (hns:∀c B,Ch c→(nth .free H c).live→Owns (μ c) B→¬S B) (hx:∀i,Ch i→BlkR H' μ' w' S base i (nth .free H' i))
  (hv:∀i B,Ch i→(nth .free H' i).live→Owns (μ' i) B→(∃c,Ch c∧(nth .free H c).live∧Owns (μ c) B)∨w.heap.size≤B) (hd:∀i i' B,Ch i→Ch i'→i≠i'→(nth .free H' i).live→(nth .free H' i').live→Owns (μ' i) B→¬Owns (μ' i') B):HR H' μ' w' S base:=by
 have hS:∀B,S B→w'.heap[B]?=w.heap[B]?:=fun B h=>hw B (hh.stab B h) fun c hc hl ho=>hns c B hc hl ho h
 have out:∀i B,¬Ch i→(nth .free H i).live→Owns (μ i) B→∀c,Ch c→(nth .free H c).live→¬Owns (μ c) B:=fun i B hi hl hB c hc hlc hBc=>hh.inj i c B hl hlc (fun e=>hi (e▸hc)) hB hBc
 refine ⟨fun i=> ?_,fun i i' B hi hi' hne hB hB'=> ?_,fun B h=>Nat.lt_of_lt_of_le (hh.stab B h) hsz,hh.glob.mono (fun _ h=>h) hS⟩
 ·by_cases hi:Ch i
  ·exact hx i hi
  ·obtain ⟨e1,e2⟩:=hCh i hi
   rw[e1]
   by_cases hf:nth .free H i= .free
   ·rw[hf];trivial
   ·refine (hh.blk i).keep he e2 (fun B h=> ?_) hS
    by_cases hl:(nth .free H i).live
    ·exact hw B (hh.old hf h) (out i B hi hl h)
    ·exact hS B (hh.roS hf hl h)
 ·by_cases h1:Ch i<;>by_cases h2:Ch i'
  ·exact hd i i' B h1 h2 hne hi hi' hB hB'
  ·obtain ⟨e1,e2⟩:=hCh i' h2
   rw[e1] at hi'
   rw[e2] at hB'
   rcases hv i B h1 hi hB with ⟨c,hc,hl,ho⟩|h
   ·exact out i' B h2 hi' hB' c hc hl ho
   ·have:=hh.old (fun hf=>by rw[hf] at hi';exact hi') hB';omega
  ·obtain ⟨e1,e2⟩:=hCh i h1
   rw[e1] at hi
   rw[e2] at hB
   rcases hv i' B h2 hi' hB' with ⟨c,hc,hl,ho⟩|h
   ·exact out i B h1 hi hB c hc hl ho
   ·have:=hh.old (fun hf=>by rw[hf] at hi;exact hi) hB;omega
  ·obtain ⟨e1,e2⟩:=hCh i h1
   obtain ⟨e3,e4⟩:=hCh i' h2
   rw[e1] at hi;rw[e2] at hB;rw[e3] at hi';rw[e4] at hB'
   exact hh.inj i i' B hi hi' hne hB hB'
theorem Ext.tab {b:Nat} {d d':TD} {fz:Bool} {v:Value} (hb:tabD (nth .free H b)=some d) (h1:d.ver≤d'.ver) (h2:d.iv≤d'.iv) (h3:∀p,d.vp p=d'.vp p→SameP d d' (μ b) v p):Ext H μ (put H b (.tab fz d'.ver d'.iv d'.e d'.k d'.os d'.xs d'.hole)) (setI μ b v):=by
 intro i
 by_cases hi:i=b
 ·subst hi
  refine ⟨fun cs h=>(by rw[h] at hb;cases hb),fun r h=> ?_,fun h=> ?_,fun h=> ?_,fun d0 h=> ?_⟩
  ·cases hx:nth .free H i<;>rw[hx] at hb h<;>first|(cases hb;done)|(cases h;done)
  ·cases hx:nth .free H i<;>rw[hx] at hb h<;>first|(cases hb;done)|(cases h;done)
  ·cases hx:nth .free H i<;>rw[hx] at hb h<;>first|(cases hb;done)|(cases h;done)
  ·rw[hb] at h
   obtain rfl:d=d0:=by simpa using h
   refine ⟨d',by rw[nth_put_eq (lt_of_live fun e=>by rw[e] at hb;cases hb)];rfl,h1,h2,fun p e=> ?_⟩
   rw[show setI μ i v i=v by simp[setI]]
   exact h3 p e
 ·rw[nth_put_ne hi]
  exact ⟨fun cs h=>⟨cs,h,by simp[setI,hi]⟩,fun r h=>⟨r,h,rfl,Nat.le_refl _,fun _=>⟨rfl,by simp[setI,hi]⟩⟩,fun h=>⟨h,by simp[setI,hi]⟩,fun h=>⟨h,by simp[setI,hi]⟩,fun d h=>⟨d,h,Nat.le_refl _,Nat.le_refl _,fun p _=>by simp[setI,hi,SameP.refl]⟩⟩
theorem dec_pair (a b:CK) (cs:List AV):dec (.pair a b) cs=(dec a cs,dec b (dropL cs (width a))):=rfl
theorem own_dec {e2:TypeId} {k2:CK}:∀(k:CK) (j:Nat) (cs:List AV),ownC os k j=some (e2,k2)→asL k2 (nth .junk (enc k (dec k cs)) j)=asL k2 (nth .junk cs j):=by
 intro k
 induction k with
 |bool=>intro j cs h;cases h
 |int _=>intro j cs h;cases h
 |str=>intro j cs h;cases h
 |map _ _ _ _=>intro j cs h;cases h
 |other=>intro j cs h;cases h
 | slice e k ih=>
  intro j cs h
  cases j with
  |succ j=>cases h
  | zero=>
   simp only[ownC] at h
   cases hc:os.contains e<;>rw[hc] at h
   ·cases h
   ·simp only[cond_true,Option.some.injEq,Prod.mk.injEq] at h
    obtain ⟨rfl,rfl⟩:=h
    exact asL_ro k _
 | pair a b iha ihb=>
  intro j cs h
  simp only[ownC] at h
  rw[dec_pair,show enc (.pair a b) (dec a cs,dec b (dropL cs (width a)))=enc a (dec a cs)++enc b (dec b (dropL cs (width a))) from rfl,nth_append,enc_length]
  cases hb:Nat.blt j (width a)<;>rw[hb] at h
  ·have hge:¬j<width a:=by rw[←Nat.blt_eq,hb];simp
   rw[if_neg hge]
   rw[cond_false] at h
   rw[ihb _ _ h,dropL_eq,nth_drop]
   congr 2
   omega
  ·have hlt:j<width a:=by rw[←Nat.blt_eq];exact hb
   rw[if_pos hlt]
   rw[cond_true] at h
   exact iha _ _ h
theorem ownRange_spec {k:CK}:∀(n j:Nat),ownRange os k j n=false→∀q,j≤q→q<j+n→ownC os k q=none
 |0,j,_,q,h1,h2=>by omega
 | n+1,j,h,q,h1,h2=>by
  simp only[ownRange,Bool.or_eq_false_iff] at h
  by_cases hq:q=j
  ·subst hq
   cases ho:ownC os k q with
   |none=>rfl
   |some x=>rw[ho] at h;cases h.1
  ·exact ownRange_spec n (j+1) h.2 q (by omega) (by omega)
theorem dec_cell {w : World} {S : Nat → Prop} {u : Value} : ∀ (k:CK) (cs:List AV) (q:Nat),decOk k cs=true→q<width k→PV w S (nth .junk cs q) u→PV w S (nth .junk (enc k (dec k cs)) q) u
 | .pair a b,cs,q,hk,hq,h=>by
  simp only[decOk,Bool.and_eq_true] at hk
  rw[dec_pair,show enc (.pair a b) (dec a cs,dec b (dropL cs (width a)))=enc a (dec a cs)++enc b (dec b (dropL cs (width a))) from rfl,nth_append,enc_length]
  by_cases hqa:q<width a
  ·rw[if_pos hqa];exact dec_cell a cs q hk.1 hqa h
  ·rw[if_neg hqa]
   simp only[width] at hq
   refine dec_cell b _ _ hk.2 (by omega) ?_
   rw[dropL_eq,nth_drop,show width a+(q-width a)=q by omega]
   exact h
 | .bool,cs,q,hk,hq,h=>by
  have h0:q=0:=by simp[width] at hq;exact hq
  subst h0
  exact dec_sound .bool cs (fun _ => u) hk (fun j hj => by obtain rfl:j=0:=by simp[width] at hj;exact hj
                                                           exact h) 0 hq
 | .int k,cs,q,hk,hq,h=>by
  have h0:q=0:=by simp[width] at hq;exact hq
  subst h0
  exact dec_sound (.int k) cs (fun _ => u) hk (fun j hj => by obtain rfl:j=0:=by simp[width] at hj;exact hj
                                                              exact h) 0 hq
 | .str,cs,q,hk,hq,h=>by
  have h0:q=0:=by simp[width] at hq;exact hq
  subst h0
  exact dec_sound .str cs (fun _ => u) hk (fun j hj => by obtain rfl:j=0:=by simp[width] at hj;exact hj
                                                          exact h) 0 hq
 | .slice e k,cs,q,hk,hq,h=>by
  have h0:q=0:=by simp[width] at hq;exact hq
  subst h0
  exact dec_sound (.slice e k) cs (fun _ => u) hk (fun j hj => by obtain rfl:j=0:=by simp[width] at hj;exact hj
                                                                  exact h) 0 hq
 | .map ka va kk vk,cs,q,hk,hq,h=>by
  have h0:q=0:=by simp[width] at hq;exact hq
  subst h0
  exact dec_sound (.map ka va kk vk) cs (fun _ => u) hk (fun j hj => by obtain rfl:j=0:=by simp[width] at hj;exact hj
                                                                        exact h) 0 hq
 | .other,cs,q,hk,hq,h=>by
  have h0:q=0:=by simp[width] at hq;exact hq
  subst h0
  exact .junk _
theorem nodeAt_cons' {e:TypeId} {k:CK} {xs:List (CT k)} {i j:Nat} {p:Pth} {ek:TypeId×CK} (ho:ownC os k j=some ek):nodeAt os ⟨e,k,xs⟩ ((i,j)::p)=nodeAt os ⟨ek.1,ek.2,asL ek.2 (nth .junk (gt k xs i) j)⟩ p:=nodeAt_cons (d:=⟨e,k,xs⟩) ho
def PSame (os:List TypeId) (d d':Nd) (q:Pth):Prop:=pathOk os d' q∧(nodeAt os d' q).xs.length=(nodeAt os d q).xs.length∧width (nodeAt os d' q).k=width (nodeAt os d q).k
theorem PSame.refl {d:Nd} {q:Pth} (h:pathOk os d q):PSame os d d q:=⟨h,rfl,rfl⟩
theorem modAt_same {f:(k:CK)→List (CT k)→List (CT k)}:∀(p:Pth) (d:Nd),pathOk os d p→(∀q,pathOk os (nodeAt os d p) q→PSame os (nodeAt os d p) ⟨(nodeAt os d p).e,(nodeAt os d p).k,f (nodeAt os d p).k (nodeAt os d p).xs⟩ q)→
  ∀q,pathOk os d q→PSame os d ⟨d.e,d.k,modAt os f p d.k d.xs⟩ q
 |[],d,_,h,q,hq=>h q hq
 | (i,j)::p,d,hp,h,q,hq=>by
  obtain ⟨hi,hj,ek,ho,hp⟩:=hp
  rw[nodeAt_cons ho] at h
  have ih:=modAt_same p _ hp h
  have hmod:modAt os f ((i,j)::p) d.k d.xs=d.xs.set i (setC d.k (nth (dflt d.k) d.xs i) j ek.2 (modAt os f p ek.2 (asL ek.2 (nth .junk (gt d.k d.xs i) j)))):=by simp only[modAt,ho]
  rw[hmod]
  have hcell:=cell_setC (os:=os) (ys:=modAt os f p ek.2 (asL ek.2 (nth .junk (gt d.k d.xs i) j))) hi ho
  cases q with
  |nil=>exact ⟨trivial,List.length_set,rfl⟩
  | cons x q=>
   obtain ⟨a,b⟩:=x
   obtain ⟨ha,hb,ek',ho',hq⟩:=hq
   have key:PSame os ⟨ek'.1,ek'.2,asL ek'.2 (nth .junk (gt d.k d.xs a) b)⟩ ⟨ek'.1,ek'.2,asL ek'.2 (nth .junk (gt d.k (d.xs.set i (setC d.k (nth (dflt d.k) d.xs i) j ek.2 (modAt os f p ek.2 (asL ek.2 (nth .junk (gt d.k d.xs i) j))))) a) b)⟩ q:=by
    rw[hcell]
    by_cases he:a=i∧b=j
    ·obtain ⟨rfl,rfl⟩:=he
     rw[ho] at ho'
     obtain rfl:ek=ek':=by simpa using ho'
     rw[if_pos ⟨rfl,rfl⟩,asL_ro]
     exact ih q hq
    ·rw[if_neg he];exact PSame.refl hq
   refine ⟨⟨by simp only;rw[List.length_set];exact ha,hb,ek',ho',key.1⟩,?_,?_⟩
   ·rw[show nodeAt os d ((a,b)::q)=_ from nodeAt_cons ho',nodeAt_cons' ho'];exact key.2.1
   ·rw[show nodeAt os d ((a,b)::q)=_ from nodeAt_cons ho',nodeAt_cons' ho'];exact key.2.2
theorem pure_same {d:Nd} {i j:Nat} {ns:List AV} (hi:i<d.xs.length) (hn:∀q,j≤q→q<j+ns.length→ownC os d.k q=none) (q:Pth) (hq:pathOk os d q):
  PSame os d ⟨d.e,d.k,d.xs.set i (dec d.k (mend (gt d.k d.xs i) ns j 0 (width d.k)))⟩ q:=by
 cases q with
 |nil=>exact ⟨trivial,List.length_set,rfl⟩
 | cons x q=>
  obtain ⟨a,b⟩:=x
  obtain ⟨ha,hb,ek',ho',hq⟩:=hq
  have key:asL ek'.2 (nth .junk (gt d.k (d.xs.set i (dec d.k (mend (gt d.k d.xs i) ns j 0 (width d.k)))) a) b)=asL ek'.2 (nth .junk (gt d.k d.xs a) b):=by
   rw[gt_set a hi]
   by_cases h:a=i
   ·subst h
    rw[if_pos rfl,own_dec (e2:=ek'.1) d.k b _ ho']
    have hms:=(mend_spec (gt d.k d.xs a) ns j (width d.k) 0).2 b hb
    rw[hms]
    simp only[Nat.zero_add]
    rw[if_neg fun e=>by rw[hn b e.1 e.2] at ho';cases ho']
   ·rw[if_neg h]
  refine ⟨⟨by simp only;rw[List.length_set];exact ha,hb,ek',ho',by simp only;rw[key];exact hq⟩,?_,?_⟩
  ·rw[show nodeAt os d ((a,b)::q)=_ from nodeAt_cons ho',nodeAt_cons' ho',key]
  ·rw[show nodeAt os d ((a,b)::q)=_ from nodeAt_cons ho',nodeAt_cons' ho',key]
theorem modAt_id:∀(p:Pth) (d:Nd),pathOk os d p→modAt os (fun _ xs=>xs) p d.k d.xs=d.xs
 |[],d,_=>rfl
 | (i,j)::p,d,hp=>by
  obtain ⟨hi,hj,ek,ho,hp⟩:=hp
  have ih:=modAt_id p ⟨ek.1,ek.2,asL ek.2 (nth .junk (gt d.k d.xs i) j)⟩ hp
  have hmod:modAt os (fun _ xs=>xs) ((i,j)::p) d.k d.xs=d.xs.set i (setC d.k (nth (dflt d.k) d.xs i) j ek.2 (modAt os (fun _ xs=>xs) p ek.2 (asL ek.2 (nth .junk (gt d.k d.xs i) j)))):=by simp only[modAt,ho]
  rw[hmod,ih]
  have self:∀(k:CK) (j:Nat) (x:CT k),ownC os k j=some ek→setC k x j ek.2 (asL ek.2 (nth .junk (enc k x) j))=x:=by
   intro k
   induction k with
   |bool=>intro j x h;cases h
   |int _=>intro j x h;cases h
   |str=>intro j x h;cases h
   |map _ _ _ _=>intro j x h;cases h
   |other=>intro j x h;cases h
   | slice e k ih=>
    intro j x h
    cases j with
    |succ j=>cases h
    | zero=>
     simp only[ownC] at h
     cases hc:os.contains e<;>rw[hc] at h
     ·cases h
     ·simp only[cond_true,Option.some.injEq] at h
      subst h
      rw[setC_slice,asL_ro]
      exact asL_ro k x
   | pair a b iha ihb=>
    intro j x h
    simp only[ownC] at h
    rw[setC_pair,enc_pair,nth_append,enc_length]
    cases hb:Nat.blt j (width a)<;>rw[hb] at h
    ·have hge:¬j<width a:=by rw[←Nat.blt_eq,hb];simp
     rw[if_neg hge]
     rw[cond_false] at h⊢
     rw[ihb _ _ h];rfl
    ·have hlt:j<width a:=by rw[←Nat.blt_eq];exact hb
     rw[if_pos hlt]
     rw[cond_true] at h⊢
     rw[iha _ _ h];rfl
  have e:=self d.k j (nth (dflt d.k) d.xs i) ho
  rw[show gt d.k d.xs i=enc d.k (nth (dflt d.k) d.xs i) from rfl,e]
  refine List.ext_getElem List.length_set fun q h1 h2=> ?_
  rw[List.getElem_set]
  split
  ·rename_i hq;subst hq;exact nth_lt _ _ _ hi
  ·rfl
theorem splice_cells {cur:Array Value} {vals:List Value} {o sz cap n i j m:Nat} (hsz:cur.size=o+cap*sz) (hn:n≤cap) (hi:i<n) (hj:j+m≤sz) (hl:vals.length=m):
  (cur.toList.take (o+(i*sz+j))++vals++cur.toList.drop (o+(i*sz+j)+vals.length)).toArray.size=cur.size∧∀i' q,i'<n→q<sz→
   (cur.toList.take (o+(i*sz+j))++vals++cur.toList.drop (o+(i*sz+j)+vals.length)).toArray.getD (o+(i'*sz+q)) undef=if i'=i∧j≤q∧q<j+m then vals.getD (q-j) undef else cur.getD (o+(i'*sz+q)) undef:=by
 have hin:∀a,a<n→o+(a*sz+sz)≤cur.size:=fun a ha=>by
  rw[hsz,←Nat.succ_mul];exact Nat.add_le_add_left (Nat.mul_le_mul_right _ (by omega)) _
 have h0:=hin i hi
 refine ⟨by simp;omega,fun i' q hi' hq=> ?_⟩
 have h1:=hin i' hi'
 rw[splice_getD (by omega),hl]
 by_cases he:i'=i∧j≤q∧q<j+m
 ·obtain ⟨rfl,h2,h3⟩:=he
  rw[if_neg (by omega),if_pos (by omega),if_pos ⟨rfl,h2,h3⟩]
  congr 1
  omega
 ·rw [if_neg he]
  by_cases h2:o+(i'*sz+q)<o+(i*sz+j)
  ·rw[if_pos h2]
  ·rw [if_neg h2]
   by_cases h3:o+(i'*sz+q)<o+(i*sz+j)+m
   ·exfalso
    have h4:i'=i:=by
     rcases Nat.lt_trichotomy i' i with h|h|h
     ·have:(i'+1)*sz≤i*sz:=Nat.mul_le_mul_right _ h
      rw[Nat.add_mul] at this;omega
     ·exact h
     ·have:(i+1)*sz≤i'*sz:=Nat.mul_le_mul_right _ h
      rw[Nat.add_mul] at this;omega
    subst h4
    exact he ⟨rfl,by omega,by omega⟩
   ·rw[if_neg h3]
variable {P:Program} {w0:World} {S0:Sc}
theorem isTab_frozen {b:Nat} {d:TD} {l:List Nat} (hb:nth .free H b= .tab false d.ver d.iv d.e d.k d.os d.xs d.hole) (hn:l.contains b=false):nth .free (sets H (frozenB H l)) b= .tab false d.ver d.iv d.e d.k d.os d.xs d.hole:=by
 rw[frozenB_nth H l H (fun _=> .inl rfl) rfl b,hn,hb];rfl
theorem storeT_pure {b ver:Nat} {p:Pth} {i j:Nat} {t:TypeId} {d:TD} {x:AV} {v va:Value} (hr:RepAt w0 S0 H μ S w) (hb:nth .free H b= .tab false d.ver d.iv d.e d.k d.os d.xs d.hole) (hva:VR H μ w S (.tptr b ver p i j) va) (hv:VR H μ w S x v)
  (hon:ownRange d.os (d.nd p).k j (P.cellsOf t)=false) {f:Eff} (hval:f.val= .junk)
  (hwr:f.wr=frozenB H (refs x)++[(b, .tab false d.ver d.iv d.e d.k d.os (modAt d.os (fun k ys=>ys.set i (dec k (mend (gt k ys i) (cellsA (view H x)) j 0 (width k)))) p d.k d.xs) none)])
  (hx:isV x=true) (hnb:(refs x).contains b=false) (hver:ver=d.vp p) (hhole:d.hole=none) (ht:0<P.cellsOf t) (hfit:j+P.cellsOf t≤width (d.nd p).k) (hl:(cellsA (view H x)).length=P.cellsOf t) (hone:(cellsA (view H x)).all pure1=true)
  (hdk:decOk (d.nd p).k (mend (gt (d.nd p).k (d.nd p).xs i) (cellsA (view H x)) j 0 (width (d.nd p).k))=true) (hi:i<(d.nd p).xs.length) (u:Value):
  ∃w',(Instr.storeAt t va v).run P w= .ok () w'∧After w0 S0 H μ S w f u w':=by
 obtain ⟨hf1,hf2⟩:=hr.hr.frozen (refs x)
 obtain ⟨c1,c2⟩:=view_cells hr.hr hv hx (l:=refs x) (fun _ h=>h)
 have hn':=isTab_frozen hb hnb
 have hblk:=hf1.blk b
 rw[hn'] at hblk
 obtain ⟨hnS,htab⟩:=hblk
 rw[hhole] at htab
 cases hva with
 |pv h=>cases h
 | tptr _ _ _ _ _ d' B o hrd hle hcur=>
  rw[hb] at hrd
  obtain rfl:d=d':=by simpa [tabD] using hrd
  obtain ⟨hpo,o0,cap',rfl,hm⟩:=hcur hver
  obtain ⟨hnode,hown⟩:=TabV.node p ⟨d.e,d.k,d.xs⟩ htab hpo
  rw[show nodeAt d.os ⟨d.e,d.k,d.xs⟩ p=d.nd p from rfl] at hnode
  rcases hnode.inv (by simp) with ⟨hz,_⟩|⟨B',o1,cap,cur,F,himg,r⟩
  ·rw[hz] at hi;simp at hi
  ·have hm':hdAt (μ b) p= .slice (some ⟨B',o1,none⟩) (d.nd p).xs.length cap:=by rw[hdAt,himg,hd_img]
   rw[hm] at hm'
   simp only[Value.slice.injEq,Option.some.injEq,Addr.mk.injEq,and_true,true_and] at hm'
   obtain ⟨⟨rfl,rfl⟩,rfl⟩:=hm'
   have hOB:Owns (imgAt (μ b) p) B:=by rw[himg];exact (owns_img (by simp)).2 (.inl rfl)
   have hmb:Owns (μ b) B:=hown B hOB
   have hvs:v.cells.size=P.cellsOf t:=by rw[←c1];exact hl
   have hone':∀y∈v.cells.toList,y.oneCell'=true:=mem_cells (H:=H) (μ:=μ) (w:=w) (S:=SF H μ S (refs x)) (c:=cellsA (view H x)) ⟨c1,fun q hq=> .pv (c2 q hq)⟩ (by
    rw[List.all_eq_true] at hone⊢
    exact fun y hy=>pure1_cell1 (hone y hy))
   have hlen:v.cells.toList.length=P.cellsOf t:=by simpa using hvs
   have hin:o0+(i*width (d.nd p).k+width (d.nd p).k)≤cur.size:=by
    rw[r.sz,←Nat.succ_mul];exact Nat.add_le_add_left (Nat.mul_le_mul_right _ (by have:=r.le;omega)) _
   have hrun:=storeVar_run (P:=P) (t:=t) (v:=v) (B:=B) (o:=o0+(i*width (d.nd p).k+j)) (by omega) hvs r.at' (by omega) hone'
   obtain ⟨s1,s2⟩:=splice_cells (vals:=v.cells.toList) (cur:=cur) (o:=o0) (sz:=width (d.nd p).k) r.sz r.le hi hfit hlen
   generalize hcur':(cur.toList.take (o0+(i*width (d.nd p).k+j))++v.cells.toList++cur.toList.drop (o0+(i*width (d.nd p).k+j)+v.cells.toList.length)).toArray=cur' at*
   have hnSB:¬SF H μ S (refs x) B:=hnS B hmb
   have hPC:∀a c,PC w (SF H μ S (refs x)) a c→PC (w.setRow B cur') (SF H μ S (refs x)) a c:=fun a c h=>h.mono (fun _ h=>h) fun B' h=>setRow_ne (fun e=>hnSB (e▸h))
   have hms:=mend_spec (gt (d.nd p).k (d.nd p).xs i) (cellsA (view H x)) j (width (d.nd p).k) 0
   have hno:∀q,j≤q→q<j+(cellsA (view H x)).length→ownC d.os (d.nd p).k q=none:=fun q h1 h2=>ownRange_spec _ _ hon q h1 (by omega)
   have hrow:TabV (w.setRow B cur') S0.own (SF H μ S (refs x)) d.os none (d.nd p).e (d.nd p).k ((d.nd p).xs.set i (dec (d.nd p).k (mend (gt (d.nd p).k (d.nd p).xs i) (cellsA (view H x)) j 0 (width (d.nd p).k)))) (imgAt (μ b) p):=by
    rw[himg]
    refine .row _ _ _ _ (d.nd p).xs.length B o0 cap' cur' F (by simp) List.length_set r.own (setRow_get r.at') r.le r.max (s1.trans r.sz) (fun a q ha hq hoc=> ?_) (fun a q e2 k2 ha hq hoc=> ?_) (fun a q e2 k2 ha hq hoc=> ?_) r.apart r.apart0
    ·refine ⟨?_,(r.pure a q ha hq hoc).2⟩
     rw[gt_set a hi,s2 a q ha hq]
     by_cases hai:a=i
     ·subst hai
      rw[if_pos rfl]
      by_cases hjq:j≤q∧q<j+P.cellsOf t
      ·rw[if_pos ⟨rfl,hjq⟩]
       have h4:=c2 (q-j) (by omega)
       have e5:v.cells.toList.getD (q-j) undef=v.cells.getD (q-j) undef:=by rw[List.getD_eq_getElem?_getD,Array.getD_eq_getD_getElem?];simp
       have hq4:q-j<v.cells.size:=by omega
       rw[e5]
       refine ⟨dec_cell _ _ _ hdk hq ?_,hone' _ ?_⟩
       ·rw[hms.2 q hq]
        simp only[Nat.zero_add]
        rw[if_pos (by omega)]
        exact h4.mono (fun _ h=>h) fun B' h=>setRow_ne (fun e=>hnSB (e▸h))
       ·rw[Array.getD_eq_getD_getElem?,Array.getElem?_eq_getElem hq4]
        exact Array.mem_toList_iff.2 (Array.getElem_mem hq4)
      ·rw[if_neg (fun e=>hjq e.2)]
       have h4:=hPC _ _ (r.pure a q ha hq hoc).1
       refine ⟨dec_cell _ _ _ hdk hq ?_,h4.2⟩
       rw[hms.2 q hq]
       simp only[Nat.zero_add]
       rw[if_neg (by omega)]
       exact h4.1
     ·rw[if_neg hai,if_neg (fun e=>hai e.1)]
      exact hPC _ _ (r.pure a q ha hq hoc).1
    ·have h0:=(r.tab a q e2 k2 ha hq hoc)
     rw[hsub_none] at h0⊢
     have key:asL k2 (nth .junk (gt (d.nd p).k ((d.nd p).xs.set i (dec (d.nd p).k (mend (gt (d.nd p).k (d.nd p).xs i) (cellsA (view H x)) j 0 (width (d.nd p).k)))) a) q)=asL k2 (nth .junk (gt (d.nd p).k (d.nd p).xs a) q):=by
      rw[gt_set a hi]
      by_cases hai:a=i
      ·subst hai
       rw[if_pos rfl,own_dec _ _ _ hoc,hms.2 q hq]
       simp only[Nat.zero_add]
       rw[if_neg fun e=>by rw[hno q e.1 e.2] at hoc;cases hoc]
      ·rw[if_neg hai]
     rw[key]
     exact h0.imp (fun _ h=>h) (fun B' hB'=>setRow_ne (fun e=>r.apart0 a q ha hq (e▸hB'))) hPC
    ·have h0:=r.hdr a q e2 k2 ha hq hoc
     rw[s2 a q ha hq,if_neg fun e=>by rw[hno q e.2.1 (by rw[hl];exact e.2.2)] at hoc;cases hoc]
     exact h0
   obtain ⟨m',q1,q2,q3,q4,q5,q6⟩:=TabV.ctx (os:=d.os) (S':=SF H μ S (refs x)) (w':=w.setRow B cur') (h1:=none) (h2:=none) (f:=fun k ys=>ys.set i (dec k (mend (gt k ys i) (cellsA (view H x)) j 0 (width k)))) (by simp) hPC p ⟨d.e,d.k,d.xs⟩ htab hpo hrow (fun _ _=>rfl)
    (fun B' h1 h2=>setRow_ne (fun e=>h2 (e▸hOB))) (fun B' h=> .inl h)
   have hmm:=q5 rfl
   subst hmm
   rw[hcat_none] at q1
   have hx':Ext (sets H (frozenB H (refs x))) μ (put (sets H (frozenB H (refs x))) b (.tab false d.ver d.iv d.e d.k d.os (modAt d.os (fun k ys=>ys.set i (dec k (mend (gt k ys i) (cellsA (view H x)) j 0 (width k)))) p d.k d.xs) none)) (setI μ b (μ b)):=
    Ext.tab (d:=d) (d':=⟨d.ver,d.iv,d.e,d.k,d.os,modAt d.os (fun k ys=>ys.set i (dec k (mend (gt k ys i) (cellsA (view H x)) j 0 (width k)))) p d.k d.xs,none⟩) (by rw[hn'];rfl) (Nat.le_refl _) (Nat.le_refl _) fun q _ hq=>by
     have:=modAt_same (f:=fun k ys=>ys.set i (dec k (mend (gt k ys i) (cellsA (view H x)) j 0 (width k)))) p ⟨d.e,d.k,d.xs⟩ hpo (fun q hq=>pure_same hi hno q hq) q hq
     exact ⟨this.1,this.2.1,this.2.2,rfl⟩
   refine ⟨_,hrun,setI μ b (μ b),SF H μ S (refs x),?_,?_,fun B h=> .inl h,fun B' h=>setRow_ne (fun e=>hnSB (e▸ .inl h)),?_⟩
   ·rw[hwr,sets_append]
    refine ⟨hf1.change (w':=w.setRow B cur') (by rw[hn'];trivial) hx' (by simp) (fun B' _ hne=>setRow_ne (fun e=>hne (e▸hmb))) hnS (fun B' h=> .inl h) ⟨by simpa [setI] using hnS,by simp only[setI,if_true];exact q1⟩,setRow_below hr.below r.own,fun B h=> .inl (hr.sub B h),fun B h=>(hf2 B h).elim (hr.sup B) .inr,hr.fresh,hr.pins.ext ((Ext.frozen _).trans hx')⟩
   ·rw[hwr,sets_append]
    exact (Ext.frozen _).trans hx'
   ·rw[hval];exact .junk _
def takeable:Blk→Bool
 | .row .. =>true
 | .tab false .. =>true
 |_=>false
def deadI (H:List Blk) (c:Nat):Value:=
 match nth .free H c with
 | .tab .. =>img (.slice none 0 0) 0 0 fun _ _=>undef
 |_=> .slice none 0 0
theorem nil_owns {B:Nat}:¬Owns (img (.slice none 0 0) 0 0 fun _ _=>undef) B:=fun h=>by
 rcases (owns_img (by simp)).1 h with h|⟨i,j,hi,_⟩
 ·cases h
 ·omega
theorem deadI_owns {c B:Nat}:¬Owns (deadI H c) B:=by
 unfold deadI
 split
 ·exact nil_owns
 ·intro h;cases h
theorem deadB_fst {c:Nat}:(deadB H c).1=c:=by unfold deadB;split<;>rfl
theorem take_live {x:Blk} (h:takeable x=true):x.live:=by cases x<;>first|trivial|(cases h;done)|(rename_i fz _ _ _ _ _ _ _;cases fz<;>first|trivial|cases h)
theorem take_free {c:Nat} (h:takeable (nth .free H c)=true):nth .free H c≠ .free:=fun e=>by rw[e] at h;cases h
theorem take_notS {base:Nat→Prop} {c B:Nat} (hh:HR H μ w S base) (h:takeable (nth .free H c)=true) (hB:Owns (μ c) B):¬S B:=by
 have hb:=hh.blk c
 cases hx:nth .free H c<;>rw[hx] at h hb<;>try (cases h;done)
 ·exact hb.1 B hB
 ·rename_i fz _ _ _ _ _ _ _
  cases fz with
  |true=>cases h
  |false=>exact hb.1 B hB
theorem take_own {base:Nat→Prop} {c B:Nat} (hh:HR H μ w S base) (h:takeable (nth .free H c)=true) (hB:Owns (μ c) B):base B:=by
 refine hh.ownBase ?_ hB
 cases hx:nth .free H c<;>rw[hx] at h<;>first|(cases h;done)|rfl|(rename_i fz _ _ _ _ _ _ _;cases fz<;>first|rfl|cases h)
theorem dead_blk {base:Nat→Prop} {c:Nat} {H':List Blk} {μ':Nat→Value} {w':World} (h:takeable (nth .free H c)=true) (hm:μ' c=deadI H c):BlkR H' μ' w' S base c (deadB H c).2:=by
 unfold deadB
 unfold deadI at hm
 cases hx:nth .free H c<;>rw[hx] at h hm<;>try (cases h;done)
 ·exact ⟨fun B hB=>(by rw[hm] at hB;cases hB),by rw[hm];exact .inl ⟨rfl,rfl⟩⟩
 ·rename_i fz _ _ _ _ _ _ _
  cases fz with
  |true=>cases h
  |false=>exact ⟨fun B hB=>by rw[hm] at hB;exact absurd hB nil_owns,by rw[hm];exact .nil _ _ _ _ (by simp) rfl⟩
theorem deads_nth:∀(l:List Nat) (H0:List Blk) (b:Nat),(∀c∈l,c<H0.length)→nth .free (sets H0 (l.map (deadB H))) b=if b∈l then (deadB H b).2 else nth .free H0 b
 |[],H0,b,_=>by simp[sets]
 | c::l,H0,b,hl=>by
  simp only[List.map_cons]
  have e:sets H0 (deadB H c::l.map (deadB H))=sets (put H0 (deadB H c).1 (deadB H c).2) (l.map (deadB H)):=rfl
  rw[e,deads_nth l _ b fun c' hc'=>by rw[put_length];exact hl c' (List.mem_cons_of_mem _ hc'),deadB_fst]
  by_cases hb:b∈l
  ·rw[if_pos hb,if_pos (List.mem_cons_of_mem _ hb)]
  ·rw[if_neg hb]
   by_cases hbc:b=c
   ·subst hbc
    rw[if_pos List.mem_cons_self,nth_put_eq (hl b List.mem_cons_self)]
   ·rw[nth_put_ne hbc,if_neg]
    intro h
    rcases List.mem_cons.1 h with h|h
    ·exact hbc h
    ·exact hb h
theorem HR.take {base:Nat→Prop} {l:List Nat} {b:Nat} {x:Blk} {v:Value} {w':World} (hh:HR H μ w S base) (hl:∀c∈l,takeable (nth .free H c)=true) (hbl:b∉l) (hlt:b<H.length) (hbf:nth .free H b= .free∨takeable (nth .free H b)=true)
  (he:Ext H μ (put H b x) (setI μ b v)) (hsz:w.heap.size≤w'.heap.size) (hw:∀B,B<w.heap.size→¬(takeable (nth .free H b)=true∧Owns (μ b) B)→w'.heap[B]?=w.heap[B]?)
  (hv:∀B,Owns v B→(takeable (nth .free H b)=true∧Owns (μ b) B)∨(∃c∈l,Owns (μ c) B)∨w.heap.size≤B)
  (hx:∀H' μ',μ' b=v→(∀B,Owns v B→¬S B)→BlkR H' μ' w' S base b x):
  HR (sets H (l.map (deadB H)++[(b,x)])) (setI (fun i=>if i∈l then deadI H i else μ i) b v) w' S base∧Ext H μ (sets H (l.map (deadB H)++[(b,x)])) (setI (fun i=>if i∈l then deadI H i else μ i) b v)∧
   ∀i,i∉l→i≠b→nth .free (sets H (l.map (deadB H)++[(b,x)])) i=nth .free H i:=by
 have hlen:∀c∈l,c<H.length:=fun c hc=>lt_of_live (take_free (hl c hc))
 have hset:sets H (l.map (deadB H)++[(b,x)])=put (sets H (l.map (deadB H))) b x:=by rw[sets_append];rfl
 have hb':nth .free (sets H (l.map (deadB H)++[(b,x)])) b=x:=by rw[hset];exact nth_put_eq (by rw[sets_length];exact hlt)
 have hne:∀i,i≠b→nth .free (sets H (l.map (deadB H)++[(b,x)])) i=if i∈l then (deadB H i).2 else nth .free H i:=fun i hi=>by
  rw[hset,nth_put_ne hi,deads_nth l H i hlen]
 have hmb:setI (fun i=>if i∈l then deadI H i else μ i) b v b=v:=by simp[setI]
 have hmne:∀i,i≠b→setI (fun i=>if i∈l then deadI H i else μ i) b v i=if i∈l then deadI H i else μ i:=fun i hi=>by simp[setI,hi]
 generalize sets H (l.map (deadB H)++[(b,x)])=H' at*
 generalize setI (fun i=>if i∈l then deadI H i else μ i) b v=μ' at*
 have hext:Ext H μ H' μ':=fun i=>by
  by_cases hi:i=b
  ·subst hi
   have:=he i
   rw[hb',hmb]
   rw[nth_put_eq hlt,show setI μ i v i=v by simp[setI]] at this
   exact this
  ·rw[hne i hi,hmne i hi]
   by_cases hil:i∈l
   ·rw[if_pos hil,if_pos hil]
    have ht:=hl i hil
    unfold deadB
    cases hx:nth .free H i<;>rw[hx] at ht<;>try (cases ht;done)
    ·refine ⟨fun cs h=>(by cases h),fun r h=> ?_,fun h=>(by cases h),fun h=>(by cases h),fun d h=>(by cases h)⟩
     simp only[rdOf,Option.some.injEq] at h
     subst h
     exact ⟨_,rfl,rfl,Nat.le_succ _,fun e=>absurd e (by simp)⟩
    ·refine ⟨fun cs h=>(by cases h),fun r h=>(by cases h),fun h=>(by cases h),fun h=>(by cases h),fun d h=> ?_⟩
     simp only[tabD,Option.some.injEq] at h
     subst h
     refine ⟨_,rfl,Nat.le_succ _,Nat.le_succ _,fun p e=> ?_⟩
     cases p<;>simp[TD.vp] at e
   ·rw[if_neg hil,if_neg hil]
    exact ⟨fun cs h=>⟨cs,h,rfl⟩,fun r h=>⟨r,h,rfl,Nat.le_refl _,fun _=>⟨rfl,rfl⟩⟩,fun h=>⟨h,rfl⟩,fun h=>⟨h,rfl⟩,fun d h=>⟨d,h,Nat.le_refl _,Nat.le_refl _,fun p _=>SameP.refl d _ p⟩⟩
 have hliveb:(nth .free H b).live→takeable (nth .free H b)=true:=fun h=>hbf.elim (fun e=>by rw[e] at h;exact absurd h id) id
 have hnSv:∀B,Owns v B→¬S B:=fun B hB hS=>by
  rcases hv B hB with ⟨h1,h2⟩|⟨c,hc,ho⟩|h
  ·exact take_notS hh h1 h2 hS
  ·exact take_notS hh (hl c hc) ho hS
  ·have:=hh.stab B hS;omega
 refine ⟨hh.alter (Ch:=fun i=>i∈l∨i=b) (fun i hi=> ?_) hext hsz (fun B hB hc=> ?_) (fun c B hc hl' hB=> ?_) (fun i hi=> ?_) (fun i B hi hli hB=> ?_) (fun i i' B hi hi' hii hl1 hl2 hB hB'=> ?_),hext,fun i h1 h2=>by rw[hne i h2,if_neg h1]⟩
 ·have h1:i∉l:=fun e=>hi (.inl e)
  have h2:i≠b:=fun e=>hi (.inr e)
  rw[hne i h2,hmne i h2,if_neg h1,if_neg h1]
  exact ⟨rfl,rfl⟩
 ·exact hw B hB fun e=>hc b (.inr rfl) (take_live e.1) e.2
 ·rcases hc with hc|rfl
  ·exact take_notS hh (hl c hc) hB
  ·exact take_notS hh (hliveb hl') hB
 ·by_cases hib:i=b
  ·subst hib
   rw[hb']
   exact hx H' μ' hmb hnSv
  ·have hil:i∈l:=hi.resolve_right hib
   rw[hne i hib,if_pos hil]
   exact dead_blk (hl i hil) (by rw[hmne i hib,if_pos hil])
 ·by_cases hib:i=b
  ·subst hib
   rw[hmb] at hB
   rcases hv B hB with ⟨h1,h2⟩|⟨c,hc,ho⟩|h
   ·exact .inl ⟨i, .inr rfl,take_live h1,h2⟩
   ·exact .inl ⟨c, .inl hc,take_live (hl c hc),ho⟩
   ·exact .inr h
  ·have hil:i∈l:=hi.resolve_right hib
   rw[hmne i hib,if_pos hil] at hB
   exact absurd hB deadI_owns
 ·by_cases hib:i=b
  ·have hib':i'≠b:=fun e=>hii (hib.trans e.symm)
   have hil:i'∈l:=hi'.resolve_right hib'
   rw[hmne i' hib',if_pos hil] at hB'
   exact deadI_owns hB'
  ·have hil:i∈l:=hi.resolve_right hib
   rw[hmne i hib,if_pos hil] at hB
   exact deadI_owns hB
theorem RowV.toTab {M:Nat→Prop} {v:Value} {e:TypeId} {k:CK} {xs:List (CT k)} (h:RowV w M (PC w S) v e k xs) (hn:anyOwn os k=false):∃m,TabV w M S os none e k xs m∧hd m=v∧bare1V m=m∧∀B,Owns m B↔Owns v B:=by
 rcases h with ⟨rfl,rfl⟩|⟨B,o,cap,cur,rfl,h1,h2,h3,h4,h5,h6⟩
 ·exact ⟨_, .nil _ _ _ _ (by simp) rfl,hd_img,rfl,fun B=>⟨fun h=>absurd h nil_owns,fun h=>by cases h⟩⟩
 ·refine ⟨_, .row none e k xs xs.length B o cap cur (fun _ _=>undef) (by simp) rfl h1 h2 h3 h4 h5 (fun i j hi hj _=>⟨h6 i hi j hj,rfl⟩) (fun i j e2 k2 _ _ ho=>by rw[ownC_none j hn] at ho;cases ho) (fun i j e2 k2 _ _ ho=>by rw[ownC_none j hn] at ho;cases ho) (fun _ _ _ _ _ _ _ _ _ _ h=>absurd h owns_undef) (fun _ _ _ _=>owns_undef),hd_img,rfl,fun B'=> ?_⟩
  rw[owns_img (by simp)]
  refine ⟨fun h=> ?_,fun h=> .inl h⟩
  rcases h with h|⟨i,j,_,_,h⟩
  ·exact h
  ·exact absurd h owns_undef
theorem TabV.toRow {M:Nat→Prop} {e:TypeId} {k:CK} {xs:List (CT k)} {m:Value} (h:TabV w M S os none e k xs m) (hn:anyOwn os k=false):RowV w M (PC w S) (hd m) e k xs∧∀B,Owns (hd m) B↔Owns m B:=by
 rcases h.inv (by simp) with ⟨rfl,rfl⟩|⟨B,o,cap,cur,F,rfl,r⟩
 ·rw[hd_img];exact ⟨.inl ⟨rfl,rfl⟩,fun B=>⟨fun h=>(by cases h),fun h=>absurd h nil_owns⟩⟩
 ·rw[hd_img]
  refine ⟨.inr ⟨B,o,cap,cur,rfl,r.own,r.at',r.le,r.max,r.sz,fun i hi j hj=>(r.pure i j hi hj (ownC_none j hn)).1⟩,fun B'=> ?_⟩
  rw[owns_img (by simp)]
  refine ⟨fun h=> .inl h,fun h=> ?_⟩
  rcases h with h|⟨i,j,hi,hj,h⟩
  ·exact h
  ·rw[(r.pure i j hi hj (ownC_none j hn)).2] at h;exact absurd h owns_undef
theorem rowV_sound {base:Nat→Prop} {ek:TypeId×CK} {x:AV} {v:Value} (hh:HR H μ w S base) (hv:VR H μ w S x v) (hok:isRo ek.2 (rowV H os ek x)=true):
  ∃m,TabV w base S os none ek.1 ek.2 (asL ek.2 (rowV H os ek x)) m∧hd m=v∧bare1V m=m∧v.oneCell'=true∧(∀c∈refs1 x,takeable (nth .free H c)=true)∧∀B,Owns m B→∃c∈refs1 x,Owns (μ c) B:=by
 cases x<;>simp only[rowV] at hok⊢ <;>try (simp[isRo] at hok;done)
 ·rw[vr_nils hv,asL_ro]
  exact ⟨_, .nil _ _ _ _ (by simp) rfl,hd_img,rfl,rfl,fun c hc=>by simp[refs1] at hc,fun B h=>absurd h nil_owns⟩
 ·rename_i c ver p
  cases hx:nth .free H c<;>simp only[hx] at hok⊢ <;>try (simp[isRo] at hok;done)
  rename_i fz v' iv e k os' ys hole
  cases fz<;>simp only at hok⊢ <;>try (simp[isRo] at hok;done)
  cases hc1:(ver==v'&&(p.isEmpty&&hole.isNone))&&((e==ek.1)&&(decide (k=ek.2)&&(os'==os))) with
  |false=>rw[hc1] at hok;simp[isRo] at hok
  | true=>
   simp only[cond_true]
   simp only[Bool.and_eq_true,beq_iff_eq,decide_eq_true_eq,List.isEmpty_iff,Option.isNone_iff_eq_none] at hc1
   obtain ⟨⟨rfl,rfl,rfl⟩,rfl,rfl,rfl⟩:=hc1
   rw[asL_ro]
   have hblk:=hh.blk c
   rw[hx] at hblk
   cases hv with
   |pv h=>cases h
   | tsl _ _ _ d n A cc hd hle h3=>
    rw[hx] at hd
    simp only[tabD,Option.some.injEq] at hd
    subst hd
    obtain ⟨-,q1, -, -⟩:=h3 rfl
    have hbare:bare1V (μ c)=μ c:=by
     obtain ⟨A',n',c',h1,h2,h3,h4⟩:=hblk.2.hd_slice
     exact h4
    exact ⟨μ c,hblk.2,q1,hbare,rfl,fun c' hc'=>by simp[refs1] at hc';subst hc';rw[hx];rfl,fun B hB=>⟨c,by simp[refs1],hB⟩⟩
 ·rename_i c ver off len
  cases hx:nth .free H c<;>simp only[hx] at hok⊢ <;>try (simp[isRo] at hok;done)
  rename_i v' e k ys
  cases hc1:(ver==v'&&(off==0&&len.isNone))&&((e==ek.1)&&(decide (k=ek.2)&& !anyOwn os k)) with
  |false=>rw[hc1] at hok;simp[isRo] at hok
  | true=>
   simp only[cond_true]
   simp only[Bool.and_eq_true,beq_iff_eq,decide_eq_true_eq,Option.isNone_iff_eq_none,Bool.not_eq_true'] at hc1
   obtain ⟨⟨rfl,rfl,rfl⟩,rfl,rfl,hno⟩:=hc1
   rw[asL_ro]
   have hblk:=hh.blk c
   rw[hx] at hblk
   obtain ⟨m,q1,q2,q3,q4⟩:=hblk.2.toTab hno
   cases hv with
   |pv h=>cases h
   | sl _ _ _ _ ln r A cc hr hle hlc hA hcur=>
    rw[hx] at hr
    simp only[rdOf,Option.some.injEq] at hr
    subst hr
    obtain ⟨hwn,hfit,hs⟩:=hcur rfl
    have hvm:Value.slice A ln cc=μ c:=by
     rcases hs with ⟨h1,_,h3,h4⟩|⟨B,o,cap,A',h1,h2,h3,h4⟩
     ·rw[h1];exact h4
     ·rw[h3,h1,h4 (.inl rfl)]
      simp only[winN] at hwn
      rw[hwn]
      simp[Rd.n]
    exact ⟨m,q1,q2.trans hvm.symm,q3,rfl,fun c' hc'=>by simp[refs1] at hc';subst hc';rw[hx];rfl,fun B hB=>⟨c,by simp[refs1],(q4 B).1 hB⟩⟩
theorem cells_one {v:Value} (h:v.oneCell'=true):v.cells= #[v]:=by cases v<;>first|rfl|simp[Value.oneCell'] at h
theorem holeOk_spec {p:Pth} {i j:Nat} {h:Option Pth} (hk:holeOk (p++[(i,j)]) h=true):∃h1,h=hcat p h1∧h1≠some []∧∀a q,¬(a=i∧q=j)→hsub h1 a q=none:=by
 cases h with
 |none=>exact ⟨none,rfl,by simp,fun _ _ _=>rfl⟩
 |some q=>
  simp only[holeOk,beq_iff_eq] at hk
  subst hk
  refine ⟨some [(i,j)],rfl,by simp,fun a q hn=> ?_⟩
  simp only[hsub]
  rw[if_neg hn]
theorem storeT_own {b ver:Nat} {p:Pth} {i j:Nat} {t:TypeId} {d:TD} {x:AV} {v va:Value} {ek:TypeId×CK} (hr:RepAt w0 S0 H μ S w) (hb:nth .free H b= .tab false d.ver d.iv d.e d.k d.os d.xs d.hole) (hva:VR H μ w S (.tptr b ver p i j) va) (hv:VR H μ w S x v)
  (ho:ownC d.os (d.nd p).k j=some ek) {f:Eff} (hval:f.val= .junk)
  (hwr:f.wr=(refs1 x).map (deadB H)++[(b, .tab false d.ver (d.iv+1) d.e d.k d.os (modAt d.os (fun k ys=>ys.set i (setC k (nth (dflt k) ys i) j ek.2 (asL ek.2 (rowV H d.os ek x)))) p d.k d.xs) none)])
  (hver:ver=d.vp p) (ht:P.cellsOf t=1) (hhole:holeOk (p++[(i,j)]) d.hole=true) (hnb:(refs1 x).contains b=false) (hi:i<(d.nd p).xs.length) (hok:isRo ek.2 (rowV H d.os ek x)=true) (u:Value):
  ∃w',(Instr.storeAt t va v).run P w= .ok () w'∧After w0 S0 H μ S w f u w':=by
 have hnb':b∉refs1 x:=by simpa using hnb
 obtain ⟨h1,hhe,hh1,hhs⟩:=holeOk_spec hhole
 have hblk:=hr.hr.blk b
 rw[hb] at hblk
 obtain ⟨hnS,htab⟩:=hblk
 rw[hhe] at htab
 have htk:takeable (nth .free H b)=true:=by rw[hb];rfl
 obtain ⟨mx,x1,x2,x3,x4,x5,x6⟩:=rowV_sound (os:=d.os) (ek:=ek) hr.hr hv hok
 generalize hys:asL ek.2 (rowV H d.os ek x)=ys at*
 have hapart:∀B,Owns mx B→¬Owns (μ b) B:=fun B h1 h2=>by
  obtain ⟨c,hc,hB⟩:=x6 B h1
  exact hr.hr.inj b c B (take_live htk) (take_live (x5 c hc)) (fun e=>hnb' (e▸hc)) h2 hB
 cases hva with
 |pv h=>cases h
 | tptr _ _ _ _ _ d' B o hrd hle hcur=>
  rw[hb] at hrd
  obtain rfl:d=d':=by simpa [tabD] using hrd
  obtain ⟨hpo,o0,cap',rfl,hm⟩:=hcur hver
  obtain ⟨hnode,hown⟩:=TabV.nodeH p ⟨d.e,d.k,d.xs⟩ htab hpo
  rw[show nodeAt d.os ⟨d.e,d.k,d.xs⟩ p=d.nd p from rfl] at hnode
  rcases hnode.inv hh1 with ⟨hz,_⟩|⟨B',o1,cap,cur,F,himg,r⟩
  ·rw[hz] at hi;simp at hi
  ·have hm':hdAt (μ b) p= .slice (some ⟨B',o1,none⟩) (d.nd p).xs.length cap:=by rw[hdAt,himg,hd_img]
   rw[hm] at hm'
   simp only[Value.slice.injEq,Option.some.injEq,Addr.mk.injEq,and_true,true_and] at hm'
   obtain ⟨⟨rfl,rfl⟩,rfl⟩:=hm'
   have hj:j<width (d.nd p).k:=(ownC_ro (nth (dflt (d.nd p).k) (d.nd p).xs i) ho).2.1
   have hOB:Owns (imgAt (μ b) p) B:=by rw[himg];exact (owns_img (by simp)).2 (.inl rfl)
   have hmb:Owns (μ b) B:=hown B hOB
   have hnSB:¬S B:=hnS B hmb
   have hvc:=cells_one x4
   have hin:o0+(i*width (d.nd p).k+width (d.nd p).k)≤cur.size:=by
    rw[r.sz,←Nat.succ_mul];exact Nat.add_le_add_left (Nat.mul_le_mul_right _ (by have:=r.le;omega)) _
   have hrun:=storeVar_run (P:=P) (t:=t) (v:=v) (B:=B) (o:=o0+(i*width (d.nd p).k+j)) (by omega) (by rw[hvc,ht];rfl) r.at' (by omega) (by rw[hvc];intro y hy;simp at hy;rw[hy];exact x4)
   rw[hvc] at hrun
   obtain ⟨s1,s2⟩:=splice_cells (vals:= #[v].toList) (cur:=cur) (o:=o0) (sz:=width (d.nd p).k) (m:=1) (i:=i) (j:=j) r.sz r.le hi (by omega) rfl
   generalize hcur':(cur.toList.take (o0+(i*width (d.nd p).k+j))++ #[v].toList++cur.toList.drop (o0+(i*width (d.nd p).k+j)+ #[v].toList.length)).toArray=cur' at*
   have hPC:∀a c,PC w S a c→PC (w.setRow B cur') S a c:=fun a c h=>h.mono (fun _ h=>h) fun B' h=>setRow_ne (fun e=>hnSB (e▸h))
   have hcell:=cell_setC (os:=d.os) (ys:=ys) hi ho
   have x1':TabV (w.setRow B cur') S0.own S d.os none ek.1 ek.2 ys mx:=x1.imp (fun _ h=>h) (fun B' hB'=>setRow_ne fun e=>hapart B' hB' (e▸hmb)) hPC
   have hrow:TabV (w.setRow B cur') S0.own S d.os none (d.nd p).e (d.nd p).k ((d.nd p).xs.set i (setC (d.nd p).k (nth (dflt (d.nd p).k) (d.nd p).xs i) j ek.2 ys)) (img (.slice (some ⟨B,o0,none⟩) (d.nd p).xs.length cap') (d.nd p).xs.length (width (d.nd p).k) fun a q=>if a=i∧q=j then mx else F a q):=by
    refine .row _ _ _ _ (d.nd p).xs.length B o0 cap' cur' _ (by simp) List.length_set r.own (setRow_get r.at') r.le r.max (s1.trans r.sz) (fun a q ha hq hoc=> ?_) (fun a q e2 k2 ha hq hoc=> ?_) (fun a q e2 k2 ha hq hoc=> ?_) (fun a q a' q' B' ha hq ha' hq' hne h3 h4=> ?_) (fun a q ha hq h3=> ?_)
    ·have hne:¬(a=i∧q=j):=fun e=>by rw[e.2,ho] at hoc;cases hoc
     rw[hcell,if_neg hne,s2 a q ha hq,if_neg fun e=>hne ⟨e.1,by omega⟩]
     simp only[if_neg hne]
     exact ⟨hPC _ _ (r.pure a q ha hq hoc).1,(r.pure a q ha hq hoc).2⟩
    ·rw[hsub_none,hcell]
     by_cases he:a=i∧q=j
     ·obtain ⟨rfl,rfl⟩:=he
      rw[ho] at hoc
      obtain rfl:ek=(e2,k2):=by simpa using hoc
      rw[if_pos ⟨rfl,rfl⟩,asL_ro]
      simp only[and_self,if_true]
      exact x1'
     ·rw[if_neg he]
      simp only[if_neg he]
      have h0:=r.tab a q e2 k2 ha hq hoc
      rw[hhs a q he] at h0
      exact h0.imp (fun _ h=>h) (fun B' hB'=>setRow_ne (fun e=>r.apart0 a q ha hq (e▸hB'))) hPC
    ·rw[s2 a q ha hq]
     by_cases he:a=i∧q=j
     ·obtain ⟨rfl,rfl⟩:=he
      rw[if_pos ⟨rfl,by omega,by omega⟩,Nat.sub_self]
      simp only[and_self,if_true]
      exact ⟨x4,fun _=>x2.symm⟩
     ·rw[if_neg fun e=>he ⟨e.1,by omega⟩]
      simp only[if_neg he]
      have h0:=r.hdr a q e2 k2 ha hq hoc
      exact ⟨h0.1,fun _=>h0.2 (by rw[hhs a q he];simp)⟩
    ·have hOF:∀a q B',a<(d.nd p).xs.length→q<width (d.nd p).k→Owns (F a q) B'→Owns (μ b) B':=fun a q B' ha hq h=>hown B' (by rw[himg];exact (owns_img (by simp)).2 (.inr ⟨a,q,ha,hq,h⟩))
     by_cases he:a=i∧q=j
     ·obtain ⟨rfl,rfl⟩:=he
      have he':¬(a'=a∧q'=q):=fun e=>by rcases hne with h|h;exact h e.1.symm;exact h e.2.symm
      simp only[and_self,if_true] at h3
      simp only[if_neg he'] at h4
      exact hapart B' h3 (hOF a' q' B' ha' hq' h4)
     ·simp only[if_neg he] at h3
      by_cases he':a'=i∧q'=j
      ·obtain ⟨rfl,rfl⟩:=he'
       simp only[and_self,if_true] at h4
       exact hapart B' h4 (hOF a q B' ha hq h3)
      ·simp only[if_neg he'] at h4
       exact r.apart a q a' q' B' ha hq ha' hq' hne h3 h4
    ·by_cases he:a=i∧q=j
     ·obtain ⟨rfl,rfl⟩:=he
      simp only[and_self,if_true] at h3
      exact hapart B h3 hmb
     ·simp only[if_neg he] at h3
      exact r.apart0 a q ha hq h3
   have hm2:∀B',Owns (img (.slice (some ⟨B,o0,none⟩) (d.nd p).xs.length cap') (d.nd p).xs.length (width (d.nd p).k) fun a q=>if a=i∧q=j then mx else F a q) B'→Owns (imgAt (μ b) p) B'∨Owns mx B':=fun B' hB'=>by
    rcases (owns_img (by simp)).1 hB' with h|⟨a,q,ha,hq,h⟩
    ·exact .inl (by rw[himg];exact (owns_img (by simp)).2 (.inl h))
    ·by_cases he:a=i∧q=j
     ·simp only[if_pos he] at h;exact .inr h
     ·simp only[if_neg he] at h
      exact .inl (by rw[himg];exact (owns_img (by simp)).2 (.inr ⟨a,q,ha,hq,h⟩))
   obtain ⟨m',q1,q2,q3,q4,q5,q6⟩:=TabV.ctx (os:=d.os) (S':=S) (w':=w.setRow B cur') (h1:=h1) (h2:=none) (f:=fun k ys'=>ys'.set i (setC k (nth (dflt k) ys' i) j ek.2 ys)) hh1 hPC p ⟨d.e,d.k,d.xs⟩ htab hpo hrow (fun _ _=>by rw[hdAt,himg,hd_img,hd_img])
    (fun B' h1 h2=>setRow_ne (fun e=>h2 (e▸hOB))) (fun B' h=>(hm2 B' h).imp id (hapart B'))
   rw[hcat_none] at q1
   have hx':Ext H μ (put H b (.tab false d.ver (d.iv+1) d.e d.k d.os (modAt d.os (fun k ys'=>ys'.set i (setC k (nth (dflt k) ys' i) j ek.2 ys)) p d.k d.xs) none)) (setI μ b m'):=
    Ext.tab (d:=d) (d':=⟨d.ver,d.iv+1,d.e,d.k,d.os,modAt d.os (fun k ys'=>ys'.set i (setC k (nth (dflt k) ys' i) j ek.2 ys)) p d.k d.xs,none⟩) (by rw[hb];rfl) (Nat.le_refl _) (Nat.le_succ _) fun q hq _=>by
     cases q with
     |cons a q=>simp[TD.vp] at hq
     | nil=>
      cases p with
      |nil=>
       refine ⟨trivial,List.length_set,rfl,?_⟩
       rw[q2 rfl]
       simp only[hdAt,imgAt] at himg⊢
       rw[hd_img,himg,hd_img]
      |cons a p=>exact ⟨trivial,(q3 (by simp)).2,rfl,(q3 (by simp)).1⟩
   have htake:=hr.hr.take (l:=refs1 x) (b:=b) (x:= .tab false d.ver (d.iv+1) d.e d.k d.os (modAt d.os (fun k ys'=>ys'.set i (setC k (nth (dflt k) ys' i) j ek.2 ys)) p d.k d.xs) none) (v:=m') (w':=w.setRow B cur') x5 hnb' (lt_of_live (take_free htk)) (.inr htk) hx' (by simp)
    (fun B' _ hne=>setRow_ne (fun e=>hne ⟨htk,e▸hmb⟩)) (fun B' hB'=>by
     rcases q4 B' hB' with h|h
     ·rcases hm2 B' h with h|h
      ·exact .inl ⟨htk,hown B' h⟩
      ·exact .inr (.inl (x6 B' h))
     ·exact .inl ⟨htk,h.1⟩) (fun H' μ' e hns=>⟨by rw[e];exact hns,by rw[e];exact q1⟩)
   refine ⟨_,hrun,setI (fun q=>if q∈refs1 x then deadI H q else μ q) b m',S,?_,?_,fun _ h=>h,fun B' h=>setRow_ne (fun e=>hnSB (e▸h)),?_⟩
   ·rw[hwr]
    exact ⟨htake.1,setRow_below hr.below r.own,hr.sub,hr.sup,hr.fresh,hr.pins.ext htake.2.1⟩
   ·rw[hwr];exact htake.2.1
   ·rw[hval];exact .junk _
theorem storeT_after {b ver:Nat} {p:Pth} {i j:Nat} {t:TypeId} {d:TD} {x:AV} {v va:Value} (hr:RepAt w0 S0 H μ S w) (hb:nth .free H b= .tab false d.ver d.iv d.e d.k d.os d.xs d.hole) (hva:VR H μ w S (.tptr b ver p i j) va) (hv:VR H μ w S x v)
  (hc:(storeT P t H b ver p i j d x).chk=true) (u:Value):∃w',(Instr.storeAt t va v).run P w= .ok () w'∧After w0 S0 H μ S w (storeT P t H b ver p i j d x) u w':=by
 unfold storeT at hc⊢
 cases hon:ownRange d.os (d.nd p).k j (P.cellsOf t) with
 | true=>
  rw[hon] at hc
  simp only[cond_true] at hc⊢
  cases ho:ownC d.os (d.nd p).k j with
  |none=>rw[ho] at hc;cases hc
  |some ek=>
   rw[ho] at hc
   simp only[Bool.and_eq_true,beq_iff_eq,decide_eq_true_eq,Bool.not_eq_true'] at hc⊢
   obtain ⟨c1,c2,c3,c4,c5,c6⟩:=hc
   exact storeT_own hr hb hva hv ho rfl rfl c1 c2 c3 c4 c5 c6 u
 |false=>
  rw[hon] at hc
  simp only[cond_false,Bool.and_eq_true,beq_iff_eq,decide_eq_true_eq,Bool.not_eq_true',Nat.blt_eq,Nat.ble_eq,Option.isNone_iff_eq_none] at hc⊢
  obtain ⟨c1,c2,⟨c3,c4⟩,c5,c6,c7,c8,c9,c10⟩:=hc
  exact storeT_pure hr hb hva hv hon rfl rfl c1 c2 c3 c4 c5 c6 c7 c8 c9 c10 u
theorem HR.newTab {base:Nat→Prop} {b:Nat} {e:TypeId} {k:CK} {xs:List (CT k)} {m:Value} {w':World} (hh:HR H μ w S base) (hb:nth .free H b= .free) (hlt:b<H.length) (hg:Grow w w') (hv:∀B,Owns m B→w.heap.size≤B) (ht:TabV w' base S os none e k xs m):
  HR (put H b (.tab false 0 0 e k os xs none)) (setI μ b m) w' S base:=by
 refine hh.setFree hb hlt hg hv ⟨fun B h hS=> ?_,?_⟩
 ·simp only[setI,if_true] at h
  have:=hv B h
  have:=hh.stab B hS
  omega
 ·simpa [setI] using ht
theorem vr_tab {b ver iv:Nat} {fz:Bool} {e:TypeId} {k:CK} {xs:List (CT k)} {m v:Value} {w':World} {M S':Nat→Prop} {H':List Blk} {μ':Nat→Value} (hb:nth .free H' b= .tab fz ver iv e k os xs none) (hm:μ' b=m) (hv:hd m=v) (ht:TabV w' M S' os none e k xs m):VR H' μ' w S (.tsl b ver []) v:=by
 obtain ⟨A,n,c,h1,h2,h3,_⟩:=ht.hd_slice
 rw[hv] at h1
 subst h1
 exact .tsl b ver [] ⟨ver,iv,e,k,os,xs,none⟩ n A c (by rw[hb];rfl) (Nat.le_refl _) fun _=>⟨trivial,by rw[hm];exact hv,h2,h3⟩
theorem RowV.toTab0 {M:Nat→Prop} {v:Value} {e:TypeId} {k:CK} {xs:List (CT k)} (h:RowV w M (PC w S) v e k xs) (hn:∀i j ek,i<xs.length→ownC os k j=some ek→nth .junk (gt k xs i) j= .ro ek.2 []∧∀B o cap cur,v= .slice (some ⟨B,o,none⟩) xs.length cap→w.heap[B]?=some (.cells cur e (0,0))→cur.getD (o+(i*width k+j)) undef= .slice none 0 0):
  ∃m,TabV w M S os none e k xs m∧hd m=v∧bare1V m=m∧∀B,Owns m B↔Owns v B:=by
 rcases h with ⟨rfl,rfl⟩|⟨B,o,cap,cur,rfl,h1,h2,h3,h4,h5,h6⟩
 ·exact ⟨_, .nil _ _ _ _ (by simp) rfl,hd_img,rfl,fun B=>⟨fun h=>absurd h nil_owns,fun h=>by cases h⟩⟩
 ·have hno:∀(i j B':Nat),¬Owns (match ownC os k j with|some _=>img (.slice none 0 0) 0 0 fun _ _=>undef|none=>undef) B':=fun _ j B'=>by
   cases ownC os k j with
   |none=>exact owns_undef
   |some _=>exact nil_owns
  refine ⟨_, .row none e k xs xs.length B o cap cur (fun i j=>match ownC os k j with|some _=>img (.slice none 0 0) 0 0 fun _ _=>undef|none=>undef) (by simp) rfl h1 h2 h3 h4 h5 (fun i j hi hj ho=>⟨h6 i hi j hj,by simp only[ho]⟩) (fun i j e2 k2 hi hj ho=> ?_) (fun i j e2 k2 hi hj ho=> ?_) (fun i j _ _ B' _ _ _ _ _ h=>absurd h (hno i j B')) (fun i j _ _=>hno i j B),hd_img,rfl,fun B'=> ?_⟩
  ·obtain ⟨q1,_⟩:=hn i j (e2,k2) hi ho
   rw[q1,asL_ro]
   simp only[ho]
   rw[hsub_none]
   exact .nil _ _ _ _ (by simp) rfl
  ·obtain ⟨_,q2⟩:=hn i j (e2,k2) hi ho
   rw[q2 B o cap cur rfl h2]
   simp only[ho]
   exact ⟨rfl,fun _=>hd_img.symm⟩
  ·rw[owns_img (by simp)]
   refine ⟨fun h=> ?_,fun h=> .inl h⟩
   rcases h with h|⟨i,j,_,_,h⟩
   ·exact h
   ·exact absurd h (hno i j B')
theorem HR.newRK {base:Nat→Prop} {b:Nat} {v:Value} {e:TypeId} {k:CK} {xs:List (CT k)} {w':World} (hh:HR H μ w S base) (hb:nth .free H b= .free) (hlt:b<H.length) (hg:Grow w w') (hv:∀B,Owns v B→w.heap.size≤B) (hr:RowV w' base (PC w' S) v e k xs)
  (hn:∀i j ek,i<xs.length→ownC os k j=some ek→nth .junk (gt k xs i) j= .ro ek.2 []∧∀B o cap cur,v= .slice (some ⟨B,o,none⟩) xs.length cap→w'.heap[B]?=some (.cells cur e (0,0))→cur.getD (o+(i*width k+j)) undef= .slice none 0 0):
  ∃m,HR (put H b (rowK os e k xs)) (setI μ b m) w' S base∧Ext H μ (put H b (rowK os e k xs)) (setI μ b m)∧VR (put H b (rowK os e k xs)) (setI μ b m) w' S (rowA os k b) v:=by
 unfold rowK rowA
 cases ho:anyOwn os k with
 |false=>exact ⟨v,hh.newRow hb hlt hg hv hr,Ext.setFree hb,vr_newRow hlt hr 0⟩
 |true=>
  obtain ⟨m,q1,q2,q3,q4⟩:=hr.toTab0 hn
  exact ⟨m,hh.newTab hb hlt hg (fun B h=>hv B ((q4 B).1 h)) q1,Ext.setFree hb,vr_tab (nth_put_eq hlt) (by simp[setI]) q2 q1⟩
theorem takeCells_length {k:CK}:∀(cs:List AV) (j:Nat),(takeCells H os k cs j).length=cs.length
 |[],_=>rfl
 |_::cs,j=>by simp[takeCells,takeCells_length cs]
theorem takeCells_nth {k:CK}:∀(cs:List AV) (j q:Nat),q<cs.length→nth .junk (takeCells H os k cs j) q=match ownC os k (j+q) with|some ek=>rowV H os ek (nth .junk cs q)|none=>view1 H (nth .junk cs q)
 |[],_,_,h=>by simp at h
 |c::cs,j,0,_=>rfl
 |c::cs,j,q+1,h=>by
  have:=takeCells_nth (k:=k) cs (j+1) q (by simpa using h)
  rw[show j+1+q=j+(q+1) by omega] at this
  exact this
theorem takenB_mem {k:CK}:∀(cs:List AV) (j q:Nat),q<cs.length→(ownC os k (j+q)).isSome=true→∀c∈refs1 (nth .junk cs q),c∈takenB os k cs j
 |[],_,_,h,_,_,_=>by simp at h
 |c0::cs,j,0,_,ho,c,hc=>by
  simp only[takenB]
  refine List.mem_append_left _ ?_
  cases h:ownC os k j with
  |none=>rw[Nat.add_zero,h] at ho;cases ho
  |some _=>exact hc
 |c0::cs,j,q+1,h,ho,c,hc=>by
  simp only[takenB]
  exact List.mem_append_right _ (takenB_mem cs (j+1) q (by simpa using h) (by rw[show j+1+q=j+(q+1) by omega];exact ho) c hc)
theorem takenB_of {k:CK}:∀(cs:List AV) (j c:Nat),c∈takenB os k cs j→∃q,q<cs.length∧(ownC os k (j+q)).isSome=true∧c∈refs1 (nth .junk cs q)
 |[],_,_,h=>by simp[takenB] at h
 | c0::cs,j,c,h=>by
  simp only[takenB] at h
  rcases List.mem_append.1 h with h|h
  ·cases ho:ownC os k j with
   |none=>rw[ho] at h;simp at h
   |some _=>rw[ho] at h;exact ⟨0,by simp,by rw[Nat.add_zero,ho];rfl,h⟩
  ·obtain ⟨q,h1,h2,h3⟩:=takenB_of cs (j+1) c h
   exact ⟨q+1,by simpa using h1,by rw[show j+(q+1)=j+1+q by omega];exact h2,h3⟩
theorem distinct_spec:∀ {l:List Nat},distinct l=true→l.Nodup
 |[],_=>List.nodup_nil
 |x::l,h=>by
  simp only[distinct,Bool.and_eq_true,Bool.not_eq_true'] at h
  exact List.nodup_cons.2 ⟨by simpa using h.1,distinct_spec h.2⟩
theorem takenB_apart {k:CK}:∀(cs:List AV) (j:Nat),(takenB os k cs j).Nodup→∀q q',q<cs.length→q'<cs.length→q≠q'→(ownC os k (j+q)).isSome=true→(ownC os k (j+q')).isSome=true→∀c∈refs1 (nth .junk cs q),c∉refs1 (nth .junk cs q')
 |[],_,_,_,_,h,_,_,_,_,_,_=>by simp at h
 | c0::cs,j,hn,q,q',hq,hq',hne,ho,ho',c,hc=>by
  simp only[takenB] at hn
  have hn':=List.nodup_append.1 hn
  cases q with
  | zero=>
   cases q' with
   |zero=>exact absurd rfl hne
   | succ q'=>
    intro hc'
    have h1:c∈(match ownC os k j with|some _=>refs1 c0|none=>[]):=by
     cases h:ownC os k j with
     |none=>rw[Nat.add_zero,h] at ho;cases ho
     |some _=>exact hc
    have h2:=takenB_mem (os:=os) (k:=k) cs (j+1) q' (by simpa using hq') (by rw[show j+1+q'=j+(q'+1) by omega];exact ho') c hc'
    exact hn'.2.2 c h1 c h2 rfl
  | succ q=>
   cases q' with
   | zero=>
    intro hc'
    have h1:c∈(match ownC os k j with|some _=>refs1 c0|none=>[]):=by
     cases h:ownC os k j with
     |none=>rw[Nat.add_zero,h] at ho';cases ho'
     |some _=>exact hc'
    have h2:=takenB_mem (os:=os) (k:=k) cs (j+1) q (by simpa using hq) (by rw[show j+1+q=j+(q+1) by omega];exact ho) c hc
    exact hn'.2.2 c h1 c h2 rfl
   |succ q'=>
    exact takenB_apart cs (j+1) hn'.2.1 q q' (by simpa using hq) (by simpa using hq') (fun e=>hne (by rw[e])) (by rw[show j+1+q=j+(q+1) by omega];exact ho) (by rw[show j+1+q'=j+(q'+1) by omega];exact ho') c hc
theorem leftB_mem {k:CK}:∀(cs:List AV) (j q:Nat),q<cs.length→ownC os k (j+q)=none→∀c∈refs1 (nth .junk cs q),c∈leftB os k cs j
 |[],_,_,h,_,_,_=>by simp at h
 |c0::cs,j,0,_,ho,c,hc=>by
  simp only[leftB]
  refine List.mem_append_left _ ?_
  rw[Nat.add_zero] at ho
  rw[ho];exact hc
 |c0::cs,j,q+1,h,ho,c,hc=>by
  simp only[leftB]
  exact List.mem_append_right _ (leftB_mem cs (j+1) q (by simpa using h) (by rw[show j+1+q=j+(q+1) by omega];exact ho) c hc)
theorem own_decOk {e2:TypeId} {k2:CK}:∀(k:CK) (j:Nat) (cs:List AV),decOk k cs=true→ownC os k j=some (e2,k2)→isRo k2 (nth .junk cs j)=true:=by
 intro k
 induction k with
 |bool=>intro j cs _ h;cases h
 |int _=>intro j cs _ h;cases h
 |str=>intro j cs _ h;cases h
 |map _ _ _ _=>intro j cs _ h;cases h
 |other=>intro j cs _ h;cases h
 | slice e k ih=>
  intro j cs hd h
  cases j with
  |succ j=>cases h
  | zero=>
   simp only[ownC] at h
   cases hc:os.contains e<;>rw[hc] at h
   ·cases h
   ·simp only[cond_true,Option.some.injEq,Prod.mk.injEq] at h
    obtain ⟨rfl,rfl⟩:=h
    exact hd
 | pair a b iha ihb=>
  intro j cs hd h
  simp only[ownC] at h
  simp only[decOk,Bool.and_eq_true] at hd
  cases hb:Nat.blt j (width a)<;>rw[hb] at h
  ·have hge:¬j<width a:=by rw[←Nat.blt_eq,hb];simp
   have:=ihb _ _ hd.2 h
   rw[dropL_eq,nth_drop,show width a+(j-width a)=j by omega] at this
   exact this
  ·exact iha _ _ hd.1 h
end
end Go.Abs
