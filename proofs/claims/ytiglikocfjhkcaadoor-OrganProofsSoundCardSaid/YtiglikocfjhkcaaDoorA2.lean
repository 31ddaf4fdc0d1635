/- What an abstract value says of a value of the model, an abstract block of a block of its memory; what is kept while memory changes. -/
import Derived.Test.YtiglikocfjhkcaaDoorA1
import Derived.Below
set_option linter.all false
set_option linter.unusedVariables false
set_option linter.unusedSimpArgs false
namespace Go.Abs
open Go.RowKit (Below)
theorem nth_nil {α:Type} (d:α) (i:Nat):nth d [] i=d:=by cases i<;>rfl
theorem nth_get? {α:Type} (d:α):∀(l:List α) (i:Nat),nth d l i=(l[i]?).getD d
 |[],i=>by simp[nth_nil]
 |_::_,0=>rfl
 |_::l,i+1=>by simp[nth,nth_get? d l i]
theorem nth_lt {α:Type} (d:α) (l:List α) (i:Nat) (h:i<l.length):nth d l i=l[i]:=by simp[nth_get?,h]
theorem nth_ge {α:Type} (d:α) (l:List α) (i:Nat) (h:l.length≤i):nth d l i=d:=by simp[nth_get?,h]
theorem nth_map {α β:Type} (d:α) (d':β) (f:α→β) (l:List α) (i:Nat) (h:i<l.length):nth d' (l.map f) i=f (nth d l i):=by
 rw[nth_lt _ _ _ (by simpa using h),nth_lt _ _ _ h];simp
theorem put_length {α:Type} (x:α):∀(l:List α) (i:Nat),(put l i x).length=l.length
 |[],_=>rfl
 |_::_,0=>rfl
 |_::l,i+1=>by simp[put,put_length x l i]
theorem nth_put {α:Type} (d x:α):∀(l:List α) (i j:Nat),nth d (put l i x) j=if i=j∧i<l.length then x else nth d l j
 |[],i,j=>by simp[put,nth_nil]
 |_::_,0,0=>by simp[put,nth]
 |_::_,0,j+1=>by simp[put,nth]
 |_::_,i+1,0=>by simp[put,nth]
 |_::l,i+1,j+1=>by simp[put,nth,nth_put d x l i j]
theorem takeL_eq {α:Type}:∀(l:List α) (n:Nat),takeL l n=l.take n
 |[],_=>by simp[takeL]
 |_::_,0=>rfl
 |_::l,n+1=>by simp[takeL,takeL_eq l n]
theorem dropL_eq {α:Type}:∀(l:List α) (n:Nat),dropL l n=l.drop n
 |[],_=>by simp[dropL]
 |_::_,0=>rfl
 |_::l,n+1=>by simp[dropL,dropL_eq l n]
theorem selA_eq (c:Bool) (a b:AV):selA c a b=bif c then a else b:=by
 unfold selA
 split
 ·rename_i k n k' m
  by_cases h:k=k'
  ·subst h;cases c<;>simp
  ·simp[h]
 ·cases c<;>rfl
 ·rfl
theorem putS_lt:∀(cs:List AV) (j off:Nat) (v:AV),off<j→putS cs j off v=cs
 |[],_,_,_,_=>rfl
 | c::cs,j,off,v,h=>by
  have e:Nat.beq off j=false:=by
   cases hb:Nat.beq off j with
   |false=>rfl
   |true=>have:=Nat.eq_of_beq_eq_true hb;omega
  rw[putS,selA_eq,e,putS_lt cs (j+1) off v (by omega)];rfl
theorem putS_eq:∀(cs:List AV) (j i:Nat) (v:AV),i<cs.length→putS cs j (j+i) v=cs.take i++[v]++cs.drop (i+1)
 |[],_,_,_,h=>by simp at h
 |c::cs,j,0,v,_=>by
  rw[putS,selA_eq,Nat.add_zero,show Nat.beq j j=true from Nat.beq_refl j,putS_lt cs (j+1) j v (by omega)];simp
 | c::cs,j,i+1,v,h=>by
  have e:Nat.beq (j+(i+1)) j=false:=by
   cases hb:Nat.beq (j+(i+1)) j with
   |false=>rfl
   |true=>have:=Nat.eq_of_beq_eq_true hb;omega
  rw[putS,selA_eq,e,show j+(i+1)=(j+1)+i by omega,putS_eq cs (j+1) i v (by simpa using h)];simp
theorem putC_eq {cs new:List AV} {off n:Nat} (h:off+n≤cs.length):putC cs off new n=takeL cs off++new++dropL cs (off+n):=by
 unfold putC
 split
 ·rename_i v
  cases hn:Nat.beq n 1 with
  |false=>rfl
  |true=>
   have hn':n=1:=Nat.eq_of_beq_eq_true hn
   subst hn'
   have:=putS_eq cs 0 off v (by omega)
   rw[Nat.zero_add] at this
   simp only[cond_true,this,takeL_eq,dropL_eq]
 ·rfl
theorem allI_eq:∀(cs:List AV) (k:IntKind) (ns:List Int),allI cs=some (k,ns)→ns.length=cs.length∧∀i,i<cs.length→nth .junk cs i= .int k (nth 0 ns i)
 |[],_,_,h=>by simp[allI] at h
 |[c],k,ns,h=>by
  cases c<;>simp[allI] at h
  obtain ⟨rfl,rfl⟩:=h
  exact ⟨rfl, fun i hi => by obtain rfl:i=0:=by simpa using hi
                             rfl⟩
 | c::c'::r,k,ns,h=>by
  cases c<;>simp only[allI] at h<;>try (cases h;done)
  rename_i k0 n0
  cases hr:allI (c'::r) with
  |none=>rw[hr] at h;cases h
  | some p=>
   obtain ⟨k1,l1⟩:=p
   rw[hr] at h
   by_cases hk:k0=k1
   ·subst hk
    simp only[decide_true,cond_true,Option.some.injEq,Prod.mk.injEq] at h
    obtain ⟨rfl,rfl⟩:=h
    obtain ⟨g1,g2⟩:=allI_eq (c'::r) k0 l1 hr
    refine ⟨by simp[g1],fun i hi=> ?_⟩
    cases i with
    |zero=>rfl
    |succ i=>exact g2 i (by simpa using hi)
   ·simp[hk] at h
theorem ldC_eq {cs:List AV} {off n:Nat} (h:off+n≤cs.length):ldC cs off n=takeL (dropL cs off) n:=by
 unfold ldC
 cases hn:Nat.beq n 1 with
 |false=>rfl
 | true=>
  have hn':n=1:=Nat.eq_of_beq_eq_true hn
  subst hn'
  have e:takeL (dropL cs off) 1=[nth .junk cs off]:=by
   have hlt:off<cs.length:=by omega
   rw[takeL_eq,dropL_eq,List.drop_eq_getElem_cons hlt]
   simp only[List.take_succ_cons,List.take_zero]
   congr 1
   clear h hn
   induction cs generalizing off with
   |nil=>simp at hlt
   |cons c cs ih=>
    cases off with
    |zero=>rfl
    |succ o=>exact ih (by simpa using hlt)
  rw[e,cond_true]
  unfold selN
  cases ha:allI cs with
  |none=>rfl
  |some p=>
   obtain ⟨k,ns⟩:=p
   rw[(allI_eq cs k ns ha).2 off (by omega)]
theorem nth_drop {α:Type} (d:α) (l:List α) (n i:Nat):nth d (l.drop n) i=nth d l (n+i):=by simp[nth_get?]
theorem nth_take {α:Type} (d:α) (l:List α) (n i:Nat) (h:i<n):nth d (l.take n) i=nth d l i:=by simp[nth_get?,h]
theorem nth_append {α:Type} (d:α) (l l':List α) (i:Nat):nth d (l++l') i=if i<l.length then nth d l i else nth d l' (i-l.length):=by
 simp only[nth_get?,List.getElem?_append];split<;>rfl
theorem enc_length:∀(k:CK) (x:CT k),(enc k x).length=width k
 | .bool,_=>rfl
 | .int _,_=>rfl
 | .str,_=>rfl
 | .slice _ _,_=>rfl
 | .map _ _ _ _,_=>rfl
 | .other,_=>rfl
 | .pair a b,x=>by simp only[enc,width,List.length_append,enc_length a x.1,enc_length b x.2]
theorem gt_length (k:CK) (xs:List (CT k)) (i:Nat):(gt k xs i).length=width k:=enc_length _ _
theorem width_pos:∀k:CK,0<width k
 | .bool=>Nat.one_pos
 | .int _=>Nat.one_pos
 | .str=>Nat.one_pos
 | .slice _ _=>Nat.one_pos
 | .map _ _ _ _=>Nat.one_pos
 | .other=>Nat.one_pos
 | .pair a b=>by have:=width_pos a;simp only[width];omega
theorem gt_append_left {k:CK} {xs ys:List (CT k)} {i:Nat} (h:i<xs.length):gt k (xs++ys) i=gt k xs i:=by simp only[gt];rw[nth_append,if_pos h]
theorem gt_append_right {k:CK} {xs ys:List (CT k)} {i:Nat} (h:xs.length≤i):gt k (xs++ys) i=gt k ys (i-xs.length):=by simp only[gt];rw[nth_append,if_neg (by omega)]
theorem gt_drop {k:CK} {xs:List (CT k)} (o i:Nat):gt k (xs.drop o) i=gt k xs (o+i):=by simp only[gt];rw[nth_drop]
theorem gt_take {k:CK} {xs:List (CT k)} {n i:Nat} (h:i<n):gt k (xs.take n) i=gt k xs i:=by simp only[gt];rw[nth_take _ _ _ _ h]
theorem gt_win {k:CK} {xs:List (CT k)} {off:Nat} {lw:Option Nat} {i:Nat} (h:i<winN xs.length off lw):gt k (win off lw xs) i=gt k xs (off+i):=by
 cases lw with
 |none=>exact gt_drop off i
 |some l=>simp only[winN] at h;simp only[win];rw[gt_take h,gt_drop]
theorem win_length {α:Type} {xs:List α} {off:Nat} {lw:Option Nat} (h:off+winN xs.length off lw≤xs.length):(win off lw xs).length=winN xs.length off lw:=by
 cases lw with
 |none=>simp[win,winN]
 |some l=>simp only[winN] at h⊢;simp only[win,List.length_take,List.length_drop];omega
theorem nth_set {α:Type} (d x:α) (l:List α) (i j:Nat):nth d (l.set i x) j=if i=j∧i<l.length then x else nth d l j:=by
 simp only[nth_get?,List.getElem?_set]
 by_cases h:i=j
 ·subst h;by_cases h':i<l.length<;>simp[h']
 ·simp[h]
theorem addN_eq:∀a b,addN a b=a+b
 |0,b=>by simp[addN]
 |a+1,b=>rfl
def cloV (f:FuncId×Bool) (vs:Array Value):Value:=bif f.2 then .func (.func f.1) vs #[] else .func (.func f.1) #[] vs
def bornsOk (es:Array MapEntry) (clock:Nat):Prop:=(es.toList.map (·.born)).Nodup∧∀e∈es.toList,e.born<clock
inductive PV (w:World) (S:Nat→Prop):AV→Value→Prop
 |bool (b:Bool):PV w S (.bool b) (.bool b)
 |int (k:IntKind) (n:Int):PV w S (.int k n) (.int k n)
 |str (s:ByteArray):PV w S (.str s.data.toList) (.string s)
 |nilp:PV w S .nilp (.pointer none)
 |nils:PV w S .nils (.slice none 0 0)
 |nilm:PV w S .nilm (.map none)
 |zc (A:Option Addr):PV w S .zc (.slice A 0 0)
 |nilf:PV w S .nilf .nilFunc
 |nili:PV w S .nili .nilIface
 |fn (f:Fn):PV w S (.fn f) (.func f #[] #[])
 |clo (f:FuncId×Bool) (cs:List AV) (vs:Array Value):cs.length=vs.size→(∀i,i<cs.length→PV w S (nth .junk cs i) (vs.getD i undef))→PV w S (.clo f cs) (cloV f vs)
 |agg (cs:List AV) (vs:Array Value):cs.length=vs.size→(∀i,i<cs.length→PV w S (nth .junk cs i) (vs.getD i undef))→PV w S (.agg cs) (.agg vs)
 |roNil (k:CK) (A:Option Addr) (c:Nat):PV w S (.ro k []) (.slice A 0 c)
 | ro (k:CK) (xs:List (CT k)) (n:Nat) (B o c:Nat) (u:Nat→Nat→Value):xs.length=n→S B→n≤c→
   (∀i j,i<n→j<width k→w.cell? ⟨B,o+(i*width k+j),none⟩=some (u i j))→(∀i j,i<n→j<width k→(u i j).oneCell'=true)→(∀i j,i<n→j<width k→PV w S (nth .junk (gt k xs i) j) (u i j))→
   PV w S (.ro k xs) (.slice (some ⟨B,o,none⟩) n c)
 |rk (k:CK) (xs:List (CT k)) (A:Option Addr) (n c:Nat):PV w S (.ro k xs) (.slice A n c)→PV w S (.rk A.isSome k xs) (.slice A n c)
 |rmapn (ka va:Bool) (kk vk:CK):PV w S (.rmap ka va kk vk []) (.map none)
 | rmap (ka va:Bool) (kk vk:CK) (m:List (CT kk×CT vk)) (B:Nat) (es:Array MapEntry) (clock:Nat):S B→w.heap[B]?=some (.map es clock)→bornsOk es clock→m.length=es.toList.length→
   (∀i,i<m.length→PV w S (packB ka (enc kk (nth (dflt kk,dflt vk) m i).1)) (nth default es.toList i).key)→(∀i,i<m.length→PV w S (packB va (enc vk (nth (dflt kk,dflt vk) m i).2)) (nth default es.toList i).val)→PV w S (.rmap ka va kk vk m) (.map (some B))
 | rptr (cs:List AV) (j B o:Nat) (u:Nat→Value):S B→(∀i,i<cs.length→w.cell? ⟨B,o+i,none⟩=some (u i))→(∀i,i<cs.length→PV w S (nth .junk cs i) (u i))→
   PV w S (.rptr cs j) (.pointer (some ⟨B,o+j,none⟩))
 |junk (v:Value):PV w S .junk v
theorem PV.mono {w w':World} {S S':Nat→Prop} {v:AV} {u:Value} (h:PV w S v u) (hS:∀B,S B→S' B) (hw:∀B,S B→w'.heap[B]?=w.heap[B]?):PV w' S' v u:=by
 have hc:∀a:Addr,S a.block→w'.cell? a=w.cell? a:=fun a ha=>World.cell?_of_block (hw _ ha)
 induction h with
 |bool b=>exact .bool b
 |int k n=>exact .int k n
 |str s=>exact .str s
 |nilp=>exact .nilp
 |nils=>exact .nils
 |nilm=>exact .nilm
 |zc A=>exact .zc A
 |nilf=>exact .nilf
 |nili=>exact .nili
 |fn f=>exact .fn f
 |clo f cs vs hl _ ih=>exact .clo f cs vs hl ih
 |agg cs vs hl _ ih=>exact .agg cs vs hl ih
 |roNil k A c=>exact .roNil k A c
 |ro k xs n B o c u hl hB hn hcell h1 _ ih=>exact .ro k xs n B o c u hl (hS _ hB) hn (fun i j hi hj=>by rw[hc _ hB];exact hcell i j hi hj) h1 ih
 |rk k xs A n c _ ih=>exact .rk k xs A n c ih
 |rmapn=>exact .rmapn _ _ _ _
 |rmap ka va kk vk m B es clock hB hg hb hl _ _ ih1 ih2=>exact .rmap ka va kk vk m B es clock (hS _ hB) (by rw[hw _ hB];exact hg) hb hl ih1 ih2
 |rptr cs j B o u hB hcell _ ih=>exact .rptr cs j B o u (hS _ hB) (fun i hi=>by rw[hc _ hB];exact hcell i hi) ih
 |junk v=>exact .junk v
theorem asL_ro (k:CK) (xs:List (CT k)):asL k (.ro k xs)=xs:=by simp[asL]
theorem PV.asL {w:World} {S:Nat→Prop} {k:CK} {v:AV} {u:Value} (h:PV w S v u) (hk:isRo k v=true):PV w S (.ro k (asL k v)) u:=by
 cases h with
 |nils=>exact .roNil k none 0
 |zc A=>exact .roNil k A 0
 |roNil k' A c=>simp only[isRo,decide_eq_true_eq] at hk;subst hk;rw[asL_ro];exact .roNil _ A c
 |rk k' xs A n c h=>simp only[isRo,decide_eq_true_eq] at hk;subst hk;rw[show Abs.asL k' (.rk A.isSome k' xs)=xs by simp[Abs.asL]];exact h
 |ro k' xs n B o c u h1 h2 h3 h4 h5 h6=>simp only[isRo,decide_eq_true_eq] at hk;subst hk;rw[asL_ro];exact .ro _ xs n B o c u h1 h2 h3 h4 h5 h6
 |_=>simp[isRo] at hk
theorem asM_rmap (ka va:Bool) (kk vk:CK) (m:List (CT kk×CT vk)):asM kk vk (.rmap ka va kk vk m)=m:=by simp[asM]
theorem PV.asM {w:World} {S:Nat→Prop} {ka va:Bool} {kk vk:CK} {v:AV} {u:Value} (h:PV w S v u) (hk:isM ka va kk vk v=true):PV w S (.rmap ka va kk vk (asM kk vk v)) u:=by
 cases h with
 |nilm=>exact .rmapn _ _ _ _
 |rmapn ka' va' kk' vk'=>
  simp only[isM,Bool.and_eq_true,beq_iff_eq,decide_eq_true_eq] at hk
  obtain ⟨rfl,rfl,rfl,rfl⟩:=hk
  rw[asM_rmap];exact .rmapn _ _ _ _
 |rmap ka' va' kk' vk' m B es clock q1 q2 q3 q4 q5 q6=>
  simp only[isM,Bool.and_eq_true,beq_iff_eq,decide_eq_true_eq] at hk
  obtain ⟨rfl,rfl,rfl,rfl⟩:=hk
  rw[asM_rmap];exact .rmap _ _ _ _ m B es clock q1 q2 q3 q4 q5 q6
 |_=>simp[isM] at hk
theorem dec_sound {w:World} {S:Nat→Prop}:∀(k:CK) (cs:List AV) (u:Nat→Value),decOk k cs=true→(∀j,j<width k→PV w S (nth .junk cs j) (u j))→∀j,j<width k→PV w S (nth .junk (enc k (dec k cs)) j) (u j)
 | .bool,cs,u,hk,h,j,hj=>by
  obtain rfl:j=0:=by simp[width] at hj;exact hj
  have h0:=h 0 (by simp[width])
  simp only[decOk] at hk
  cases hv:nth .junk cs 0<;>simp[hv,isB] at hk
  simpa [enc,dec,nth,hv,asB] using hv▸h0
 | .int k,cs,u,hk,h,j,hj=>by
  obtain rfl:j=0:=by simp[width] at hj;exact hj
  have h0:=h 0 (by simp[width])
  simp only[decOk] at hk
  cases hv:nth .junk cs 0<;>simp[hv,isInt] at hk
  subst hk
  simpa [enc,dec,nth,hv,asInt] using hv▸h0
 | .str,cs,u,hk,h,j,hj=>by
  obtain rfl:j=0:=by simp[width] at hj;exact hj
  have h0:=h 0 (by simp[width])
  simp only[decOk] at hk
  cases hv:nth .junk cs 0<;>simp[hv,isStr] at hk
  simpa [enc,dec,nth,hv,asStr] using hv▸h0
 | .slice e k,cs,u,hk,h,j,hj=>by
  obtain rfl:j=0:=by simp[width] at hj;exact hj
  have h0:=h 0 (by simp[width])
  simp only[decOk] at hk
  simpa [enc,dec,nth] using h0.asL hk
 | .map ka va kk vk,cs,u,hk,h,j,hj=>by
  obtain rfl:j=0:=by simp[width] at hj;exact hj
  have h0:=h 0 (by simp[width])
  simp only[decOk] at hk
  simpa [enc,dec,nth] using h0.asM hk
 | .other,cs,u,hk,h,j,hj=>by
  obtain rfl:j=0:=by simp[width] at hj;exact hj
  exact .junk _
 | .pair a b,cs,u,hk,h,j,hj=>by
  simp only[decOk,Bool.and_eq_true] at hk
  simp only[width] at h hj
  simp only[enc,dec]
  rw[nth_append,enc_length]
  by_cases hja:j<width a
  ·rw[if_pos hja];exact dec_sound a cs u hk.1 (fun j hj=>h j (by omega)) j hja
  ·rw[if_neg hja]
   have:=dec_sound b (dropL cs (width a)) (fun j=>u (width a+j)) hk.2 (fun j hj=>by rw[dropL_eq,nth_drop];exact h _ (by omega)) (j-width a) (by omega)
   rwa [show width a+(j-width a)=j by omega] at this
theorem chunks_length (k:CK):∀(n:Nat) (cs:List AV),(chunks k n cs).length=n
 |0,_=>rfl
 |n+1,cs=>by simp[chunks,chunks_length k n]
theorem chunks_sound {w:World} {S:Nat→Prop} (k:CK):∀(n:Nat) (cs:List AV) (u:Nat→Value),chunksOk k n cs=true→(∀q,q<n*width k→PV w S (nth .junk cs q) (u q))→
  ∀i,i<n→∀j,j<width k→PV w S (nth .junk (gt k (chunks k n cs) i) j) (u (i*width k+j))
 |0,_,_,_,_,i,hi,_,_=>by omega
 | n+1,cs,u,hk,h,i,hi,j,hj=>by
  simp only[chunksOk,Bool.and_eq_true] at hk
  have hmul:(n+1)*width k=n*width k+width k:=Nat.succ_mul _ _
  cases i with
  |zero=>
   have:=dec_sound k cs u hk.1 (fun j hj=>h j (by omega)) j hj
   simpa [gt,chunks,nth] using this
  |succ i=>
   have:=chunks_sound k n (dropL cs (width k)) (fun q=>u (width k+q)) hk.2 (fun q hq=>by rw[dropL_eq,nth_drop];exact h _ (by omega)) i (by omega) j hj
   have e:width k+(i*width k+j)=(i+1)*width k+j:=by rw[Nat.succ_mul];omega
   rw[e] at this
   simpa [gt,chunks,nth] using this
def blkOf:Value→Option Nat
 | .pointer (some a)=>some a.block
 | .slice (some a) _ _=>some a.block
 | .map r=>r
 |_=>none
inductive OwnsT:Value→Nat→Prop
 |one {v:Value} {B:Nat}:blkOf v=some B→OwnsT v B
 |sub {vs:Array Value} {u:Value} {B:Nat}:u∈vs.toList→OwnsT u B→OwnsT (.tuple vs) B
def Owns:Value→Nat→Prop
 | .tuple vs,B=>OwnsT (.tuple vs) B
 |v,B=>blkOf v=some B
theorem owns_T {v:Value} {B:Nat}:Owns v B↔OwnsT v B:=by
 cases v<;>first|exact Iff.rfl|exact ⟨fun h=> .one h,fun h=>by cases h with|one h=>exact h⟩
def Blk.live:Blk→Prop
 | .cells _| .row .. | .map .. | .iter .. =>True
 | .tab false .. =>True
 |_=>False
def img (v:Value) (n m:Nat) (F:Nat→Nat→Value):Value:= .tuple (v::(List.range n).map fun i=> .tuple ((List.range m).map (F i)).toArray).toArray
def gone (v:Value):Value:= .agg #[v]
def bare1V:Value→Value
 | .agg vs=>vs.getD 0 undef
 |v=>v
def hd1:Value→Value
 | .tuple vs=>vs.getD 0 undef
 |v=>v
def hd (v:Value):Value:=hd1 (bare1V v)
def sub1 (i j:Nat):Value→Value
 | .tuple vs=>(match vs.getD (i+1) undef with| .tuple us=>us.getD j undef|_=>undef)
 |_=>undef
def subI (v:Value) (i j:Nat):Value:=sub1 i j (bare1V v)
def imgAt:Value→Pth→Value
 |v,[]=>v
 |v,(i,j)::p=>imgAt (subI v i j) p
def hdAt (v:Value) (p:Pth):Value:=hd (imgAt v p)
theorem hd_img {v:Value} {n m:Nat} {F:Nat→Nat→Value}:hd (img v n m F)=v:=by simp[hd,img,bare1V,hd1]
theorem hd_gone {v:Value} (h:bare1V v=v):hd (gone v)=hd v:=by simp[hd,gone,bare1V] at h⊢;rw[h]
theorem subI_gone {v:Value} {i j:Nat} (h:bare1V v=v):subI (gone v) i j=subI v i j:=by simp[subI,gone,bare1V] at h⊢;rw[h]
theorem subI_img {v:Value} {n m:Nat} {F:Nat→Nat→Value} {i j:Nat} (hi:i<n) (hj:j<m):subI (img v n m F) i j=F i j:=by
 simp[subI,img,bare1V,sub1,hi,hj]
theorem owns_img {v:Value} {n m:Nat} {F:Nat→Nat→Value} {B:Nat} (hv:∀vs,v≠ .tuple vs):Owns (img v n m F) B↔blkOf v=some B∨∃i j,i<n∧j<m∧Owns (F i j) B:=by
 have hv':∀ {B},OwnsT v B→blkOf v=some B:=fun h=>by
  cases h with
  |one h=>exact h
  |sub _ _=>exact absurd rfl (hv _)
 constructor
 ·intro h
  rcases owns_T.1 h with h|⟨hu,hB⟩
  ·cases h
  ·rename_i u
   have hu':u=v∨∃i,i<n∧ .tuple ((List.range m).map (F i)).toArray=u:=by simpa using hu
   rcases hu' with rfl|⟨i,hi,rfl⟩
   ·exact .inl (hv' hB)
   ·rcases hB with h|⟨hu,hB⟩
    ·cases h
    ·rename_i u
     have hu':∃j,j<m∧F i j=u:=by simpa using hu
     obtain ⟨j,hj,rfl⟩:=hu'
     exact .inr ⟨i,j,hi,hj,owns_T.2 hB⟩
 ·rintro (h|⟨i,j,hi,hj,h⟩)
  ·exact OwnsT.sub (u:=v) (by simp) (.one h)
  ·exact OwnsT.sub (u:= .tuple ((List.range m).map (F i)).toArray) (List.mem_cons_of_mem _ (List.mem_map.2 ⟨i,List.mem_range.2 hi,rfl⟩)) (.sub (u:=F i j) (List.mem_map.2 ⟨j,List.mem_range.2 hj,rfl⟩) (owns_T.1 h))
theorem owns_gone {v:Value} {B:Nat}:¬Owns (gone v) B:=by simp[gone,Owns,blkOf]
theorem owns_undef {B:Nat}:¬Owns undef B:=by
 intro h
 rcases owns_T.1 h with h|⟨hu,_⟩
 ·cases h
 ·simp at hu
def pathOk (os:List TypeId):Nd→Pth→Prop
 |_,[]=>True
 |d,(i,j)::p=>i<d.xs.length∧j<width d.k∧∃ek,ownC os d.k j=some ek∧pathOk os ⟨ek.1,ek.2,asL ek.2 (nth .junk (gt d.k d.xs i) j)⟩ p
def SameP (d d':TD) (m m':Value) (p:Pth):Prop:=
 pathOk d.os ⟨d.e,d.k,d.xs⟩ p→pathOk d'.os ⟨d'.e,d'.k,d'.xs⟩ p∧(d'.nd p).xs.length=(d.nd p).xs.length∧width (d'.nd p).k=width (d.nd p).k∧hdAt m' p=hdAt m p
theorem SameP.refl (d:TD) (m:Value) (p:Pth):SameP d d m m p:=fun h=>⟨h,rfl,rfl,rfl⟩
theorem SameP.trans {d d' d'':TD} {m m' m'':Value} {p:Pth} (h:SameP d d' m m' p) (k:SameP d' d'' m' m'' p):SameP d d'' m m'' p:=fun hp=>by
 obtain ⟨a1,a2,a3,a4⟩:=h hp
 obtain ⟨b1,b2,b3,b4⟩:=k a1
 exact ⟨b1,b2.trans a2,b3.trans a3,b4.trans a4⟩
theorem TD.vp_le {d d':TD} (h:d.ver≤d'.ver) (k:d.iv≤d'.iv) (p:Pth):d.vp p≤d'.vp p:=by cases p<;>assumption
def Sub (m:Value) (n sz off len:Nat) (v:Value):Prop:=
 (m= .slice none 0 0∧off=0∧len=0∧v= .slice none 0 0)∨
 ∃B o cap A,m= .slice (some ⟨B,o,none⟩) n cap∧off+len≤cap∧v= .slice (some A) len (cap-off)∧(off=0∨off<cap→A=⟨B,o+off*sz,none⟩)
inductive VR (H:List Blk) (μ:Nat→Value) (w:World) (S:Nat→Prop):AV→Value→Prop
 |pv {v:AV} {u:Value}:PV w S v u→VR H μ w S v u
 |ptr (b off:Nat) (cs:List AV) (B:Nat):nth .free H b= .cells cs→μ b= .pointer (some ⟨B,0,none⟩)→VR H μ w S (.ptr b off) (.pointer (some ⟨B,off,none⟩))
 |mp (b B:Nat):isMapB (nth .free H b)=true→μ b= .map (some B)→VR H μ w S (.mp b) (.map (some B))
 |it (b I:Nat):isIterB (nth .free H b)=true→μ b= .pointer (some ⟨I,0,none⟩)→VR H μ w S (.it b) (.pointer (some ⟨I,0,none⟩))
 |csl (b off n:Nat) (cs:List AV) (B c:Nat):nth .free H b= .cells cs→μ b= .pointer (some ⟨B,0,none⟩)→n≤c→VR H μ w S (.csl b off n) (.slice (some ⟨B,off,none⟩) n c)
 |eptr (b ver i j:Nat) (r:Rd) (B o:Nat):rdOf (nth .free H b)=some r→ver≤r.ver→(ver=r.ver→∃o0 cap,o=o0+(i*r.sz+j)∧μ b= .slice (some ⟨B,o0,none⟩) r.n cap)→VR H μ w S (.eptr b ver i j) (.pointer (some ⟨B,o,none⟩))
 | sl (b ver off:Nat) (lw:Option Nat) (len:Nat) (r:Rd) (A:Option Addr) (c:Nat):rdOf (nth .free H b)=some r→ver≤r.ver→len≤c→(0<len→∃B o,A=some ⟨B,o,none⟩)→(ver=r.ver→len=winN r.n off lw∧off+len≤r.n∧Sub (μ b) r.n r.sz off len (.slice A len c))→
   VR H μ w S (.sl b ver off lw) (.slice A len c)
 |tsl (b ver:Nat) (p:Pth) (d:TD) (n:Nat) (A:Option Addr) (c:Nat):tabD (nth .free H b)=some d→ver≤d.vp p→(ver=d.vp p→pathOk d.os ⟨d.e,d.k,d.xs⟩ p∧hdAt (μ b) p= .slice A n c∧n=(d.nd p).xs.length∧(0<n→∃B o,A=some ⟨B,o,none⟩))→VR H μ w S (.tsl b ver p) (.slice A n c)
 |tptr (b ver:Nat) (p:Pth) (i j:Nat) (d:TD) (B o:Nat):tabD (nth .free H b)=some d→ver≤d.vp p→(ver=d.vp p→pathOk d.os ⟨d.e,d.k,d.xs⟩ p∧∃o0 cap,o=o0+(i*width (d.nd p).k+j)∧hdAt (μ b) p= .slice (some ⟨B,o0,none⟩) (d.nd p).xs.length cap)→VR H μ w S (.tptr b ver p i j) (.pointer (some ⟨B,o,none⟩))
 |agg (cs:List AV) (vs:Array Value):cs.length=vs.size→(∀i,i<cs.length→VR H μ w S (nth .junk cs i) (vs.getD i undef))→VR H μ w S (.agg cs) (.agg vs)
 |tup (cs:List AV) (vs:Array Value):cs.length=vs.size→(∀i,i<cs.length→VR H μ w S (nth .junk cs i) (vs.getD i undef))→VR H μ w S (.tup cs) (.tuple vs)
 |clo (f:FuncId×Bool) (cs:List AV) (vs:Array Value):cs.length=vs.size→(∀i,i<cs.length→VR H μ w S (nth .junk cs i) (vs.getD i undef))→VR H μ w S (.clo f cs) (cloV f vs)
 |when (g:Bool) (v:AV) (u:Value):(g=true→VR H μ w S v u)→(g=false→u=undef)→VR H μ w S (.when g v) u
def Ext (H:List Blk) (μ:Nat→Value) (H':List Blk) (μ':Nat→Value):Prop:=
 ∀b,(∀cs,nth .free H b= .cells cs→∃cs',nth .free H' b= .cells cs'∧μ' b=μ b)∧
  (∀r,rdOf (nth .free H b)=some r→∃r',rdOf (nth .free H' b)=some r'∧r'.sz=r.sz∧r.ver≤r'.ver∧(r.ver=r'.ver→r'.n=r.n∧μ' b=μ b))∧
  (isMapB (nth .free H b)=true→isMapB (nth .free H' b)=true∧μ' b=μ b)∧(isIterB (nth .free H b)=true→isIterB (nth .free H' b)=true∧μ' b=μ b)∧
  ∀d,tabD (nth .free H b)=some d→∃d',tabD (nth .free H' b)=some d'∧d.ver≤d'.ver∧d.iv≤d'.iv∧∀p,d.vp p=d'.vp p→SameP d d' (μ b) (μ' b) p
theorem Ext.refl (H:List Blk) (μ:Nat→Value):Ext H μ H μ:=fun _=>⟨fun cs hc=>⟨cs,hc,rfl⟩,fun r hr=>⟨r,hr,rfl,Nat.le_refl _,fun _=>⟨rfl,rfl⟩⟩,fun h=>⟨h,rfl⟩,fun h=>⟨h,rfl⟩,fun d hd=>⟨d,hd,Nat.le_refl _,Nat.le_refl _,fun p _=>SameP.refl _ _ _⟩⟩
theorem Ext.trans {H H' H'':List Blk} {μ μ' μ'':Nat→Value} (h:Ext H μ H' μ') (k:Ext H' μ' H'' μ''):Ext H μ H'' μ'':=by
 intro b
 obtain ⟨h2,h3,h4,h5,h6⟩:=h b
 obtain ⟨k2,k3,k4,k5,k6⟩:=k b
 refine ⟨fun cs hc=> ?_,fun r hr=> ?_,fun hm=>⟨(k4 (h4 hm).1).1,(k4 (h4 hm).1).2.trans (h4 hm).2⟩,fun hm=>⟨(k5 (h5 hm).1).1,(k5 (h5 hm).1).2.trans (h5 hm).2⟩,fun r hr=> ?_⟩
 ·obtain ⟨cs',hc',e⟩:=h2 cs hc
  obtain ⟨cs'',hc'',e'⟩:=k2 cs' hc'
  exact ⟨cs'',hc'',e'.trans e⟩
 ·obtain ⟨r',hr',e1,e2,e3⟩:=h3 r hr
  obtain ⟨r'',hr'',f1,f2,f3⟩:=k3 r' hr'
  refine ⟨r'',hr'',f1.trans e1,Nat.le_trans e2 f2,fun e=> ?_⟩
  have ea:r.ver=r'.ver:=by omega
  have eb:r'.ver=r''.ver:=by omega
  exact ⟨(f3 eb).1.trans (e3 ea).1,(f3 eb).2.trans (e3 ea).2⟩
 ·obtain ⟨r',hr',e1,e2,e3⟩:=h6 r hr
  obtain ⟨r'',hr'',f1,f2,f3⟩:=k6 r' hr'
  refine ⟨r'',hr'',Nat.le_trans e1 f1,Nat.le_trans e2 f2,fun p e=> ?_⟩
  have q1:=TD.vp_le e1 e2 p
  have q2:=TD.vp_le f1 f2 p
  exact (e3 p (by omega)).trans (f3 p (by omega))
theorem VR.mono {H H':List Blk} {μ μ':Nat→Value} {w w':World} {S S':Nat→Prop} {v:AV} {u:Value} (h:VR H μ w S v u) (he:Ext H μ H' μ') (hS:∀B,S B→S' B) (hw:∀B,S B→w'.heap[B]?=w.heap[B]?):
  VR H' μ' w' S' v u:=by
 induction h with
 |pv h=>exact .pv (h.mono hS hw)
 |ptr b off cs B hb hm=>
  obtain ⟨cs',h1,h2⟩:=(he b).1 cs hb
  exact .ptr b off cs' B h1 (h2.trans hm)
 |csl b off n cs B c hb hm hc=>
  obtain ⟨cs',h1,h2⟩:=(he b).1 cs hb
  exact .csl b off n cs' B c h1 (h2.trans hm) hc
 |mp b B hb hm=>
  obtain ⟨h1,h2⟩:=(he b).2.2.1 hb
  exact .mp b B h1 (h2.trans hm)
 |it b I hb hm=>
  obtain ⟨h1,h2⟩:=(he b).2.2.2.1 hb
  exact .it b I h1 (h2.trans hm)
 | tsl b ver p d n A c hd hv hc=>
  obtain ⟨d',hd',e1,e2,e3⟩:=(he b).2.2.2.2 d hd
  have hle:=TD.vp_le e1 e2 p
  exact .tsl b ver p d' n A c hd' (Nat.le_trans hv hle) fun e=>by
   obtain ⟨p0,p1,p2,p3⟩:=hc (by omega)
   obtain ⟨q0,q1, -,q2⟩:=e3 p (by omega) p0
   exact ⟨q0,q2.trans p1,p2.trans q1.symm,p3⟩
 |tptr b ver p i j d B o hd hv hc=>
  obtain ⟨d',hd',e1,e2,e3⟩:=(he b).2.2.2.2 d hd
  have hle:=TD.vp_le e1 e2 p
  refine .tptr b ver p i j d' B o hd' (Nat.le_trans hv hle) fun e=> ?_
  obtain ⟨p0,o0,cap,ho,hm⟩:=hc (by omega)
  obtain ⟨q0,q1,qw,q2⟩:=e3 p (by omega) p0
  exact ⟨q0,o0,cap,by rw[qw];exact ho,by rw[q2,q1];exact hm⟩
 |eptr b ver i j r B o hr hv hc=>
  obtain ⟨r',hr',e1,e2,e3⟩:=(he b).2.1 r hr
  refine .eptr b ver i j r' B o hr' (Nat.le_trans hv e2) fun e=> ?_
  have ea:r.ver=r'.ver:=by omega
  obtain ⟨o0,cap,ho,hm⟩:=hc (by omega)
  exact ⟨o0,cap,by rw[e1];exact ho,by rw[(e3 ea).2,(e3 ea).1];exact hm⟩
 |sl b ver off lw len r A c hr hv hlc hA hc=>
  obtain ⟨r',hr',e1,e2,e3⟩:=(he b).2.1 r hr
  refine .sl b ver off lw len r' A c hr' (Nat.le_trans hv e2) hlc hA fun e=> ?_
  have ea:r.ver=r'.ver:=by omega
  obtain ⟨hw,hl,hs⟩:=hc (by omega)
  rw[(e3 ea).2,(e3 ea).1,e1]
  exact ⟨hw,hl,hs⟩
 |agg cs vs hl _ ih=>exact .agg cs vs hl ih
 |tup cs vs hl _ ih=>exact .tup cs vs hl ih
 |clo f cs vs hl _ ih=>exact .clo f cs vs hl ih
 |when g v u _ h2 ih=>exact .when g v u ih h2
def PC (w:World) (S:Nat→Prop) (v:AV) (u:Value):Prop:=PV w S v u∧u.oneCell'=true
theorem PC.mono {w w':World} {S S':Nat→Prop} {v:AV} {u:Value} (h:PC w S v u) (hS:∀B,S B→S' B) (hw:∀B,S B→w'.heap[B]?=w.heap[B]?):PC w' S' v u:=⟨h.1.mono hS hw,h.2⟩
def RowV (w:World) (M:Nat→Prop) (R:AV→Value→Prop) (v:Value) (e:TypeId) (k:CK) (xs:List (CT k)):Prop:=
 (v= .slice none 0 0∧xs=[])∨
 ∃B o cap cur,v= .slice (some ⟨B,o,none⟩) xs.length cap∧M B∧w.heap[B]?=some (.cells cur e (0,0))∧xs.length≤cap∧cap≤maxLen∧cur.size=o+cap*width k∧
  ∀i,i<xs.length→∀j,j<width k→R (nth .junk (gt k xs i) j) (cur.getD (o+(i*width k+j)) undef)
theorem RowV.imp {w w':World} {M M':Nat→Prop} {R R':AV→Value→Prop} {v:Value} {e:TypeId} {k:CK} {xs:List (CT k)} (h:RowV w M R v e k xs) (hb:∀B,M B→M' B) (hw:∀B,Owns v B→w'.heap[B]?=w.heap[B]?)
  (hR:∀x y,R x y→R' x y):RowV w' M' R' v e k xs:=by
 rcases h with h|⟨B,o,cap,cur,rfl,h1,h2,h3,h4,h5,h6⟩
 ·exact .inl h
 ·refine .inr ⟨B,o,cap,cur,rfl,hb B h1,?_,h3,h4,h5,fun i hi j hj=>hR _ _ (h6 i hi j hj)⟩
  rw[hw B rfl];exact h2
def All2 {α β:Type} (R:α→β→Prop):List α→List β→Prop
 |[],[]=>True
 |a::as,b::bs=>R a b∧All2 R as bs
 |_,_=>False
theorem All2.append {α β:Type} {R:α→β→Prop}:∀ {as as':List α} {bs bs':List β},All2 R as bs→All2 R as' bs'→All2 R (as++as') (bs++bs')
 |[],_,[],_,_,h=>h
 |_::_,_,[],_,h,_=>absurd h id
 |[],_,_::_,_,h,_=>absurd h id
 |a::as,as',b::bs,bs',h,h'=>⟨h.1,All2.append h.2 h'⟩
theorem All2.len {α β:Type} {R:α→β→Prop}:∀ {as:List α} {bs:List β},All2 R as bs→as.length=bs.length
 |[],[],_=>rfl
 |[],_::_,h=>absurd h id
 |_::_,[],h=>absurd h id
 |_::as,_::bs,h=>by simp[All2.len h.2]
theorem All2.get {α β:Type} {R:α→β→Prop} (d:α) (d':β):∀ {as:List α} {bs:List β},All2 R as bs→∀i,i<as.length→R (nth d as i) (nth d' bs i)
 |[],[],_,i,hi=>by simp at hi
 |[],_::_,h,_,_=>absurd h id
 |_::_,[],h,_,_=>absurd h id
 |_::as,_::bs,h,0,_=>h.1
 |_::as,_::bs,h,i+1,hi=>All2.get d d' h.2 i (by simpa using hi)
theorem All2.imp {α β:Type} {R R':α→β→Prop} (hR:∀a b,R a b→R' a b):∀ {as:List α} {bs:List β},All2 R as bs→All2 R' as bs
 |[],[],_=>trivial
 |[],_::_,h=>absurd h id
 |_::_,[],h=>absurd h id
 |_::_,_::_,h=>⟨hR _ _ h.1,All2.imp hR h.2⟩
def EntR (w:World) (S:Nat→Prop) (ka va:Bool) (kk vk:CK) (p:CT kk×CT vk) (e:MapEntry):Prop:=PV w S (packB ka (enc kk p.1)) e.key∧PV w S (packB va (enc vk p.2)) e.val
theorem EntR.mono {w w':World} {S S':Nat→Prop} {ka va:Bool} {kk vk:CK} {p:CT kk×CT vk} {e:MapEntry} (h:EntR w S ka va kk vk p e) (hS:∀B,S B→S' B) (hw:∀B,S B→w'.heap[B]?=w.heap[B]?):EntR w' S' ka va kk vk p e:=⟨h.1.mono hS hw,h.2.mono hS hw⟩
def MapAt (w:World) (S:Nat→Prop) (ka va:Bool) (kk vk:CK) (m:List (CT kk×CT vk)) (B:Nat):Prop:=∃es clock,w.heap[B]?=some (.map es clock)∧bornsOk es clock∧All2 (EntR w S ka va kk vk) m es.toList
theorem MapAt.mono {w w':World} {S S':Nat→Prop} {ka va:Bool} {kk vk:CK} {m:List (CT kk×CT vk)} {B:Nat} (h:MapAt w S ka va kk vk m B) (hS:∀B,S B→S' B) (hw:∀B,S B→w'.heap[B]?=w.heap[B]?) (hB:w'.heap[B]?=w.heap[B]?):MapAt w' S' ka va kk vk m B:=by
 obtain ⟨es,clock,h1,h2,h3⟩:=h
 exact ⟨es,clock,by rw[hB];exact h1,h2,h3.imp fun _ _ h=>h.mono hS hw⟩
def IterAt (w:World) (S:Nat→Prop) (ka va:Bool) (kk vk:CK) (rest cur:List (CT kk×CT vk)) (I:Nat):Prop:=∃B es clock seen,w.heap[I]?=some (.mapIter (some B) clock seen clock)∧S B∧w.heap[B]?=some (.map es clock)∧bornsOk es clock∧
 All2 (EntR w S ka va kk vk) rest (es.toList.filter fun e=> !seen.contains e.born)∧(cur=[]∨∃p e,cur=[p]∧e∈es.toList∧seen.back?=some e.born∧EntR w S ka va kk vk p e)
theorem IterAt.mono {w w':World} {S S':Nat→Prop} {ka va:Bool} {kk vk:CK} {rest cur:List (CT kk×CT vk)} {I:Nat} (h:IterAt w S ka va kk vk rest cur I) (hS:∀B,S B→S' B) (hw:∀B,S B→w'.heap[B]?=w.heap[B]?) (hI:w'.heap[I]?=w.heap[I]?):IterAt w' S' ka va kk vk rest cur I:=by
 obtain ⟨B,es,clock,seen,h1,h2,h3,h4,h5,h6⟩:=h
 refine ⟨B,es,clock,seen,by rw[hI];exact h1,hS _ h2,by rw[hw _ h2];exact h3,h4,h5.imp fun _ _ h=>h.mono hS hw,?_⟩
 rcases h6 with h|⟨p,e,q1,q2,q3,q4⟩
 ·exact .inl h
 ·exact .inr ⟨p,e,q1,q2,q3,q4.mono hS hw⟩
def hsub:Option Pth→Nat→Nat→Option Pth
 |some ((i',j')::p),i,j=>if i=i'∧j=j' then some p else none
 |_,_,_=>none
inductive TabV (w:World) (M S:Nat→Prop) (os:List TypeId):Option Pth→(e:TypeId)→(k:CK)→List (CT k)→Value→Prop
 |out (e:TypeId) (k:CK) (xs:List (CT k)) (v:Value):bare1V v=v→TabV w M S os (some []) e k xs (gone v)
 |nil (h:Option Pth) (e:TypeId) (k:CK) (xs:List (CT k)):h≠some []→xs=[]→TabV w M S os h e k xs (img (.slice none 0 0) 0 0 fun _ _=>undef)
 | row (h:Option Pth) (e:TypeId) (k:CK) (xs:List (CT k)) (n B o cap:Nat) (cur:Array Value) (F:Nat→Nat→Value):h≠some []→xs.length=n→M B→w.heap[B]?=some (.cells cur e (0,0))→n≤cap→cap≤maxLen→cur.size=o+cap*width k→
   (∀i j,i<n→j<width k→ownC os k j=none→PC w S (nth .junk (gt k xs i) j) (cur.getD (o+(i*width k+j)) undef)∧F i j=undef)→
   (∀i j e2 k2,i<n→j<width k→ownC os k j=some (e2,k2)→TabV w M S os (hsub h i j) e2 k2 (asL k2 (nth .junk (gt k xs i) j)) (F i j))→
   (∀i j e2 k2,i<n→j<width k→ownC os k j=some (e2,k2)→(cur.getD (o+(i*width k+j)) undef).oneCell'=true∧(hsub h i j≠some []→cur.getD (o+(i*width k+j)) undef=hd (F i j)))→
   (∀i j i' j' B',i<n→j<width k→i'<n→j'<width k→(i≠i'∨j≠j')→Owns (F i j) B'→¬Owns (F i' j') B')→(∀i j,i<n→j<width k→¬Owns (F i j) B)→
   TabV w M S os h e k xs (img (.slice (some ⟨B,o,none⟩) n cap) n (width k) F)
theorem TabV.imp {w w':World} {M M' S S':Nat→Prop} {os:List TypeId} {h:Option Pth} {e:TypeId} {k:CK} {xs:List (CT k)} {m:Value} (ht:TabV w M S os h e k xs m)
  (hb:∀B,M B→M' B) (hw:∀B,Owns m B→w'.heap[B]?=w.heap[B]?) (hR:∀x y,PC w S x y→PC w' S' x y):TabV w' M' S' os h e k xs m:=by
 induction ht with
 |out e k xs v hv=>exact .out e k xs v hv
 |nil h e k xs h1 h2=>exact .nil h e k xs h1 h2
 |row h e k xs n B o cap cur F a1 a2 a3 a4 a5 a6 a7 a8 a9 a10 a11 a12 ih=>
  refine .row h e k xs n B o cap cur F a1 a2 (hb B a3) (by rw[hw B ((owns_img (by simp)).2 (.inl rfl))];exact a4) a5 a6 a7 (fun i j hi hj ho=>⟨hR _ _ (a8 i j hi hj ho).1,(a8 i j hi hj ho).2⟩) (fun i j e2 k2 hi hj ho=> ?_) a10 a11 a12
  exact ih i j e2 k2 hi hj ho fun B' hB'=>hw B' ((owns_img (by simp)).2 (.inr ⟨i,j,hi,hj,hB'⟩))
theorem TabV.old {w:World} {M S:Nat→Prop} {os:List TypeId} {h:Option Pth} {e:TypeId} {k:CK} {xs:List (CT k)} {m:Value} (ht:TabV w M S os h e k xs m) {B:Nat} (hB:Owns m B):B<w.heap.size∧M B:=by
 induction ht with
 |out e k xs v=>exact absurd hB owns_gone
 |nil h e k xs h1 h2=>
  rcases (owns_img (by simp)).1 hB with h|⟨i,j,hi,_⟩
  ·cases h
  ·omega
 | row h e k xs n B' o cap cur F a1 a2 a3 a4 a5 a6 a7 a8 a9 a10 a11 a12 ih=>
  rcases (owns_img (by simp)).1 hB with h|⟨i,j,hi,hj,hB'⟩
  ·simp only[blkOf,Option.some.injEq] at h
   subst h
   exact ⟨(Array.getElem?_eq_some_iff.1 a4).1,a3⟩
  ·cases ho:ownC os k j with
   |none=>rw[(a8 i j hi hj ho).2] at hB';exact absurd hB' owns_undef
   |some ek=>exact ih i j ek.1 ek.2 hi hj ho hB'
theorem RowV.own {w:World} {M M':Nat→Prop} {R:AV→Value→Prop} {v:Value} {e:TypeId} {k:CK} {xs:List (CT k)} (h:RowV w M R v e k xs) (hM:∀B,blkOf v=some B→M' B):RowV w M' R v e k xs:=by
 rcases h with h|⟨B,o,cap,cur,h0,h1,h2⟩
 ·exact .inl h
 ·exact .inr ⟨B,o,cap,cur,h0,hM B (by rw[h0];rfl),h2⟩
theorem TabV.own {w:World} {M M' S:Nat→Prop} {os:List TypeId} {h:Option Pth} {e:TypeId} {k:CK} {xs:List (CT k)} {m:Value} (ht:TabV w M S os h e k xs m) (hM:∀B,Owns m B→M' B):TabV w M' S os h e k xs m:=by
 induction ht with
 |out e k xs v hv=>exact .out e k xs v hv
 |nil h e k xs h1 h2=>exact .nil h e k xs h1 h2
 |row h e k xs n B o cap cur F a1 a2 a3 a4 a5 a6 a7 a8 a9 a10 a11 a12 ih=>
  exact .row h e k xs n B o cap cur F a1 a2 (hM B ((owns_img (by simp)).2 (.inl rfl))) a4 a5 a6 a7 a8 (fun i j e2 k2 hi hj ho=>ih i j e2 k2 hi hj ho fun B' hB'=>hM B' ((owns_img (by simp)).2 (.inr ⟨i,j,hi,hj,hB'⟩))) a10 a11 a12
theorem RowV.owns {w:World} {M:Nat→Prop} {R:AV→Value→Prop} {v:Value} {e:TypeId} {k:CK} {xs:List (CT k)} (h:RowV w M R v e k xs) {B:Nat} (hB:Owns v B):blkOf v=some B:=by
 rcases h with ⟨rfl,_⟩|⟨B',o,cap,cur,rfl,_⟩
 ·exact hB
 ·exact hB
theorem ownC_ro {os:List TypeId}:∀ {k:CK} {j:Nat} {ek:TypeId×CK} (x:CT k),ownC os k j=some ek→(∃ys,nth .junk (enc k x) j= .ro ek.2 ys)∧j<width k∧os.contains ek.1=true
 | .bool,j,_,_,h=>by cases h
 | .int _,j,_,_,h=>by cases h
 | .str,j,_,_,h=>by cases h
 | .map _ _ _ _,j,_,_,h=>by cases h
 | .other,j,_,_,h=>by cases h
 | .slice e k,0,ek,x,h=>by
  simp only[ownC] at h
  cases hc:os.contains e<;>rw[hc] at h
  ·cases h
  ·simp only[cond_true,Option.some.injEq] at h
   subst h
   exact ⟨⟨x,rfl⟩,Nat.one_pos,hc⟩
 | .slice e k,j+1,ek,x,h=>by cases h
 | .pair a b,j,ek,x,h=>by
  simp only[ownC] at h
  simp only[enc,width]
  rw[nth_append,enc_length]
  cases hb:Nat.blt j (width a)<;>rw[hb] at h
  ·have hge:¬j<width a:=by rw[←Nat.blt_eq,hb];simp
   rw[if_neg hge]
   obtain ⟨h1,h2,h3⟩:=ownC_ro (k:=b) x.2 h
   exact ⟨h1,by omega,h3⟩
  ·have hlt:j<width a:=by rw[←Nat.blt_eq];exact hb
   rw[if_pos hlt]
   obtain ⟨h1,h2,h3⟩:=ownC_ro (k:=a) x.1 h
   exact ⟨h1,by omega,h3⟩
theorem ownC_none {os:List TypeId}:∀ {k:CK} (j:Nat),anyOwn os k=false→ownC os k j=none
 | .bool,j,_=>rfl
 | .int _,j,_=>rfl
 | .str,j,_=>rfl
 | .map _ _ _ _,j,_=>rfl
 | .other,j,_=>rfl
 | .slice e k,0,h=>by simp only[anyOwn] at h;simp only[ownC,h];rfl
 | .slice e k,j+1,h=>rfl
 | .pair a b,j,h=>by
  simp only[anyOwn,Bool.or_eq_false_iff] at h
  simp only[ownC]
  cases Nat.blt j (width a)
  ·exact ownC_none _ h.2
  ·exact ownC_none _ h.1
structure RowT (w:World) (M S:Nat→Prop) (os:List TypeId) (h:Option Pth) (e:TypeId) (k:CK) (xs:List (CT k)) (B o cap:Nat) (cur:Array Value) (F:Nat→Nat→Value):Prop where
 own:M B
 at':w.heap[B]?=some (.cells cur e (0,0))
 le:xs.length≤cap
 max:cap≤maxLen
 sz:cur.size=o+cap*width k
 pure:∀i j,i<xs.length→j<width k→ownC os k j=none→PC w S (nth .junk (gt k xs i) j) (cur.getD (o+(i*width k+j)) undef)∧F i j=undef
 tab:∀i j e2 k2,i<xs.length→j<width k→ownC os k j=some (e2,k2)→TabV w M S os (hsub h i j) e2 k2 (asL k2 (nth .junk (gt k xs i) j)) (F i j)
 hdr:∀i j e2 k2,i<xs.length→j<width k→ownC os k j=some (e2,k2)→(cur.getD (o+(i*width k+j)) undef).oneCell'=true∧(hsub h i j≠some []→cur.getD (o+(i*width k+j)) undef=hd (F i j))
 apart:∀i j i' j' B',i<xs.length→j<width k→i'<xs.length→j'<width k→(i≠i'∨j≠j')→Owns (F i j) B'→¬Owns (F i' j') B'
 apart0:∀i j,i<xs.length→j<width k→¬Owns (F i j) B
theorem TabV.inv {w:World} {M S:Nat→Prop} {os:List TypeId} {h:Option Pth} {e:TypeId} {k:CK} {xs:List (CT k)} {m:Value} (ht:TabV w M S os h e k xs m) (hh:h≠some []):
  (xs=[]∧m=img (.slice none 0 0) 0 0 fun _ _=>undef)∨∃B o cap cur F,m=img (.slice (some ⟨B,o,none⟩) xs.length cap) xs.length (width k) F∧RowT w M S os h e k xs B o cap cur F:=by
 cases ht with
 |out=>exact absurd rfl hh
 |nil _ _ _ _ _ h2=>exact .inl ⟨h2,rfl⟩
 |row _ _ _ _ n B o cap cur F a1 a2 a3 a4 a5 a6 a7 a8 a9 a10 a11 a12=>
  subst a2
  exact .inr ⟨B,o,cap,cur,F,rfl,a3,a4,a5,a6,a7,a8,a9,a10,a11,a12⟩
theorem RowT.mk' {w:World} {M S:Nat→Prop} {os:List TypeId} {h:Option Pth} {e:TypeId} {k:CK} {xs:List (CT k)} {B o cap:Nat} {cur:Array Value} {F:Nat→Nat→Value} (hh:h≠some []) (r:RowT w M S os h e k xs B o cap cur F):
  TabV w M S os h e k xs (img (.slice (some ⟨B,o,none⟩) xs.length cap) xs.length (width k) F):=
 .row h e k xs xs.length B o cap cur F hh rfl r.own r.at' r.le r.max r.sz r.pure r.tab r.hdr r.apart r.apart0
theorem hsub_none {i j:Nat}:hsub none i j=none:=rfl
theorem nodeAt_cons {os:List TypeId} {d:Nd} {i j:Nat} {p:Pth} {ek:TypeId×CK} (ho:ownC os d.k j=some ek):nodeAt os d ((i,j)::p)=nodeAt os ⟨ek.1,ek.2,asL ek.2 (nth .junk (gt d.k d.xs i) j)⟩ p:=by
 simp only[nodeAt,ho]
theorem TabV.node {w:World} {M S:Nat→Prop} {os:List TypeId}:∀(p:Pth) (d:Nd) {m:Value},TabV w M S os none d.e d.k d.xs m→pathOk os d p→TabV w M S os none (nodeAt os d p).e (nodeAt os d p).k (nodeAt os d p).xs (imgAt m p)∧∀B,Owns (imgAt m p) B→Owns m B
 |[],d,m,ht,_=>⟨ht,fun _ h=>h⟩
 | (i,j)::p,d,m,ht,hp=>by
  obtain ⟨hi,hj,ek,ho,hp⟩:=hp
  rcases ht.inv (by simp) with ⟨hx,_⟩|⟨B,o,cap,cur,F,rfl,r⟩
  ·rw[hx] at hi;simp at hi
  ·have hs:=r.tab i j ek.1 ek.2 hi hj ho
   rw[hsub_none] at hs
   obtain ⟨q1,q2⟩:=TabV.node p ⟨ek.1,ek.2,asL ek.2 (nth .junk (gt d.k d.xs i) j)⟩ hs hp
   rw[nodeAt_cons ho]
   simp only[imgAt,subI_img hi hj]
   exact ⟨q1,fun B' hB'=>(owns_img (by simp)).2 (.inr ⟨i,j,hi,hj,q2 B' hB'⟩)⟩
theorem TabV.hd_slice {w:World} {M S:Nat→Prop} {os:List TypeId} {e:TypeId} {k:CK} {xs:List (CT k)} {m:Value} (ht:TabV w M S os none e k xs m):∃A n c,hd m= .slice A n c∧n=xs.length∧(0<n→∃B o,A=some ⟨B,o,none⟩)∧bare1V m=m:=by
 rcases ht.inv (by simp) with ⟨hx,rfl⟩|⟨B,o,cap,cur,F,rfl,r⟩
 ·exact ⟨none,0,0,hd_img,by rw[hx];rfl,fun h=>absurd h (by omega),rfl⟩
 ·exact ⟨_,_,_,hd_img,rfl,fun _=>⟨B,o,rfl⟩,rfl⟩
theorem nodeAt_snoc {os:List TypeId} {i j:Nat} {ek:TypeId×CK}:∀(p:Pth) (d:Nd),pathOk os d p→ownC os (nodeAt os d p).k j=some ek→
  nodeAt os d (p++[(i,j)])=⟨ek.1,ek.2,asL ek.2 (nth .junk (gt (nodeAt os d p).k (nodeAt os d p).xs i) j)⟩
 |[],d,_,h=>by rw[List.nil_append];exact nodeAt_cons h
 |(i',j')::p,d,hp,h=>by
  obtain ⟨_,_,ek',ho,hp⟩:=hp
  rw[List.cons_append,nodeAt_cons ho]
  rw[nodeAt_cons ho] at h⊢
  exact nodeAt_snoc p _ hp h
theorem pathOk_snoc {os:List TypeId} {i j:Nat} {ek:TypeId×CK}:∀(p:Pth) (d:Nd),pathOk os d p→ownC os (nodeAt os d p).k j=some ek→i<(nodeAt os d p).xs.length→j<width (nodeAt os d p).k→pathOk os d (p++[(i,j)])
 |[],d,_,h,hi,hj=>⟨hi,hj,ek,h,trivial⟩
 |(i',j')::p,d,hp,h,hi,hj=>by
  obtain ⟨a1,a2,ek',ho,hp⟩:=hp
  rw[nodeAt_cons ho] at h hi hj
  exact ⟨a1,a2,ek',ho,pathOk_snoc p _ hp h hi hj⟩
theorem imgAt_snoc {i j:Nat}:∀(p:Pth) (m:Value),imgAt m (p++[(i,j)])=subI (imgAt m p) i j
 |[],m=>rfl
 |(i',j')::p,m=>imgAt_snoc p (subI m i' j')
theorem vp_snoc {d:TD} {p:Pth} {x:Nat×Nat}:d.vp (p++[x])=d.iv:=by cases p<;>rfl
theorem ownCells_length {os:List TypeId} {k:CK} {b v:Nat} {p:Pth} {i:Nat}:∀(cs:List AV) (j:Nat),(ownCells os k b v p i cs j).length=cs.length
 |[],_=>rfl
 |_::cs,j=>by simp[ownCells,ownCells_length cs]
theorem ownCells_nth {os:List TypeId} {k:CK} {b v:Nat} {p:Pth} {i:Nat}:∀(cs:List AV) (j q:Nat),q<cs.length→nth .junk (ownCells os k b v p i cs j) q=match ownC os k (j+q) with|some _=> .tsl b v (p++[(i,j+q)])|none=>nth .junk cs q
 |[],_,_,h=>by simp at h
 |c::cs,j,0,_=>rfl
 |c::cs,j,q+1,h=>by
  have:=ownCells_nth (os:=os) (k:=k) (b:=b) (v:=v) (p:=p) (i:=i) cs (j+1) q (by simpa using h)
  rw[show j+1+q=j+(q+1) by omega] at this
  exact this
def BlkR (H:List Blk) (μ:Nat→Value) (w:World) (S M:Nat→Prop) (b:Nat):Blk→Prop
 | .free=>True
 | .cells cs=>∃B arr t,μ b= .pointer (some ⟨B,0,none⟩)∧w.heap[B]?=some (.cells arr t (0,0))∧M B∧¬S B∧arr.size=cs.length∧∀i,i<cs.length→VR H μ w S (nth .junk cs i) (arr.getD i undef)
 | .map ka va kk vk m=>∃B,μ b= .map (some B)∧M B∧¬S B∧MapAt w S ka va kk vk m B
 | .fmap ka va kk vk m=>∃B,μ b= .map (some B)∧S B∧MapAt w S ka va kk vk m B
 | .iter ka va kk vk rest cur=>∃I,μ b= .pointer (some ⟨I,0,none⟩)∧M I∧¬S I∧IterAt w S ka va kk vk rest cur I
 | .row _ e k xs=>(∀B,Owns (μ b) B→¬S B)∧RowV w M (PC w S) (μ b) e k xs
 | .fro _ e k xs=>(∀B,Owns (μ b) B→S B)∧RowV w (fun _=>True) (PC w S) (μ b) e k xs
 | .tab false _ _ e k os xs hole=>(∀B,Owns (μ b) B→¬S B)∧TabV w M S os hole e k xs (μ b)
 | .tab true _ _ e k os xs hole=>(∀B,Owns (μ b) B→S B)∧TabV w (fun _=>True) S os hole e k xs (μ b)
variable [Globs]
def GlobOk (w:World) (S:Nat→Prop):Prop:=∀p,p∈Globs.gl→PV w S (.rptr p.2 0) (.pointer (some ⟨p.1,0,none⟩))
structure HR (H:List Blk) (μ:Nat→Value) (w:World) (S M:Nat→Prop):Prop where
 blk:∀b,BlkR H μ w S M b (nth .free H b)
 inj:∀b b' B,(nth .free H b).live→(nth .free H b').live→b≠b'→Owns (μ b) B→¬Owns (μ b') B
 stab:∀B,S B→B<w.heap.size
 glob:GlobOk w S
def TR (H:List Blk) (μ:Nat→Value) (w:World) (S:Nat→Prop) (T:List AV) (vs:Array Value):Prop:=
 T.length=vs.size∧∀i,i<T.length→VR H μ w S (nth .junk T i) (vs.getD i undef)
structure Sc where
 rd:Nat→Prop
 own:Nat→Prop
 pin:Nat
 H0:List Blk
 μ0:Nat→Value
def Pinned (S0:Sc) (H:List Blk) (μ:Nat→Value):Prop:=
 ∀b,b<S0.pin→(∀cs,nth .free S0.H0 b= .cells cs→(∃cs',nth .free H b= .cells cs')∧μ b=S0.μ0 b)∧(∀r,rdOf (nth .free S0.H0 b)=some r→∃r',rdOf (nth .free H b)=some r'∧r'.sz=r.sz∧(r.ver=0→r'.ver=0→r'.n=r.n∧μ b=S0.μ0 b))∧
  (isMapB (nth .free S0.H0 b)=true→isMapB (nth .free H b)=true∧μ b=S0.μ0 b)∧(isIterB (nth .free S0.H0 b)=true→isIterB (nth .free H b)=true∧μ b=S0.μ0 b)∧
  ∀d,tabD (nth .free S0.H0 b)=some d→∃d',tabD (nth .free H b)=some d'∧∀p,d.vp p=0→d'.vp p=0→SameP d d' (S0.μ0 b) (μ b) p
theorem Pinned.ext {S0:Sc} {H H':List Blk} {μ μ':Nat→Value} (h:Pinned S0 H μ) (he:Ext H μ H' μ'):Pinned S0 H' μ':=fun b hb=>by
 obtain ⟨h1,h2,h3,h4,h5⟩:=h b hb
 refine ⟨fun cs hc=> ?_,fun r hr=> ?_,fun hm=>⟨((he b).2.2.1 (h3 hm).1).1,((he b).2.2.1 (h3 hm).1).2.trans (h3 hm).2⟩,fun hm=>⟨((he b).2.2.2.1 (h4 hm).1).1,((he b).2.2.2.1 (h4 hm).1).2.trans (h4 hm).2⟩,fun r hr=> ?_⟩
 ·obtain ⟨⟨cs',hc'⟩,hm⟩:=h1 cs hc
  obtain ⟨cs'',e1,e2⟩:=(he b).1 cs' hc'
  exact ⟨⟨cs'',e1⟩,e2.trans hm⟩
 ·obtain ⟨r',hr',hs,hz⟩:=h2 r hr
  obtain ⟨r'',e1,e2,e3,e4⟩:=(he b).2.1 r' hr'
  refine ⟨r'',e1,e2.trans hs,fun h0 h1=> ?_⟩
  have h2:r'.ver=0:=by omega
  obtain ⟨q1,q2⟩:=e4 (by omega)
  obtain ⟨q3,q4⟩:=hz h0 h2
  exact ⟨q1.trans q3,q2.trans q4⟩
 ·obtain ⟨r',hr',hz⟩:=h5 r hr
  obtain ⟨r'',e1,e2,e3,e4⟩:=(he b).2.2.2.2 r' hr'
  refine ⟨r'',e1,fun p h0 h1=> ?_⟩
  have hle:=TD.vp_le e2 e3 p
  exact (hz p h0 (by omega)).trans (e4 p (by omega))
structure Kept (M:Nat→Prop) (w w':World):Prop where
 os:w'.os=w.os
 tape:w'.tape=w.tape
 output:w'.output=w.output
 size:w.heap.size≤w'.heap.size
 block:∀k,k<w.heap.size→¬M k→w'.heap[k]?=w.heap[k]?
theorem Kept.refl (M:Nat→Prop) (w:World):Kept M w w:=⟨rfl,rfl,rfl,Nat.le_refl _,fun _ _ _=>rfl⟩
theorem Kept.trans {M:Nat→Prop} {a b c:World} (h:Kept M a b) (k:Kept M b c):Kept M a c:=
 ⟨k.os.trans h.os,k.tape.trans h.tape,k.output.trans h.output,Nat.le_trans h.size k.size,fun i hi hm=>(k.block i (Nat.lt_of_lt_of_le hi h.size) hm).trans (h.block i hi hm)⟩
structure RepAt (w0:World) (S0:Sc) (H:List Blk) (μ:Nat→Value) (S:Nat→Prop) (w:World):Prop where
 hr:HR H μ w S S0.own
 below:Kept S0.own w0 w
 sub:∀B,S0.rd B→S B
 sup:∀B,S B→S0.rd B∨S0.own B
 fresh:∀B,w0.heap.size≤B→S0.own B
 pins:Pinned S0 H μ
end Go.Abs
