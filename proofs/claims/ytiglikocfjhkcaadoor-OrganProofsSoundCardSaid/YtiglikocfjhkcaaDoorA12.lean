/- Regions: one order, any order. -/
import Derived.Test.YtiglikocfjhkcaaDoorA11
set_option linter.all false
set_option linter.unusedVariables false
set_option linter.unusedSimpArgs false
namespace Go.Abs
variable [Globs]
open Go.RowKit (Below)
section
variable {H:List Blk} {μ:Nat→Value} {w:World} {S:Nat→Prop} {w0:World} {S0:Sc} {cx:Cx}
theorem promo_wr {os:List TypeId}:∀(ks:List CK) (cs:List AV) (b:Nat),∀p∈(promo os ks cs b).2,b≤p.1∧p.1<b+(promo os ks cs b).2.length
 |[],cs,b,p,h=>by simp[promo] at h
 |k::ks,[],b,p,h=>by simp[promo] at h
 | k::ks,c::cs,b,p,h=>by
  by_cases hp:∃e sz,k= .slice e sz∧c= .nils
  ·obtain ⟨e,sz,rfl,rfl⟩:=hp
   simp only[promo,List.mem_cons,List.length_cons] at h⊢
   rcases h with rfl|h
   ·simp only;omega
   ·have:=promo_wr (os:=os) ks cs (b+1) p h;omega
  ·have e1:promo os (k::ks) (c::cs) b=(c::(promo os ks cs b).1,(promo os ks cs b).2):=by
    cases k<;>cases c<;>first|rfl|exact absurd ⟨_,_,rfl,rfl⟩ hp
   rw[e1] at h⊢
   exact promo_wr (os:=os) ks cs b p h
theorem rowV_nf {os:List TypeId} {ek:TypeId×CK} {x:AV} (h:isRo ek.2 (rowV H os ek x)=true):∀c∈refs1 x,nth .free H c≠ .free:=by
 intro c hc e
 cases x<;>simp[refs1] at hc<;>subst hc<;>simp[rowV,e,isRo] at h
theorem deads_wr {l:List Nat} (hl:∀c∈l,nth .free H c≠ .free):∀p∈l.map (deadB H),nth .free H p.1≠ .free:=fun p hp=>by
 obtain ⟨c,hc,rfl⟩:=List.mem_map.1 hp
 rw[deadB_fst]
 exact hl c hc
theorem frozenB_wr:∀(l:List Nat),∀p∈frozenB H l,nth .free H p.1≠ .free
 |[],p,h=>by simp[frozenB] at h
 | b::l,p,h=>by
  simp only[frozenB] at h
  split at h
  ·rename_i ver e k xs hb
   rcases List.mem_cons.1 h with rfl|h
   ·simp only;rw[hb];simp
   ·exact frozenB_wr l p h
  ·rename_i ka va kk vk m hb
   rcases List.mem_cons.1 h with rfl|h
   ·simp only;rw[hb];simp
   ·exact frozenB_wr l p h
  ·rename_i hb
   rcases List.mem_cons.1 h with rfl|h
   ·simp only;rw[hb];simp
   ·exact frozenB_wr l p h
  ·exact frozenB_wr l p h
theorem backs_wr {ρ:Nat→Nat} {τ:Nat→Nat×Nat}:∀(l:List Blk) (k:Nat),∀p∈backs ρ τ l k,∃c,k≤c∧c<k+l.length∧p.1=ρ c
 |[],k,p,h=>by simp[backs] at h
 | x::l,k,p,h=>by
  simp only[backs,List.mem_cons] at h
  rcases h with rfl|h
  ·exact ⟨k,Nat.le_refl _,by simp,rfl⟩
  ·obtain ⟨c,h1,h2,h3⟩:=backs_wr l (k+1) p h
   exact ⟨c,by omega,by simp;omega,h3⟩
theorem callAt_wr {frz:List (Nat×Blk)} {base:Nat} {f:FuncId} {vs:List AV} (hc:(callAt cx H frz base f vs).chk=true):∀p∈(callAt cx H frz base f vs).wr,p∈frz∨nth .free H p.1≠ .free∨(base≤p.1∧p.1<base+8):=by
 intro p hp
 simp only[callAt,Bool.and_eq_true,Nat.ble_eq] at hc hp
 obtain ⟨_,c2,c3,c4,_⟩:=hc
 rcases List.mem_append.1 hp with h|h
 ·exact .inl h
 ·obtain ⟨c,_,h2,h3⟩:=backs_wr _ _ p h
  rw[h3]
  unfold rho
  cases hl:Nat.blt c (ordA H (cx.mode f) vs).length with
  |true=>
   have hlt:c<(ordA H (cx.mode f) vs).length:=by simpa [Nat.blt_eq] using hl
   refine .inr (.inl fun e=> ?_)
   have:=List.all_eq_true.1 c2 (nth 0 (ordA H (cx.mode f) vs) c) (by rw[nth_lt _ _ _ hlt];exact List.getElem_mem hlt)
   simp only[cond_true] at e
   rw[e] at this;simp[isFree] at this
  |false=>
   have hlt:(ordA H (cx.mode f) vs).length≤c:=Nat.le_of_not_lt fun h=>by rw[Bool.eq_false_iff] at hl;exact hl (by simpa [Nat.blt_eq] using h)
   refine .inr (.inr ?_)
   simp only[cond_false]
   omega
theorem callE_wr {base:Nat} {f:FuncId} {vs:List AV} (hc:(callE cx H base f vs).chk=true):∀p∈(callE cx H base f vs).wr,nth .free H p.1≠ .free∨(base≤p.1∧p.1<base+8):=by
 intro p hp
 unfold callE at hc hp
 cases hcond:(!(anyRef (cx.mode f))&&bareR (callR cx H f vs)) with
 |true=>
  rw[hcond] at hc hp
  rcases callAt_wr hc p hp with h|h
  ·simp at h
  ·exact h
 | false=>
  rw[hcond] at hc hp
  simp only[cond_false,Bool.and_eq_true] at hc hp
  rcases callAt_wr hc.2 p hp with h|h|h
  ·exact .inl (frozenB_wr _ p h)
  ·refine .inl fun e=>h ?_
   show nth .free (sets H (frozenB H _)) _=_
   rw[frozenB_nth H _ H (fun _=> .inl rfl) rfl,e]
   cases ((byView (cx.mode f) vs).flatMap refs).contains p.1<;>rfl
  ·exact .inr h
theorem appendS_wr {P:Program} {e:TypeId} {blk:Blk} {xv:AV} {b ver off:Nat} {len:Option Nat}:∀p∈(appendS P e blk xv b ver off len).wr,p.1=b∧blk≠ .free:=by
 intro p hp
 unfold appendS at hp
 split at hp
 ·simp at hp;subst hp;simp
 ·simp[Eff.bad] at hp
theorem appendTTb_wr {P:Program} {t:TypeId} {rb rc:Blk} {b ver:Nat} {x:AV}:∀p∈(appendTTb P t rb rc b ver x).wr,(p.1=b∧rb≠ .free)∨(p.1∈refs1 x∧rc≠ .free):=by
 intro p hp
 unfold appendTTb at hp
 split at hp
 ·split at hp
  ·simp only[List.mem_cons,List.not_mem_nil,or_false] at hp
   rcases hp with rfl|rfl
   ·exact .inr ⟨by simp[refs1],by simp⟩
   ·exact .inl ⟨rfl,by simp⟩
  ·simp[Eff.bad] at hp
 ·simp[Eff.bad] at hp
theorem refBlk_nf {x:AV} (h:refBlk H x≠ .free):∀c∈refs1 x,nth .free H c≠ .free:=fun c hc=>by
 cases x<;>simp[refs1] at hc<;>(try (simp[refBlk] at h;done))<;>(subst hc;exact h)
theorem appendE0_wr {P:Program} {t:TypeId} {base:Nat} {s x:AV}:∀p∈(appendE0 P t H base s x).wr,nth .free H p.1≠ .free∨base≤p.1∧p.1<base+1:=by
 intro p hp
 unfold appendE0 at hp
 split at hp
 ·simp[Eff.bad] at hp
 ·split at hp
  ·simp at hp;subst hp;right;simp only;omega
  ·simp[Eff.v] at hp
  ·obtain ⟨h1,h2⟩:=appendS_wr p hp
   exact .inl (by rw[h1];exact h2)
  ·simp[Eff.bad] at hp
theorem copyE_wr {P:Program} {t t':TypeId} {s x:AV}:∀p∈(copyE P t t' H s x).wr,nth .free H p.1≠ .free:=by
 intro p hp
 unfold copyE at hp
 split at hp
 ·split at hp
  ·rename_i h
   simp only[List.mem_singleton] at hp
   subst hp
   show nth .free H _≠_
   rw[h];simp
  ·simp[Eff.bad] at hp
 ·simp[Eff.bad] at hp
theorem appendE_wr {P:Program} {t:TypeId} {base:Nat} {s x:AV} (hc:(appendE P t H base s x).chk=true):∀p∈(appendE P t H base s x).wr,nth .free H p.1≠ .free∨base≤p.1∧p.1<base+1:=by
 intro p hp
 have gen:∀ {f:Eff},f=(bif isNilsA s&&isTab0 H x then appendNT P t H base x else {appendE0 P t H base s x with chk:=srcOk H x&&(appendE0 P t H base s x).chk})→p∈f.wr→nth .free H p.1≠ .free∨base≤p.1∧p.1<base+1:=fun {f} hf hp=>by
  subst hf
  cases hcond:isNilsA s&&isTab0 H x<;>rw[hcond] at hp
  ·exact appendE0_wr p hp
  ·simp only[cond_true] at hp
   unfold appendNT at hp
   split at hp
   ·split at hp
    ·rename_i hcb
     simp only[List.mem_cons,List.not_mem_nil,or_false] at hp
     rcases hp with rfl|rfl
     ·left;simp only;rw[hcb];simp
     ·right;simp only;omega
    ·simp[Eff.bad] at hp
   ·simp[Eff.bad] at hp
 cases s with
 | tsl b ver q=>
  cases q with
  |nil=>
   simp only[appendE,appendTT] at hp
   rcases appendTTb_wr p hp with ⟨h1,h2⟩|⟨h1,h2⟩
   ·exact .inl (by rw[h1];exact h2)
   ·exact .inl (refBlk_nf h2 _ h1)
  | cons q0 q=>
   simp only[appendE] at hp
   unfold appendIn at hp
   split at hp
   ·rename_i hbk
    cases hcd:(ver==_&&Option.isNone _)&&(!(refs1 x).contains b&& !(refs1 x).contains base)<;>rw[hcd] at hp
    ·simp[Eff.bad] at hp
    ·simp only[cond_true] at hp
     have hop:∀(d:TD) (p:Nat×Blk),p∈openW b base (q0::q) d→nth .free H p.1≠ .free∨base≤p.1∧p.1<base+1:=fun d p hp=>by
      simp only[openW,List.mem_cons,List.not_mem_nil,or_false] at hp
      rcases hp with rfl|rfl
      ·left;simp only;rw[hbk];simp
      ·right;simp only;omega
     cases han:anyOwn _ (TD.nd _ (q0::q)).k<;>rw[han] at hp
     ·simp only[cond_false] at hp
      split at hp
      ·simp[Eff.bad] at hp
      ·rcases List.mem_append.1 hp with h|h
       ·exact hop _ p h
       ·obtain ⟨h1,_⟩:=appendS_wr p h
        exact .inr (by omega)
     ·simp only[cond_true] at hp
      rcases List.mem_append.1 hp with h|h
      ·exact hop _ p h
      ·rcases appendTTb_wr p h with ⟨h1,h2⟩|⟨h1,h2⟩
       ·exact .inr (by omega)
       ·exact .inl (refBlk_nf h2 _ h1)
   ·simp[Eff.bad] at hp
 |_=>exact gen rfl hp
theorem wr_spec0 {base:Nat} {T:List AV} {o:Oper} (hc:(opE0 cx T H base o).chk=true):∀p∈(opE0 cx T H base o).wr,nth .free H p.1≠ .free∨(base≤p.1∧p.1<base+slots o):=by
 intro p hp
 obtain ⟨dst,op,ty,pos,after_,guard⟩:=o
 have upd:∀ {t:TypeId} {x y z:AV},p∈(updateE cx.P t H x y z).wr→nth .free H p.1≠ .free:=fun {t x y z} hp=>by
  unfold updateE at hp
  cases hm:mapT cx.P t with
  |none=>simp[hm,Eff.bad] at hp
  |some ke=>
   simp only[hm] at hp
   cases x<;>simp only[Eff.bad] at hp<;>try (simp at hp;done)
   rename_i b
   cases hbk:nth .free H b<;>simp only[hbk] at hp<;>try (simp at hp;done)
   rcases List.mem_append.1 hp with h|h
   ·exact frozenB_wr _ p h
   ·simp at h;subst h;simp only;rw[hbk];simp
 by_cases hmk:∃t n,op= .makeMap t n
 ·obtain ⟨t,n,rfl⟩:=hmk
  cases n with
  |some y=>simp[opE0,Eff.bad] at hp
  |none=>
   simp only[opE0,makeMapE] at hp
   cases hm:mapT cx.P t with
   |none=>simp[hm,Eff.bad] at hp
   |some ke=>simp[hm] at hp;subst hp;right;simp only[slots];omega
 cases op<;>simp only[opE0,slots,Eff.v,Eff.bad] at hc hp⊢ <;>try (simp at hp;done)
 case makeMap t n=>exact absurd ⟨_,_,rfl⟩ hmk
 case lookup t x ix ok=>
  simp only[lookupE,Eff.bad] at hp
  repeat' (split at hp)
  all_goals simp[lookV] at hp
 case range t x=>
  unfold rangeE at hp
  cases hm:mapT cx.P t with
  |none=>simp[hm,Eff.bad] at hp
  | some ke=>
   simp only[hm] at hp
   cases hd:mapV H (unw (ev T x)) with
   |none=>simp[hd,Eff.bad] at hp
   |some d=>
    simp only[hd] at hp
    rcases List.mem_append.1 hp with h|h
    ·exact .inl (frozenB_wr _ p h)
    ·simp at h;subst h;right;simp only;omega
 case next x s=>
  unfold nextE at hp
  split at hp
  ·split at hp
   ·rename_i hbk
    split at hp
    ·simp at hp
    ·simp at hp;subst hp;left;simp only;rw[hbk];simp
    ·simp[Eff.bad] at hp
   ·simp[Eff.bad] at hp
  ·simp[Eff.bad] at hp
 case entry x=>
  unfold entryE at hp
  repeat' (split at hp)
  all_goals simp[Eff.bad,Eff.v] at hp
 case mapUpdate t m k x=>exact .inl (upd hp)
 case insert t m k x=>exact .inl (upd hp)
 ·rename_i x
  split at hp
  ·simp at hp;subst hp;right;simp only;omega
  ·simp at hp
 ·simp only[Bool.and_eq_true,Nat.ble_eq] at hc
  rcases List.mem_append.1 hp with h|h
  ·have:=promo_wr _ _ _ p h;right;omega
  ·simp at h;subst h;right;simp only;omega
 ·simp at hp;subst hp;right;simp only;omega
 ·simp only[buildE,Eff.bad,Eff.v] at hp;split at hp<;>simp at hp
 ·simp only[buildSliceE,Eff.bad] at hp
  split at hp
  ·simp at hp
  ·rename_i e _
   cases han:anyOwn cx.os (kE cx.P e) with
   | true=>
    rename_i hel
    rw[han] at hp
    simp only[buildSliceE,hel,han] at hc
    simp only[cond_true] at hp hc
    split at hp
    ·rename_i x hq
     rw[hq] at hc
     simp only[buildT,Bool.and_eq_true] at hc hp
     obtain ⟨_,_,_,_,c4,_,c6,_,_⟩:=hc
     rcases List.mem_append.1 hp with h|h
     ·exact .inl (frozenB_wr _ p h)
     ·rcases List.mem_append.1 h with h|h
      ·refine .inl (deads_wr (fun c hc=> ?_) p h)
       obtain ⟨q,q1,q2,q3⟩:=takenB_of _ 0 c hc
       rw[Nat.zero_add] at q2
       cases ho:ownC cx.os (kE cx.P e) q with
       |none=>rw[ho] at q2;cases q2
       |some ek=>
        have h1:=own_decOk (os:=cx.os) (e2:=ek.1) (k2:=ek.2) _ q _ c6 ho
        rw[takeCells_nth _ 0 q q1,Nat.zero_add,ho] at h1
        exact rowV_nf h1 c q3
      ·simp at h;subst h;right;simp only;omega
    ·simp[Eff.bad] at hp
   |false=>
   rw[han] at hp
   simp only[cond_false] at hp
   cases hbr:bears H _ with
   |true=>
    rw[hbr] at hp
    simp only[cond_true,buildCslE,Eff.bad] at hp
    split at hp
    ·simp at hp;subst hp;right;simp only;omega
    ·simp at hp
   |false=>
   rw[hbr] at hp
   simp only[cond_false] at hp
   split at hp
   ·rcases List.mem_append.1 hp with h|h
    ·exact .inl (frozenB_wr _ p h)
    ·simp at h;subst h;right;simp only;omega
   ·simp at hp
 ·simp only[loadE,Eff.bad,Eff.v] at hp
  repeat' (split at hp)
  all_goals simp at hp
 ·simp only[storeE,Eff.bad] at hp hc
  split at hp
  ·rename_i b off hb
   simp only[hb] at hc
   split at hp
   ·rename_i cs hbk
    simp only[hbk,Bool.and_eq_true,Nat.ble_eq] at hc
    rcases List.mem_append.1 hp with h|h
    ·have:=promo_wr _ _ _ p h;right;omega
    ·simp at h;subst h;left;simp only;rw[hbk];simp
   ·simp at hp
  ·rename_i b ver i j hb
   split at hp
   ·rename_i v1 e sz n g hbk
    rcases List.mem_append.1 hp with h|h
    ·exact .inl (frozenB_wr _ p h)
    ·simp at h;subst h;left;simp only;rw[hbk];simp
   ·simp at hp
  ·rename_i b ver pp i j hb
   simp only[hb] at hc
   split at hp
   ·rename_i hbk
    simp only[hbk] at hc
    unfold storeT at hp hc
    cases hon:ownRange _ _ j _<;>rw[hon] at hp hc
    ·simp only[cond_false] at hp
     rcases List.mem_append.1 hp with h|h
     ·exact .inl (frozenB_wr _ p h)
     ·simp at h;subst h;left;simp only;rw[hbk];simp
    ·simp only[cond_true] at hp hc
     split at hp
     ·rename_i ek hoc
      rw[hoc] at hc
      simp only[Bool.and_eq_true] at hc
      rcases List.mem_append.1 hp with h|h
      ·exact .inl (deads_wr (rowV_nf hc.2.2.2.2.2) p h)
      ·simp at h;subst h;left;simp only;rw[hbk];simp
     ·simp[Eff.bad] at hp
   ·simp at hp
  ·simp at hp
 ·repeat' (split at hp)
  all_goals simp at hp
 ·simp only[binE,Eff.bad,Eff.v,intOp] at hp
  repeat' (split at hp)
  all_goals simp at hp
 ·simp only[unE,Eff.bad,Eff.v] at hp
  repeat' (split at hp)
  all_goals simp at hp
 ·simp only[convHE,bytesE,convE,Eff.bad,Eff.v] at hp
  rename_i s d x
  cases hsl:isSlT cx.P s<;>simp only[hsl,cond_true,cond_false] at hp
  ·repeat' (split at hp)
   all_goals simp at hp
  ·simp at hp
 ·simp only[arrayAtE,Eff.bad,Eff.v] at hp
  repeat' (split at hp)
  all_goals simp at hp
 ·rename_i fn first caps
  cases fn<;>simp only at hp<;>first|(cases hfe:first.isEmpty<;>rw[hfe] at hp<;>simp at hp)|simp at hp
 ·simp only[makeSliceE,Eff.bad] at hp
  split at hp
  ·simp at hp;subst hp;right;simp only;omega
  ·simp at hp
 ·simp only[sliceE,Eff.bad,Eff.v] at hp
  repeat' (split at hp)
  all_goals simp at hp
 ·simp only[fieldAddrE,Eff.bad,Eff.v] at hp
  repeat' (split at hp)
  all_goals simp at hp
 ·simp only[fieldE,Eff.bad,Eff.v] at hp
  repeat' (split at hp)
  all_goals simp at hp
 ·simp only[indexAddrE,Eff.bad,Eff.v] at hp
  repeat' (split at hp)
  all_goals simp at hp
 ·simp only[indexE,Eff.bad,Eff.v] at hp
  repeat' (split at hp)
  all_goals simp at hp
 ·split at hp<;>simp at hp
 ·rename_i c
  simp only[callOpE] at hp hc
  cases hcal:c.callee with
  | builtin b=>
   simp only[hcal] at hp hc⊢
   cases b<;>simp only[Eff.bad,Eff.v] at hp hc⊢ <;>try (simp at hp;done)
   ·split at hp
    ·rename_i s x t t' h1 h2
     simp only[h1,h2,Bool.and_eq_true] at hc
     exact appendE_wr hc.2.2 p hp
    ·simp at hp
   ·split at hp
    ·exact .inl (copyE_wr p hp)
    ·simp at hp
   ·split at hp
    ·simp only[lenE,Eff.bad,Eff.v] at hp
     repeat' (split at hp)
     all_goals simp at hp
    ·simp at hp
   ·simp only[maxE,Eff.bad,Eff.v] at hp
    split at hp<;>simp at hp
   ·simp only[minE,Eff.bad,Eff.v] at hp
    split at hp<;>simp at hp
  | value f=>
   simp only[hcal] at hp hc⊢
   have key:∀(g:FuncId) (vs:List AV),(callE cx H base g vs).chk=true→p∈(callE cx H base g vs).wr→nth .free H p.1≠ .free∨base≤p.1∧p.1<base+8:=fun g vs hc hp=>callE_wr hc p hp
   cases f with
   |func f=>exact key _ _ hc hp
   |tmp t=>
    simp only[Eff.bad] at hp hc
    cases hcl:asClo (unw (ev T (.tmp t)))<;>simp only[hcl] at hp hc<;>first|exact key _ _ hc hp|(simp at hp)
   |_=>simp[Eff.bad] at hp
  |invoke r nm=>simp only[hcal,Eff.bad] at hp;simp at hp
theorem wr_spec {base:Nat} {ops:List Oper} {T:List AV} {o:Oper} (hc:(opE cx ops T H base o).chk=true):∀p∈(opE cx ops T H base o).wr,nth .free H p.1≠ .free∨(base≤p.1∧p.1<base+slots o):=by
 unfold opE at hc⊢
 cases hg:(guardB ops T o.guard).getD true with
 |true=>rw[hg] at hc;exact wr_spec0 hc
 |false=>intro p hp;simp at hp
structure Ef where
 dst:Option Tmp
 val:AV
 wr:List (Nat×Blk)
def Ef.act (e:Ef) (s:List AV×List Blk):List AV×List Blk:=(putD s.1 e.dst e.val,sets s.2 e.wr)
def app (E:Nat→Ef) (L:Nat→Bool):Nat→List AV×List Blk→List AV×List Blk
 |0,s=>s
 |n+1,s=>if L n=true then (E n).act (app E L n s) else app E L n s
theorem putD_length {T:List AV} {d:Option Tmp} {v:AV}:(putD T d v).length=T.length:=by cases d<;>simp[putD,put_length]
theorem app_length (E:Nat→Ef) (L:Nat→Bool) (s:List AV×List Blk):∀n,(app E L n s).1.length=s.1.length∧(app E L n s).2.length=s.2.length
 |0=>⟨rfl,rfl⟩
 |n+1=>by
  have:=app_length E L s n
  simp only[app]
  split
  ·simp[Ef.act,putD_length,sets_length,this]
  ·exact this
theorem sets_nth_ne:∀(l:List (Nat×Blk)) (H:List Blk) {b:Nat},b∉l.map (·.1)→nth .free (sets H l) b=nth .free H b
 |[],_,_,_=>rfl
 |(c,x)::l,H,b,h=>by
  simp only[List.map_cons,List.mem_cons,not_or] at h
  simp only[sets]
  rw[sets_nth_ne l _ h.2,nth_put_ne h.1]
theorem sets_nth_congr:∀(l:List (Nat×Blk)) (H H':List Blk) {b:Nat},H.length=H'.length→nth .free H b=nth .free H' b→nth .free (sets H l) b=nth .free (sets H' l) b
 |[],_,_,_,_,h=>h
 |(c,x)::l,H,H',b,hl,h=>by
  simp only[sets]
  refine sets_nth_congr l _ _ (by simp[put_length,hl]) ?_
  rw[nth_put,nth_put,hl,h]
theorem app_T {E:Nat→Ef} {L L':Nat→Bool} {s:List AV×List Blk} {t:Nat}:∀n,(∀i,i<n→(E i).dst=some t→L i=L' i)→nth .junk (app E L n s).1 t=nth .junk (app E L' n s).1 t
 |0,_=>rfl
 | n+1,h=>by
  have ih:=app_T (E:=E) (s:=s) n fun i hi=>h i (by omega)
  have h1:=(app_length E L s n).1
  have h2:=(app_length E L' s n).1
  simp only[app]
  by_cases hd:(E n).dst=some t
  ·rw[h n (by omega) hd]
   split
   ·simp only[Ef.act,hd,putD,nth_put,h1,h2,ih]
   ·exact ih
  ·have key:∀s',nth .junk ((E n).act s').1 t=nth .junk s'.1 t:=fun s'=>by
    simp only[Ef.act]
    cases hdd:(E n).dst with
    |none=>rfl
    |some d=>simp only[putD,nth_put];rw[if_neg (fun h=>hd (by rw[hdd,h.1]))]
   split<;>split<;>simp only[key,ih]
theorem app_H {E:Nat→Ef} {L L':Nat→Bool} {s:List AV×List Blk} {b:Nat}:∀n,(∀i,i<n→b∈(E i).wr.map (·.1)→L i=L' i)→nth .free (app E L n s).2 b=nth .free (app E L' n s).2 b
 |0,_=>rfl
 | n+1,h=>by
  have ih:=app_H (E:=E) (s:=s) n fun i hi=>h i (by omega)
  have h1:=(app_length E L s n).2
  have h2:=(app_length E L' s n).2
  simp only[app]
  by_cases hd:b∈(E n).wr.map (·.1)
  ·rw[h n (by omega) hd]
   split
   ·exact sets_nth_congr _ _ _ (h1.trans h2.symm) ih
   ·exact ih
  ·have key:∀s',nth .free ((E n).act s').2 b=nth .free s'.2 b:=fun s'=>sets_nth_ne _ _ hd
   split<;>split<;>simp only[key,ih]
theorem app_L {E:Nat→Ef} {L L':Nat→Bool} {s:List AV×List Blk}:∀n,(∀i,i<n→L i=L' i)→app E L n s=app E L' n s
 |0,_=>rfl
 |n+1,h=>by simp only[app,h n (by omega),app_L n fun i hi=>h i (by omega)]
theorem put_comm {α:Type} (x y:α):∀(l:List α) {i j:Nat},i≠j→put (put l i x) j y=put (put l j y) i x
 |[],i,j,h=>by simp[put]
 |_::_,0,0,h=>absurd rfl h
 |_::_,0,j+1,h=>rfl
 |_::_,i+1,0,h=>rfl
 |_::l,i+1,j+1,h=>by simp only[put,put_comm x y l (show i≠j by omega)]
theorem sets_put_comm:∀(l:List (Nat×Blk)) (H:List Blk) (b:Nat) (x:Blk),b∉l.map (·.1)→sets (put H b x) l=put (sets H l) b x
 |[],_,_,_,_=>rfl
 |(c,y)::l,H,b,x,h=>by
  simp only[List.map_cons,List.mem_cons,not_or] at h
  simp only[sets]
  rw[put_comm x y H h.1,sets_put_comm l _ b x h.2]
theorem sets_comm:∀(l l':List (Nat×Blk)) (H:List Blk),(∀b∈l.map (·.1),b∉l'.map (·.1))→sets (sets H l) l'=sets (sets H l') l
 |[],_,_,_=>rfl
 |(c,y)::l,l',H,h=>by
  simp only[sets]
  rw[sets_comm l l' _ fun b hb=>h b (List.mem_cons_of_mem _ hb),sets_put_comm l' H c y (h c (by simp))]
def indep (e f:Ef):Prop:=(∀d,e.dst=some d→f.dst≠some d)∧∀b∈e.wr.map (·.1),b∉f.wr.map (·.1)
theorem act_comm {e f:Ef} (h:indep e f) (s:List AV×List Blk):f.act (e.act s)=e.act (f.act s):=by
 have h1:putD (putD s.1 e.dst e.val) f.dst f.val=putD (putD s.1 f.dst f.val) e.dst e.val:=by
  cases he:e.dst with
  |none=>rfl
  |some d=>
   cases hf:f.dst with
   |none=>rfl
   |some d'=>exact put_comm _ _ _ fun hd=>h.1 d he (by rw[hf,hd])
 simp only[Ef.act,h1,sets_comm _ _ _ h.2]
theorem app_insert {E:Nat→Ef} {L:Nat→Bool} {s:List AV×List Blk} {j:Nat} (hj:L j=false):∀n,j<n→(∀k,j<k→k<n→L k=true→indep (E j) (E k))→app E (fun i=>i==j||L i) n s=(E j).act (app E L n s)
 |0,h,_=>by omega
 | n+1,h,hi=>by
  by_cases hn:n=j
  ·subst hn
   have e1:app E (fun i=>i==n||L i) n s=app E L n s:=app_L n fun i hi=>by simp[show ¬i=n by omega]
   simp only[app,e1,hj,beq_self_eq_true,Bool.true_or,if_true]
   rfl
  ·have ih:=app_insert (E:=E) (s:=s) hj n (by omega) fun k h1 h2 h3=>hi k h1 (by omega) h3
   have e2:(n==j||L n)=L n:=by simp[hn]
   simp only[app,e2]
   split
   ·rename_i hl
    rw[ih,act_comm (hi n (by omega) (by omega) hl)]
   ·exact ih
end
end Go.Abs
