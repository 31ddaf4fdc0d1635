/- Calls: what is handed over, what comes back. -/
import Derived.Test.YtiglikocfjhkcaaDoorA8
set_option linter.all false
set_option linter.unusedVariables false
set_option linter.unusedSimpArgs false
namespace Go.Abs
variable [Globs]
open Go.RowKit (Below)
section
variable {H:List Blk} {μ:Nat→Value} {w:World} {S:Nat→Prop} {P:Program} {w0:World} {S0:Sc}
def CSound (P:Program) (C:FuncId→List AV→List Blk→Res):Prop:=
 ∀ f vs (Hi:List Blk) (us:Array Value) (w:World) (S M:Nat→Prop) (μ:Nat→Value),(C f vs Hi).ok=true→vs.length=us.size→HR Hi μ w S M→(∀B,w.heap.size≤B→M B)→(∀i,i<vs.length→VR Hi μ w S (nth .junk vs i) (us.getD i undef))→
  (∃fn,P.funcs[f]?=some fn∧(fn.name== "runtime.NumGoroutine")=false∧fn.body.isNone=false)∧Calls P f us w fun e w'=>∃v,e= .returned v∧Kept M w w'∧∃μ' S',HR (C f vs Hi).heap μ' w' S' M∧(∀B,S B→S' B)∧(∀B,S' B→S B∨M B)∧
   (∀B,S B→w'.heap[B]?=w.heap[B]?)∧Pinned ⟨S,M,Hi.length,Hi,μ⟩ (C f vs Hi).heap μ'∧VR (C f vs Hi).heap μ' w' S' (C f vs Hi).val v
structure Back (Hh:List Blk) (μh:Nat→Value) (ρ:Nat→Nat) (τ:Nat→Nat×Nat) (H:List Blk) (μ:Nat→Value):Prop where
 blk:∀c,c<Hh.length→nth .free H (ρ c)=mvB ρ τ c (nth .free Hh c)∧μ (ρ c)=μh c
theorem mvB_rd {ρ:Nat→Nat} {τ:Nat→Nat×Nat} {c:Nat} {x:Blk} {r:Rd} (h:rdOf x=some r):rdOf (mvB ρ τ c x)=some {r with ver:=r.ver+(τ c).1}:=by
 cases x<;>simp[rdOf] at h<;>subst h<;>rfl
def TD.mv (t:Nat×Nat) (d:TD):TD:={d with ver:=d.ver+t.1,iv:=d.iv+t.2}
theorem TD.mv_vp {t:Nat×Nat} {d:TD} {p:Pth}:(d.mv t).vp p=d.vp p+tauP t p:=by cases p<;>rfl
theorem mvB_tab {ρ:Nat→Nat} {τ:Nat→Nat×Nat} {c:Nat} {x:Blk} {d:TD} (h:tabD x=some d):tabD (mvB ρ τ c x)=some (d.mv (τ c)):=by
 cases x<;>first|(cases h;done)|(simp only[tabD,Option.some.injEq] at h;subst h;rfl)
theorem HR.tabBase {H:List Blk} {μ:Nat→Value} {w:World} {S M:Nat→Prop} (hh:HR H μ w S M) {b B:Nat} {fz:Bool} {ver iv:Nat} {e:TypeId} {k:CK} {os:List TypeId} {xs:List (CT k)} {hole:Option Pth} (hx:nth .free H b= .tab fz ver iv e k os xs hole)
  (hlv:(nth .free H b).live) (hB:Owns (μ b) B):M B:=by
 have h:=hh.blk b
 rw[hx] at h hlv
 cases fz with
 |true=>exact absurd hlv id
 |false=>exact (h.2.old hB).2
theorem isMapB_mv {ρ:Nat→Nat} {τ:Nat→Nat×Nat} {c:Nat} {x:Blk}:isMapB (mvB ρ τ c x)=isMapB x:=by cases x<;>rfl
theorem isIterB_mv {ρ:Nat→Nat} {τ:Nat→Nat×Nat} {c:Nat} {x:Blk}:isIterB (mvB ρ τ c x)=isIterB x:=by cases x<;>rfl
theorem mv1_sound {Hh:List Blk} {μh:Nat→Value} {ρ:Nat→Nat} {τ:Nat→Nat×Nat} (hb:Back Hh μh ρ τ H μ) {v:AV} {u:Value} (h:VR Hh μh w S v u):VR H μ w S (mv1 ρ τ v) u:=by
 cases h with
 |pv h=>
  have h':=h
  cases h<;>first|exact .pv h'|exact .junk _
 |ptr b off cs B h1 h2=>
  obtain ⟨q1,q2⟩:=hb.blk b (lt_of_live (by rw[h1];simp))
  exact .ptr _ off (cs.map (mv2 ρ τ)) B (by rw[q1,h1];rfl) (q2.trans h2)
 |csl b off n cs B c h1 h2 h3=>
  obtain ⟨q1,q2⟩:=hb.blk b (lt_of_live (by rw[h1];simp))
  exact .csl _ off n (cs.map (mv2 ρ τ)) B c (by rw[q1,h1];rfl) (q2.trans h2) h3
 |mp b B h1 h2=>
  obtain ⟨q1,q2⟩:=hb.blk b (lt_of_live fun e=>by rw[e] at h1;cases h1)
  exact .mp _ B (by rw[q1,isMapB_mv];exact h1) (q2.trans h2)
 |it b B h1 h2=>
  obtain ⟨q1,q2⟩:=hb.blk b (lt_of_live fun e=>by rw[e] at h1;cases h1)
  exact .it _ B (by rw[q1,isIterB_mv];exact h1) (q2.trans h2)
 |eptr b ver i j r B o h1 h2 h3=>
  obtain ⟨q1,q2⟩:=hb.blk b (lt_of_live fun e=>by rw[e] at h1;simp[rdOf] at h1)
  refine .eptr _ _ i j {r with ver:=r.ver+(τ b).1} B o (by rw[q1];exact mvB_rd h1) (by simp only;omega) fun e=> ?_
  simp only at e⊢
  rw[q2]
  exact h3 (by omega)
 |sl b ver off lw len r A c h1 h2 h3 h4 h5=>
  obtain ⟨q1,q2⟩:=hb.blk b (lt_of_live fun e=>by rw[e] at h1;simp[rdOf] at h1)
  refine .sl _ _ off lw len {r with ver:=r.ver+(τ b).1} A c (by rw[q1];exact mvB_rd h1) (by simp only;omega) h3 h4 fun e=> ?_
  simp only at e⊢
  rw[q2]
  exact h5 (by omega)
 |tptr b ver p i j d B o h1 h2 h3=>
  obtain ⟨q1,q2⟩:=hb.blk b (lt_of_live fun e=>by rw[e] at h1;cases h1)
  refine .tptr _ _ p i j (d.mv (τ b)) B o (by rw[q1];exact mvB_tab h1) (by rw[TD.mv_vp];omega) fun e=> ?_
  rw[TD.mv_vp] at e
  rw[q2]
  exact h3 (by omega)
 |tsl b ver p d n A c h1 h2 h3=>
  obtain ⟨q1,q2⟩:=hb.blk b (lt_of_live fun e=>by rw[e] at h1;cases h1)
  refine .tsl _ _ p (d.mv (τ b)) n A c (by rw[q1];exact mvB_tab h1) (by rw[TD.mv_vp];omega) fun e=> ?_
  rw[TD.mv_vp] at e
  rw[q2]
  exact h3 (by omega)
 |agg cs vs hl hc=>exact .junk _
 |tup cs vs hl hc=>exact .junk _
 |clo f cs vs hl hc=>exact .junk _
 |when g v u hc _=>exact .junk _
theorem mv2_sound {Hh:List Blk} {μh:Nat→Value} {ρ:Nat→Nat} {τ:Nat→Nat×Nat} (hb:Back Hh μh ρ τ H μ) {v:AV} {u:Value} (h:VR Hh μh w S v u):VR H μ w S (mv2 ρ τ v) u:=by
 by_cases ha:∃cs,v= .agg cs
 ·obtain ⟨cs,rfl⟩:=ha
  have key:∀ {vs:Array Value},cs.length=vs.size→(∀i,i<cs.length→VR Hh μh w S (nth .junk cs i) (vs.getD i undef))→VR H μ w S (mv2 ρ τ (.agg cs)) (.agg vs):=fun hl hc=>by
   refine .agg _ _ (by simpa using hl) fun i hi=> ?_
   have hi':i<cs.length:=by simpa using hi
   rw[nth_map AV.junk AV.junk (mv1 ρ τ) cs i hi']
   exact mv1_sound hb (hc i hi')
  cases h with
  |pv h=>cases h with|agg _ _ hl hc=>exact key hl fun i hi=> .pv (hc i hi)
  |agg _ _ hl hc=>exact key hl hc
 ·by_cases hc:∃f cs,v= .clo f cs
  ·obtain ⟨f,cs,rfl⟩:=hc
   have key:∀ {vs:Array Value},cs.length=vs.size→(∀i,i<cs.length→VR Hh μh w S (nth .junk cs i) (vs.getD i undef))→VR H μ w S (mv2 ρ τ (.clo f cs)) (cloV f vs):=fun hl hc=>by
    refine .clo _ _ _ (by simpa using hl) fun i hi=> ?_
    have hi':i<cs.length:=by simpa using hi
    rw[nth_map AV.junk AV.junk (mv1 ρ τ) cs i hi']
    exact mv1_sound hb (hc i hi')
   cases h with
   |pv h=>cases h with|clo _ _ _ hl hc=>exact key hl fun i hi=> .pv (hc i hi)
   |clo _ _ _ hl hc=>exact key hl hc
  ·have:mv2 ρ τ v=mv1 ρ τ v:=by cases v<;>first|rfl|exact absurd ⟨_,rfl⟩ ha|exact absurd ⟨_,_,rfl⟩ hc
   rw[this];exact mv1_sound hb h
theorem mv_sound {Hh:List Blk} {μh:Nat→Value} {ρ:Nat→Nat} {τ:Nat→Nat×Nat} (hb:Back Hh μh ρ τ H μ) {v:AV} {u:Value} (h:VR Hh μh w S v u):VR H μ w S (mv ρ τ v) u:=by
 by_cases ht:∃cs,v= .tup cs
 ·obtain ⟨cs,rfl⟩:=ht
  cases h with
  |pv h=>cases h
  |tup _ vs hl hc=>
   refine .tup _ _ (by simpa using hl) fun i hi=> ?_
   have hi':i<cs.length:=by simpa using hi
   rw[nth_map AV.junk AV.junk (mv2 ρ τ) cs i hi']
   exact mv2_sound hb (hc i hi')
 ·have:mv ρ τ v=mv2 ρ τ v:=by cases v<;>first|rfl|exact absurd ⟨_,rfl⟩ ht
  rw[this];exact mv2_sound hb h
theorem backs_nth {ρ:Nat→Nat} {τ:Nat→Nat×Nat}:∀(l:List Blk) (k:Nat) (H:List Blk),(∀c c',k≤c→c<k+l.length→k≤c'→c'<k+l.length→ρ c=ρ c'→c=c')→(∀c,k≤c→c<k+l.length→ρ c<H.length)→
  (∀c,c<l.length→nth .free (sets H (backs ρ τ l k)) (ρ (k+c))=mvB ρ τ (k+c) (nth .free l c))∧(∀b,(∀c,k≤c→c<k+l.length→ρ c≠b)→nth .free (sets H (backs ρ τ l k)) b=nth .free H b)
 |[],k,H,_,_=>⟨fun c h=>by simp at h,fun b _=>rfl⟩
 | x::l,k,H,hi,hl=>by
  obtain ⟨h1,h2⟩:=backs_nth l (k+1) (put H (ρ k) (mvB ρ τ k x)) (fun c c' a1 a2 a3 a4=>hi c c' (by omega) (by simp;omega) (by omega) (by simp;omega)) (fun c a1 a2=>by rw[put_length];exact hl c (by omega) (by simp;omega))
  refine ⟨fun c hc=> ?_,fun b hb=> ?_⟩
  ·cases c with
   |zero=>
    simp only[backs,sets,Nat.add_zero,nth]
    rw[h2 (ρ k) fun c a1 a2 e=>by have:=hi c k (by omega) (by simp;omega) (by omega) (by simp) e;omega]
    exact nth_put_eq (hl k (by omega) (by simp))
   |succ c=>
    have:=h1 c (by simpa using hc)
    simp only[backs,sets,nth]
    rw[show k+(c+1)=k+1+c by omega]
    exact this
  ·simp only[backs,sets]
   rw[h2 b fun c a1 a2=>hb c (by omega) (by simp;omega)]
   exact nth_put_ne fun e=>hb k (by omega) (by simp) e.symm
theorem passA_length {H:List Blk} {ord:List Nat}:∀(ms:List Bool) (xs:List AV),(passA H ord ms xs).length=xs.length
 |[],xs=>by simp[passA]
 |true::ms,x::xs=>by simp[passA,passA_length ms xs]
 |false::ms,x::xs=>by simp[passA,passA_length ms xs]
 |_::_,[]=>by simp[passA]
theorem passA_nth {H:List Blk} {ord:List Nat}:∀(ms:List Bool) (xs:List AV) (i:Nat),i<xs.length→
  nth .junk (passA H ord ms xs) i=ren 0 H ord (nth .junk xs i)∨(nth .junk (passA H ord ms xs) i=viewA H (nth .junk xs i)∧nth .junk xs i∈byView ms xs)
 |[],xs,i,hi=> .inr ⟨by rw[passA,nth_map AV.junk AV.junk (viewA H) xs i hi],by rw[byView,nth_lt _ _ _ hi];exact List.getElem_mem hi⟩
 |true::ms,x::xs,0,_=> .inl rfl
 |false::ms,x::xs,0,_=> .inr ⟨rfl,by simp[byView,nth]⟩
 |true::ms,x::xs,i+1,hi=>(passA_nth ms xs i (by simpa using hi)).imp id fun h=>⟨h.1,h.2⟩
 |false::ms,x::xs,i+1,hi=>(passA_nth ms xs i (by simpa using hi)).imp id fun h=>⟨h.1,List.mem_cons_of_mem _ h.2⟩
 |_::_,[],i,hi=>by simp at hi
theorem callAt_after {cx:Cx} {base:Nat} {f:FuncId} {args:List AV} {us:Array Value} {frz:List (Nat×Blk)} (hC:CSound cx.P cx.C) (hr:RepAt w0 S0 H μ S w) (hf:FreeAt H base 8) (hl:args.length=us.size) (ha:∀i,i<args.length→VR H μ w S (nth .junk args i) (us.getD i undef))
  (hv:∀x∈byView (cx.mode f) args,∀u,VR H μ w S x u→pureA (viewA H x)=true→PV w S (viewA H x) u) (hc:(callAt cx H frz base f args).chk=true):
  (∃fn,cx.P.funcs[f]?=some fn∧(fn.name== "runtime.NumGoroutine")=false∧fn.body.isNone=false)∧Calls cx.P f us w fun e w'=>∃v,e= .returned v∧
   ∃μ' S',RepAt w0 S0 (sets H (backs (rho (ordA H (cx.mode f) args) base) (tau H (ordA H (cx.mode f) args)) (callR cx H f args).heap 0)) μ' S' w'∧
    Ext H μ (sets H (backs (rho (ordA H (cx.mode f) args) base) (tau H (ordA H (cx.mode f) args)) (callR cx H f args).heap 0)) μ'∧(∀B,S B→S' B)∧(∀B,S B→w'.heap[B]?=w.heap[B]?)∧
    VR (sets H (backs (rho (ordA H (cx.mode f) args) base) (tau H (ordA H (cx.mode f) args)) (callR cx H f args).heap 0)) μ' w' S' (callAt cx H frz base f args).val v:=by
 simp only[callAt,Bool.and_eq_true,Nat.ble_eq] at hc⊢
 obtain ⟨c1,c2,c3,c4,c5⟩:=hc
 have hnd:(ordA H (cx.mode f) args).Nodup:=reach_nodup _ _ _ List.nodup_nil
 have hpass:∀i,i<args.length→VR (renH 0 H (ordA H (cx.mode f) args)) (renM μ (ordA H (cx.mode f) args)) w S (nth .junk (passA H (ordA H (cx.mode f) args) (cx.mode f) args) i) (us.getD i undef):=fun i hi=>by
  rcases passA_nth (H:=H) (ord:=ordA H (cx.mode f) args) (cx.mode f) args i hi with e|⟨e,hm⟩
  ·rw[e];exact ren_sound (ha i hi)
  ·rw[e];exact .pv (hv _ hm _ (ha i hi) (List.all_eq_true.1 c1 _ hm))
 simp only[callR] at c3 c4 c5⊢
 generalize hord:ordA H (cx.mode f) args=ord at*
 have hfree:∀b∈ord,nth .free H b≠ .free:=fun b hb e=>by
  have:=List.all_eq_true.1 c2 b hb
  rw[e] at this;simp[isFree] at this
 generalize hM:(fun B=>(∃b,b∈ord∧(nth .free H b).live∧Owns (μ b) B)∨w.heap.size≤B)=M
 have hMd:∀B,M B↔((∃b,b∈ord∧(nth .free H b).live∧Owns (μ b) B)∨w.heap.size≤B):=fun B=>by rw[←hM]
 have hMown:∀B,M B→S0.own B:=fun B h=>by
  rcases (hMd B).1 h with ⟨b,_,hlv,hB⟩|h
  ·cases hx:nth .free H b with
   |free=>rw[hx] at hlv;exact absurd hlv id
   |fro _ _ _ _=>rw[hx] at hlv;exact absurd hlv id
   |fmap _ _ _ _ _=>rw[hx] at hlv;exact absurd hlv id
   |iter _ _ _ _ _ _=>
    obtain ⟨B',hm,ho,_⟩:=hr.hr.iterB hx
    rw[hm] at hB
    simp only[Owns,blkOf,Option.some.injEq] at hB
    exact hB▸ho
   |cells cs=>
    obtain ⟨B',_,_,hm,_,ho,_⟩:=hr.hr.cellsB hx
    rw[hm] at hB
    simp only[Owns,blkOf,Option.some.injEq] at hB
    exact hB▸ho
   |map _ _ _ _ _=>
    obtain ⟨B',hm,ho,_⟩:=hr.hr.mapB hx
    rw[hm] at hB
    simp only[Owns,blkOf,Option.some.injEq] at hB
    exact hB▸ho
   |row _ _ _ _=>exact hr.hr.rowBase hx hB
   |tab _ _ _ _ _ _ _ _=>exact hr.hr.tabBase hx hlv hB
  ·exact hr.fresh B (Nat.le_trans hr.below.size h)
 have hHi:HR (renH 0 H ord) (renM μ ord) w S M:=ren_HR hnd hr.hr fun b hb hlv B hB=>(hMd B).2 (.inl ⟨b,hb,hlv,hB⟩)
 have hCf:=hC f (passA H ord (cx.mode f) args) (renH 0 H ord) us w S M (renM μ ord) c5 (by rw[passA_length];exact hl) hHi (fun B h=>(hMd B).2 (.inr h)) (fun i hi=>hpass i (by rwa [passA_length] at hi))
 refine ⟨hCf.1,Calls.mono hCf.2 fun e w' h=> ?_⟩
 obtain ⟨v,rfl,hkept,μh,S',hh,s1,s2,s3,hpin,hval⟩:=h
 refine ⟨v,rfl,?_⟩
 generalize cx.C f (passA H ord (cx.mode f) args) (renH 0 H ord)=res at*
 have hlen:(renH 0 H ord).length=ord.length:=renH_length
 have hordlt:∀c,c<ord.length→nth 0 ord c∈ord:=fun c hc=>by rw[nth_lt _ _ _ hc];exact List.getElem_mem hc
 have hrho1:∀c,c<ord.length→rho ord base c=nth 0 ord c:=fun c hc=>by simp[rho,show Nat.blt c ord.length=true by simpa [Nat.blt_eq] using hc]
 have hrho2:∀c,ord.length≤c→rho ord base c=base+(c-ord.length):=fun c hc=>by
  have:Nat.blt c ord.length=false:=by rw[Bool.eq_false_iff];simp[Nat.blt_eq];omega
  simp[rho,this]
 have hnew:∀c,ord.length≤c→c<res.heap.length→nth .free H (rho ord base c)= .free∧rho ord base c<H.length:=fun c h1 h2=>by
  rw[hrho2 c h1];exact hf _ (by omega)
 have hlt:∀c,c<res.heap.length→rho ord base c<H.length:=fun c hc=>by
  rcases Nat.lt_or_ge c ord.length with h|h
  ·rw[hrho1 c h];exact lt_of_live (hfree _ (hordlt c h))
  ·exact (hnew c h hc).2
 have hinj:∀c c',c<res.heap.length→c'<res.heap.length→rho ord base c=rho ord base c'→c=c':=fun c c' h1 h2 e=>by
  rcases Nat.lt_or_ge c ord.length with a1|a1<;>rcases Nat.lt_or_ge c' ord.length with a2|a2
  ·rw[hrho1 c a1,hrho1 c' a2] at e;exact nth_inj hnd a1 a2 e
  ·exfalso;rw[hrho1 c a1] at e;exact hfree _ (hordlt c a1) (by rw[e];exact (hnew c' a2 h2).1)
  ·exfalso;rw[hrho1 c' a2] at e;exact hfree _ (hordlt c' a2) (by rw[←e];exact (hnew c a1 h1).1)
  ·rw[hrho2 c a1,hrho2 c' a2] at e;omega
 obtain ⟨b1,b2⟩:=backs_nth (ρ:=rho ord base) (τ:=tau H ord) res.heap 0 H (fun c c' _ h2 _ h4 e=>hinj c c' (by omega) (by omega) e) (fun c _ h=>hlt c (by omega))
 simp only[Nat.zero_add] at b1 b2
 generalize hHn:sets H (backs (rho ord base) (tau H ord) res.heap 0)=Hn at*
 obtain ⟨μn,m1,m2⟩:∃μn:Nat→Value,(∀c,c<res.heap.length→μn (rho ord base c)=μh c)∧∀b,(∀c,c<res.heap.length→rho ord base c≠b)→μn b=μ b:=by
  classical
  refine ⟨fun b=>if h:∃c,c<res.heap.length∧rho ord base c=b then μh (Classical.choose h) else μ b,fun c hc=> ?_,fun b hb=> ?_⟩
  ·have h:∃c',c'<res.heap.length∧rho ord base c'=rho ord base c:=⟨c,hc,rfl⟩
   simp only
   rw[dif_pos h]
   have hs:=Classical.choose_spec h
   rw[hinj _ _ hs.1 hc hs.2]
  ·simp only
   rw[dif_neg (fun ⟨c,h1,h2⟩=>hb c h1 h2)]
 have hrange:∀b,(∃c,c<res.heap.length∧rho ord base c=b)∨∀c,c<res.heap.length→rho ord base c≠b:=fun b=>by
  by_cases h:∃c,c<res.heap.length∧rho ord base c=b
  ·exact .inl h
  ·exact .inr fun c h1 h2=>h ⟨c,h1,h2⟩
 have hout:∀b,(∀c,c<res.heap.length→rho ord base c≠b)→nth .free Hn b=nth .free H b:=fun b h=>b2 b fun c _ hc=>h c (by omega)
 have hback:Back res.heap μh (rho ord base) (tau H ord) Hn μn:=⟨fun c hc=>⟨b1 c hc,m1 c hc⟩⟩
 have hord_in:∀b,b∈ord→∃c,c<ord.length∧nth 0 ord c=b:=fun b hb=>by
  obtain ⟨c,hc,rfl⟩:=List.getElem_of_mem hb
  exact ⟨c,hc,nth_lt _ _ _ hc⟩
 have hnotM:∀b,(∀c,c<res.heap.length→rho ord base c≠b)→(nth .free H b).live→∀B,Owns (μ b) B→¬M B:=fun b hb hlv B hB hMB=>by
  rcases (hMd B).1 hMB with ⟨b',hb',hlv',hB'⟩|h
  ·obtain ⟨c,hc,hcb⟩:=hord_in b' hb'
   have hne:b≠b':=fun e=>hb c (by omega) (by rw[hrho1 c hc,hcb,e])
   exact hr.hr.inj b b' B hlv hlv' hne hB hB'
  ·have:=hr.hr.old (fun e=>by rw[e] at hlv;exact hlv) hB
   omega
 have hMlive:∀c B,(nth .free res.heap c).live→Owns (μh c) B→M B:=fun c B hlv hB=>by
  cases hx:nth .free res.heap c with
  |free=>rw[hx] at hlv;exact absurd hlv id
  |fro _ _ _ _=>rw[hx] at hlv;exact absurd hlv id
  |fmap _ _ _ _ _=>rw[hx] at hlv;exact absurd hlv id
  |iter _ _ _ _ _ _=>
   obtain ⟨B',hm,ho,_⟩:=hh.iterB hx
   rw[hm] at hB
   simp only[Owns,blkOf,Option.some.injEq] at hB
   exact hB▸ho
  |cells cs=>
   obtain ⟨B',_,_,hm,_,ho,_⟩:=hh.cellsB hx
   rw[hm] at hB
   simp only[Owns,blkOf,Option.some.injEq] at hB
   exact hB▸ho
  |map _ _ _ _ _=>
   obtain ⟨B',hm,ho,_⟩:=hh.mapB hx
   rw[hm] at hB
   simp only[Owns,blkOf,Option.some.injEq] at hB
   exact hB▸ho
  |row _ _ _ _=>exact hh.rowBase hx hB
  |tab _ _ _ _ _ _ _ _=>exact hh.tabBase hx hlv hB
 have hext : Ext H μ Hn μn:=fun b=>by
  rcases hrange b with ⟨c,hc,rfl⟩|hb
  ·rcases Nat.lt_or_ge c ord.length with hco|hco
   ·have hp:=hpin c (by simp only;rw[hlen];exact hco)
    simp only[renH_nth hco] at hp
    rw[m1 c hc]
    have e1:=b1 c hc
    rw[hrho1 c hco] at e1⊢
    refine ⟨fun cs hcs=> ?_,fun r hrd=> ?_,fun hm=> ?_,fun hm=> ?_,fun d hd=> ?_⟩
    ·rw[hcs] at hp
     obtain ⟨⟨cs',h1⟩,h2⟩:=hp.1 _ rfl
     exact ⟨_,by rw[e1,h1];rfl,h2⟩
    rotate_left
    ·obtain ⟨h1,h2⟩:=hp.2.2.1 (by rw[isMapB_ren];exact hm)
     exact ⟨by rw[e1,isMapB_mv];exact h1,h2⟩
    ·obtain ⟨h1,h2⟩:=hp.2.2.2.1 (by rw[isIterB_ren];exact hm)
     exact ⟨by rw[e1,isIterB_mv];exact h1,h2⟩
    ·obtain ⟨d',h1,h2z⟩:=hp.2.2.2.2 _ (renB_tab hd)
     have ht:tau H ord c=(d.ver,d.iv):=by
      simp only[tau,show Nat.blt c ord.length=true by simpa [Nat.blt_eq] using hco,cond_true,verOf_tab hd,ivOf,hd]
     have htp:∀p,tauP (tau H ord c) p=d.vp p:=fun p=>by rw[ht];cases p<;>rfl
     have hb0:Nat.blt c 0=false:=by cases c<;>rfl
     refine ⟨d'.mv (tau H ord c),by rw[e1];exact mvB_tab h1,by rw[ht];exact Nat.le_add_left _ _,by rw[ht];exact Nat.le_add_left _ _,fun p e=> ?_⟩
     rw[TD.mv_vp,htp] at e
     exact h2z p (by rw[TD.nv_vp];simp[nv,hb0]) (by omega)
    ·obtain ⟨r',h1,h2,h2z⟩:=hp.2.1 _ (renB_rd hrd)
     have ht:(tau H ord c).1=r.ver:=by
      simp only[tau,show Nat.blt c ord.length=true by simpa [Nat.blt_eq] using hco,cond_true,verOf_rd hrd]
     have h2':r'.sz=r.sz:=h2
     refine ⟨{r' with ver:=r'.ver+(tau H ord c).1},by rw[e1];exact mvB_rd h1,h2',by simp only[ht];omega,fun e=> ?_⟩
     simp only[ht] at e
     have hz := h2z (by have hb0:Nat.blt c 0=false:=by cases c<;>rfl
                        simp[nv,hb0]) (by omega)
     exact ⟨hz.1,hz.2⟩
   ·have:=(hnew c hco hc).1
    rw[this]
    exact ⟨(fun cs h=>by cases h),(fun r h=>by simp[rdOf] at h),(fun h=>by cases h),(fun h=>by cases h),fun d h=>by cases h⟩
  ·rw[hout b hb,m2 b hb]
   exact ⟨fun cs h=>⟨cs,h,rfl⟩,fun r h=>⟨r,h,rfl,Nat.le_refl _,fun _=>⟨rfl,rfl⟩⟩,fun h=>⟨h,rfl⟩,fun h=>⟨h,rfl⟩,fun d h=>⟨d,h,Nat.le_refl _,Nat.le_refl _,fun p _=>SameP.refl d _ p⟩⟩
 have hHn':HR Hn μn w' S' S0.own:=by
  refine ⟨fun b=> ?_,fun b b' B h1 h2 hne h3=> ?_,hh.stab,hh.glob⟩
  ·rcases hrange b with ⟨c,hc,rfl⟩|hb
   ·rw[b1 c hc]
    have hbk:=hh.blk c
    cases hx:nth .free res.heap c with
    |free=>trivial
    |cells cs=>
     rw[hx] at hbk
     obtain ⟨B,arr,t,e1,e2,e3,e4,e5,e6⟩:=hbk
     refine ⟨B,arr,t,by rw[m1 c hc];exact e1,e2,hMown B e3,e4,by simpa using e5,fun i hi=> ?_⟩
     have hi':i<cs.length:=by simpa using hi
     rw[nth_map AV.junk AV.junk (mv2 (rho ord base) (tau H ord)) cs i hi']
     exact mv2_sound hback (e6 i hi')
    |map ka va kk vk m=>
     rw[hx] at hbk
     obtain ⟨B,e1,e3,e4,e5⟩:=hbk
     exact ⟨B,by rw[m1 c hc];exact e1,hMown B e3,e4,e5⟩
    |iter ka va kk vk rest cur=>
     rw[hx] at hbk
     obtain ⟨B,e1,e3,e4,e5⟩:=hbk
     exact ⟨B,by rw[m1 c hc];exact e1,hMown B e3,e4,e5⟩
    |fmap ka va kk vk m=>
     rw[hx] at hbk
     obtain ⟨B,e1,e3,e5⟩:=hbk
     exact ⟨B,by rw[m1 c hc];exact e1,e3,e5⟩
    |row ver e k xs=>
     rw[hx] at hbk
     exact ⟨by rw[m1 c hc];exact hbk.1,by rw[m1 c hc];exact hbk.2.imp hMown (fun _ _=>rfl) fun _ _ h=>h⟩
    |fro ver e k xs=>
     rw[hx] at hbk
     exact ⟨by rw[m1 c hc];exact hbk.1,by rw[m1 c hc];exact hbk.2⟩
    |tab fz ver iv e k os xs hole=>
     rw[hx] at hbk
     cases fz with
     |true=>exact ⟨by rw[m1 c hc];exact hbk.1,by rw[m1 c hc];exact hbk.2⟩
     |false=>exact ⟨by rw[m1 c hc];exact hbk.1,by rw[m1 c hc];exact hbk.2.imp hMown (fun _ _=>rfl) fun _ _ h=>h⟩
   ·rw [hout b hb]
    have hbk:=hr.hr.blk b
    have hold:nth .free H b≠ .free→∀B,Owns (μ b) B→B<w.heap.size:=fun h B hB=>hr.hr.old h hB
    have hnM:=hnotM b hb
    cases hx:nth .free H b with
    |free=>trivial
    |cells cs=>
     rw[hx] at hbk hnM
     obtain ⟨B,arr,t,e1,e2,e3,e4,e5,e6⟩:=hbk
     have hnB:¬M B:=hnM trivial B (by rw[e1];rfl)
     refine ⟨B,arr,t,by rw[m2 b hb];exact e1,by rw[hkept.block B (hold (by rw[hx];simp) B (by rw[e1];rfl)) hnB];exact e2,e3,fun h=>(s2 B h).elim e4 hnB,e5,fun i hi=>(e6 i hi).mono hext s1 s3⟩
    |map ka va kk vk m=>
     rw[hx] at hbk hnM
     obtain ⟨B,e1,e3,e4,e5⟩:=hbk
     have hnB:¬M B:=hnM trivial B (by rw[e1];rfl)
     exact ⟨B,by rw[m2 b hb];exact e1,e3,fun h=>(s2 B h).elim e4 hnB,e5.mono s1 s3 (hkept.block B (hold (by rw[hx];simp) B (by rw[e1];rfl)) hnB)⟩
    |iter ka va kk vk rest cur=>
     rw[hx] at hbk hnM
     obtain ⟨B,e1,e3,e4,e5⟩:=hbk
     have hnB:¬M B:=hnM trivial B (by rw[e1];rfl)
     exact ⟨B,by rw[m2 b hb];exact e1,e3,fun h=>(s2 B h).elim e4 hnB,e5.mono s1 s3 (hkept.block B (hold (by rw[hx];simp) B (by rw[e1];rfl)) hnB)⟩
    |fmap ka va kk vk m=>
     rw[hx] at hbk
     obtain ⟨B,e1,e3,e5⟩:=hbk
     exact ⟨B,by rw[m2 b hb];exact e1,s1 B e3,e5.mono s1 s3 (s3 B e3)⟩
    |row ver e k xs=>
     rw[hx] at hbk hnM
     refine ⟨by rw[m2 b hb];exact fun B hB h=>(s2 B h).elim (hbk.1 B hB) (hnM trivial B hB),?_⟩
     rw[m2 b hb]
     exact hbk.2.imp (fun _ h=>h) (fun B hB=>hkept.block B (hold (by rw[hx];simp) B hB) (hnM trivial B hB)) fun x y hp=>hp.mono s1 s3
    |fro ver e k xs=>
     rw[hx] at hbk
     refine ⟨by rw[m2 b hb];exact fun B hB=>s1 B (hbk.1 B hB),?_⟩
     rw[m2 b hb]
     exact hbk.2.imp (fun _ h=>h) (fun B hB=>s3 B (hbk.1 B hB)) fun x y hp=>hp.mono s1 s3
    | tab fz ver iv e k os xs hole=>
     rw[hx] at hbk hnM
     cases fz with
     |true=>
      exact ⟨by rw[m2 b hb];exact fun B hB=>s1 B (hbk.1 B hB),by rw[m2 b hb];exact hbk.2.imp (fun _ h=>h) (fun B hB=>s3 B (hbk.1 B hB)) fun x y hp=>hp.mono s1 s3⟩
     | false=>
      exact ⟨by rw[m2 b hb];exact fun B hB h=>(s2 B h).elim (hbk.1 B hB) (hnM trivial B hB),
       by rw[m2 b hb];exact hbk.2.imp (fun _ h=>h) (fun B hB=>hkept.block B (hold (by rw[hx];simp) B hB) (hnM trivial B hB)) fun x y hp=>hp.mono s1 s3⟩
  ·have mvlive:∀c x,(mvB (rho ord base) (tau H ord) c x).live→x.live:=fun c x h=>by cases x<;>first|trivial|exact h|(rename_i fz _ _ _ _ _ _ _;cases fz<;>exact h)
   rcases hrange b with ⟨c,hc,rfl⟩|hb<;>rcases hrange b' with ⟨c',hc',rfl⟩|hb'
   ·rw[b1 c hc] at h1
    rw[b1 c' hc'] at h2
    rw[m1 c hc] at h3
    rw[m1 c' hc']
    exact hh.inj c c' B (mvlive _ _ h1) (mvlive _ _ h2) (fun e=>hne (by rw[e])) h3
   ·rw[b1 c hc] at h1
    rw[hout b' hb'] at h2
    rw[m1 c hc] at h3
    rw[m2 b' hb']
    exact fun h4=>hnotM b' hb' h2 B h4 (hMlive c B (mvlive _ _ h1) h3)
   ·rw[hout b hb] at h1
    rw[b1 c' hc'] at h2
    rw[m2 b hb] at h3
    rw[m1 c' hc']
    exact fun h4=>hnotM b hb h1 B h3 (hMlive c' B (mvlive _ _ h2) h4)
   ·rw[hout b hb] at h1
    rw[hout b' hb'] at h2
    rw[m2 b hb] at h3
    rw[m2 b' hb']
    exact hr.hr.inj b b' B h1 h2 hne h3
 refine ⟨μn,S',⟨hHn',hr.below.trans ⟨hkept.os,hkept.tape,hkept.output,hkept.size,fun k h1 h2=>hkept.block k h1 fun h=>h2 (hMown k h)⟩,fun B h=>s1 B (hr.sub B h),fun B h=>(s2 B h).elim (hr.sup B) (fun h=> .inr (hMown B h)),hr.fresh,hr.pins.ext hext⟩,hext,s1,s3,mv_sound hback hval⟩
theorem view_fro {M:Nat→Prop} (hh:HR H μ w S M) {x:AV} {v:Value} (hv:VR H μ w S x v) (hx:isV x=true) (hl:∀b∈refs x,isOwnB (nth .free H b)=false):PV w S (view H x) v:=
 (view_sound hh hv hx (l:=refs x) fun _ h=>h).mono (fun B h=>by
  rcases h with h|⟨b,hb,hr,_⟩
  ·exact h
  ·rw[hl b hb] at hr;cases hr) (fun _ _=>rfl)
theorem passA_view {H:List Blk} {ord:List Nat}:∀(ms:List Bool) (xs:List AV),anyRef ms=false→passA H ord ms xs=xs.map (viewA H)∧byRef ms xs=[]∧byView ms xs=xs
 |[],xs,_=>⟨by simp[passA],by cases xs<;>rfl,by cases xs<;>rfl⟩
 |true::ms,xs,h=>by simp[anyRef] at h
 |false::ms,[],_=>⟨rfl,rfl,rfl⟩
 |false::ms,x::xs,h=>by
  have:=passA_view (H:=H) (ord:=ord) ms xs (by simpa [anyRef] using h)
  exact ⟨by simp[passA,this.1],this.2.1,by simp[byView,this.2.2]⟩
theorem bare1_mv {ρ:Nat→Nat} {τ:Nat→Nat×Nat} {v:AV} (h:bare1 v=true):mv2 ρ τ v=v:=by cases v<;>first|rfl|simp[bare1] at h
theorem bare_back {Hh:List Blk} {μh:Nat→Value} {w':World} {S':Nat→Prop} {ρ:Nat→Nat} {τ:Nat→Nat×Nat} {r:AV} {u:Value} (h:bare r=true) (hv:VR Hh μh w' S' r u):VR H μ w S (mv ρ τ r) u:=by
 have one:∀ {r:AV} {u:Value},bare1 r=true→VR Hh μh w' S' r u→VR H μ w S r u:=fun {r u} h hv=>by
  cases r<;>simp[bare1] at h<;>(cases hv with|pv h=>cases h;exact .pv (by constructor))
 by_cases ht:∃vs,r= .tup vs
 ·obtain ⟨vs,rfl⟩:=ht
  cases hv with
  |pv h=>cases h
  |tup _ us hl hc=>
   refine .tup _ _ (by simpa using hl) fun i hi=> ?_
   have hi':i<vs.length:=by simpa using hi
   have hb:bare1 (nth .junk vs i)=true:=List.all_eq_true.1 h _ (by rw[nth_lt _ _ _ hi'];exact List.getElem_mem hi')
   rw[nth_map AV.junk AV.junk (mv2 ρ τ) vs i hi',bare1_mv hb]
   exact one hb (hc i hi')
 ·have e:mv ρ τ r=mv2 ρ τ r:=by cases r<;>first|rfl|exact absurd ⟨_,rfl⟩ ht
  have hb:bare1 r=true:=by cases r<;>first|exact h|exact absurd ⟨_,rfl⟩ ht
  rw[e,bare1_mv hb]
  exact one hb hv
theorem call_after {cx:Cx} {base:Nat} {f:FuncId} {args:List AV} {us:Array Value} (hC:CSound cx.P cx.C) (hr:RepAt w0 S0 H μ S w) (hf:FreeAt H base 8) (hl:args.length=us.size) (ha:∀i,i<args.length→VR H μ w S (nth .junk args i) (us.getD i undef))
  (hc:(callE cx H base f args).chk=true):(∃fn,cx.P.funcs[f]?=some fn∧(fn.name== "runtime.NumGoroutine")=false∧fn.body.isNone=false)∧Calls cx.P f us w fun e w'=>∃v,e= .returned v∧After w0 S0 H μ S w (callE cx H base f args) v w':=by
 unfold callE at hc⊢
 cases hcond:(!(anyRef (cx.mode f))&&bareR (callR cx H f args)) with
 | true=>
  rw[hcond] at hc
  simp only[cond_true] at hc⊢
  simp only[Bool.and_eq_true,Bool.not_eq_true'] at hcond
  obtain ⟨hms,hbr⟩:=hcond
  simp only[bareR,Bool.and_eq_true,List.isEmpty_iff] at hbr
  obtain ⟨hbare,hheap⟩:=hbr
  simp only[callAt,Bool.and_eq_true,Nat.ble_eq] at hc
  obtain ⟨c1,_,_,_,c5⟩:=hc
  obtain ⟨hp1,hp2,hp3⟩:=passA_view (H:=H) (ord:=ordA H (cx.mode f) args) (cx.mode f) args hms
  rw[hp3] at c1
  have hst:∀B,SC H μ S (args.flatMap fun x=>refs x++deepC H x) B→B<w.heap.size:=fun B h=>by
   rcases h with h|⟨b,_,h1,h2⟩
   ·exact hr.hr.stab B h
   ·exact hr.hr.old h1 h2
  have hord:ordA H (cx.mode f) args=[]:=by simp only[ordA,hp2];rfl
  have hCf:=hC f (passA H (ordA H (cx.mode f) args) (cx.mode f) args) (renH 0 H (ordA H (cx.mode f) args)) us w (SC H μ S (args.flatMap fun x=>refs x++deepC H x)) (fun B=>w.heap.size≤B) (fun _=>undef) c5 (by rw[passA_length];exact hl)
   (by rw[hord];exact HR.nil hst (hr.hr.glob.mono (fun _ h=> .inl h) fun _ _=>rfl)) (fun _ h=>h) (fun i hi=>by
    rw[passA_length] at hi
    have hmem:nth .junk args i∈args:=by rw[nth_lt _ _ _ hi];exact List.getElem_mem hi
    rw[hp1,nth_map AV.junk AV.junk (viewA H) args i hi]
    exact .pv (viewA_sound hr.hr (ha i hi) (List.all_eq_true.1 c1 _ hmem) fun b hb=>List.mem_flatMap.2 ⟨_,hmem,hb⟩))
  refine ⟨hCf.1,Calls.mono hCf.2 fun e w' h=> ?_⟩
  obtain ⟨v,rfl,hkept,μh,S',_,_,_,_,_,hval⟩:=h
  refine ⟨v,rfl,?_⟩
  have hgr:Grow w w':=⟨hkept.os,hkept.tape,hkept.output,hkept.size,fun B h=>hkept.block B h (by omega)⟩
  have hwr:(callAt cx H [] base f args).wr=[]:=by
   simp only[callAt,List.nil_append]
   rw[hheap];rfl
  refine ⟨μ,S,?_,?_,fun _ h=>h,fun B h=>hgr.old B (hr.hr.stab B h),?_⟩
  ·rw[hwr]
   exact ⟨hr.hr.more hgr (fun _ h=>h) (fun _ h=> .inl h) fun B h=>Nat.lt_of_lt_of_le (hr.hr.stab B h) hgr.size,hgr.below hr.below,hr.sub,hr.sup,hr.fresh,hr.pins⟩
  ·rw[hwr];exact Ext.refl _ _
  ·simp only[callAt]
   exact bare_back hbare hval
 | false=>
  rw[hcond] at hc
  simp only[cond_false,Bool.and_eq_true,Bool.not_eq_true'] at hc⊢
  obtain ⟨c0,hc⟩:=hc
  have hfr:=hr.hr.frozen ((byView (cx.mode f) args).flatMap refs)
  have hn:=frozenB_nth H ((byView (cx.mode f) args).flatMap refs) H (fun _=> .inl rfl) rfl
  have hr1:RepAt w0 S0 (sets H (frzA H (cx.mode f) args)) μ (SF H μ S ((byView (cx.mode f) args).flatMap refs)) w:=
   ⟨hfr.1,hr.below,fun B h=> .inl (hr.sub B h),fun B h=>(hfr.2 B h).elim (hr.sup B) .inr,hr.fresh,hr.pins.ext (Ext.frozen _)⟩
  have hf1:FreeAt (sets H (frzA H (cx.mode f) args)) base 8:=fun i hi=>by
   have:=hf i hi
   refine ⟨?_,by rw[frzA,sets_length];exact this.2⟩
   show nth .free (sets H (frozenB H _)) _=_
   rw[hn,this.1];cases ((byView (cx.mode f) args).flatMap refs).contains (base+i)<;>rfl
  have main:=callAt_after (f:=f) (frz:=frzA H (cx.mode f) args) hC hr1 hf1 hl (fun i hi=>(ha i hi).mono (Ext.frozen _) (fun _ h=> .inl h) (fun _ _=>rfl)) (fun x hx u hvx hp=>by
   have hnc:isClo x=false:=by
    cases h:isClo x with
    |false=>rfl
    |true=>
     have:(byView (cx.mode f) args).any isClo=true:=List.any_eq_true.2 ⟨x,hx,h⟩
     rw[this] at c0;cases c0
   by_cases hrp:∃cs j,x= .rptr cs j
   ·obtain ⟨cs,j,rfl⟩:=hrp
    exact vr_rptr hvx
   ·have e:viewA (sets H (frzA H (cx.mode f) args)) x=view (sets H (frzA H (cx.mode f) args)) x:=by cases x<;>first|rfl|(simp[isClo] at hnc;done)|exact absurd ⟨_,_,rfl⟩ hrp
    rw[e] at hp⊢
    refine view_fro hr1.hr hvx (pureA_isV hnc hp) fun b hb=> ?_
    have hm:((byView (cx.mode f) args).flatMap refs).contains b=true:=by
     simp only[List.contains_iff_mem]
     exact List.mem_flatMap.2 ⟨x,hx,hb⟩
    show isOwnB (nth .free (sets H (frozenB H _)) _)=_
    rw[hn,hm]
    cases nth .free H b<;>rfl) hc
  refine ⟨main.1,Calls.mono main.2 fun e w' h=> ?_⟩
  obtain ⟨v,rfl,μ',S',h1,h2,h3,h4,h5⟩:=h
  refine ⟨v,rfl,μ',S',?_,?_,fun B h=>h3 B (.inl h),fun B h=>h4 B (.inl h),?_⟩
  ·simp only[callAt,sets_append];exact h1
  ·simp only[callAt,sets_append];exact (Ext.frozen _).trans h2
  ·simp only[callAt,sets_append] at h5⊢;exact h5
end
end Go.Abs
