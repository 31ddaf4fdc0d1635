/- Calls: what is handed over, what comes back. -/
import Derived.Test.YtiglikocfjhkcaaDoorA7
set_option linter.all false
set_option linter.unusedVariables false
set_option linter.unusedSimpArgs false
namespace Go.Abs
variable [Globs]
open Go.RowKit (Below)
section
variable {H:List Blk} {μ:Nat→Value} {w:World} {S:Nat→Prop} {P:Program} {w0:World} {S0:Sc}
theorem idx_spec {b:Nat}:∀(l:List Nat) (n c:Nat),idx b l n=some c→n≤c∧c-n<l.length∧nth 0 l (c-n)=b
 |[],_,_,h=>by simp[idx] at h
 | x::l,n,c,h=>by
  simp only[idx] at h
  cases hx:(x==b) with
  |true=>
   rw[hx] at h
   simp only[cond_true,Option.some.injEq] at h
   subst h
   exact ⟨Nat.le_refl _,by simp,by simp only[Nat.sub_self,nth];simpa using hx⟩
  |false=>
   rw[hx] at h
   obtain ⟨h1,h2,h3⟩:=idx_spec l (n+1) c h
   refine ⟨by omega,by simp;omega,?_⟩
   rw[show c-n=(c-(n+1))+1 by omega]
   exact h3
theorem reach_nodup:∀(d:Nat) (todo seen:List Nat),seen.Nodup→(reach H d todo seen).Nodup
 |0,_,_,h=>h
 |_+1,[],_,h=>h
 | d+1,b::todo,seen,h=>by
  simp only[reach]
  cases hc:seen.contains b with
  |true=>exact reach_nodup d todo seen h
  |false=>
   simp only[cond_false]
   refine reach_nodup d _ _ ?_
   rw[List.nodup_append]
   refine ⟨h,by simp,fun a ha c hb=> ?_⟩
   simp only[List.mem_singleton] at hb
   subst hb
   intro e
   subst e
   simp at hc
   exact hc ha
theorem nth_inj {l:List Nat} (h:l.Nodup) {i j:Nat} (hi:i<l.length) (hj:j<l.length) (e:nth 0 l i=nth 0 l j):i=j:=by
 rw[nth_lt _ _ _ hi,nth_lt _ _ _ hj] at e
 have hp:=List.pairwise_iff_getElem.1 h
 rcases Nat.lt_trichotomy i j with hlt|hlt|hlt
 ·exact absurd e (hp i j hi hj hlt)
 ·exact hlt
 ·exact absurd e.symm (hp j i hj hi hlt)
def renM (μ:Nat→Value) (ord:List Nat) (c:Nat):Value:=μ (nth 0 ord c)
theorem renHs_length {pin:Nat} {ord:List Nat}:∀(l:List Nat) (c:Nat),(renHs pin H ord l c).length=l.length
 |[],_=>rfl
 |_::l,c=>by simp[renHs,renHs_length l (c+1)]
theorem renH_length {pin:Nat} {ord:List Nat}:(renH pin H ord).length=ord.length:=renHs_length ord 0
theorem renHs_nth {pin:Nat} {ord:List Nat}:∀(l:List Nat) (c i:Nat),i<l.length→nth .free (renHs pin H ord l c) i=renB pin (c+i) H ord (nth .free H (nth 0 l i))
 |[],_,i,h=>by simp at h
 |b::l,c,0,_=>rfl
 |b::l,c,i+1,h=>by
  have:=renHs_nth (pin:=pin) (ord:=ord) l (c+1) i (by simpa using h)
  simp only[renHs,nth]
  rw[this,show c+1+i=c+(i+1) by omega]
theorem renH_nth {pin:Nat} {ord:List Nat} {c:Nat} (h:c<ord.length):nth .free (renH pin H ord) c=renB pin c H ord (nth .free H (nth 0 ord c)):=by
 have:=renHs_nth (H:=H) (pin:=pin) (ord:=ord) ord 0 c h
 rw[Nat.zero_add] at this
 exact this
theorem verOf_rd {b:Nat} {r:Rd} (h:rdOf (nth .free H b)=some r):verOf H b=r.ver:=by simp[verOf,h]
theorem renB_rd {pin c:Nat} {ord:List Nat} {x:Blk} {r:Rd} (h:rdOf x=some r):rdOf (renB pin c H ord x)=some {r with ver:=nv (Nat.blt c pin) r.ver}:=by
 cases x<;>simp[rdOf] at h<;>subst h<;>rfl
theorem HR.iterB {base:Nat→Prop} {b:Nat} (h:HR H μ w S base) {ka va:Bool} {kk vk:CK} {rest cur:List (CT kk×CT vk)} (hb:nth .free H b= .iter ka va kk vk rest cur):∃I,μ b= .pointer (some ⟨I,0,none⟩)∧base I∧¬S I∧IterAt w S ka va kk vk rest cur I:=by
 have:=h.blk b
 rw[hb] at this
 exact this
theorem isMapB_ren {pin c:Nat} {ord:List Nat} {x:Blk}:isMapB (renB pin c H ord x)=isMapB x:=by cases x<;>rfl
theorem isIterB_ren {pin c:Nat} {ord:List Nat} {x:Blk}:isIterB (renB pin c H ord x)=isIterB x:=by cases x<;>rfl
theorem verOf_tab {b:Nat} {d:TD} (h:tabD (nth .free H b)=some d):verOf H b=d.ver:=by
 have hr:rdOf (nth .free H b)=none:=by cases hx:nth .free H b<;>rw[hx] at h<;>first|rfl|cases h
 simp only[verOf,hr,h]
theorem vpOf_tab {b:Nat} {d:TD} {p:Pth} (h:tabD (nth .free H b)=some d):vpOf H b p=d.vp p:=by simp only[vpOf,h]
def TD.nv (q:Bool) (d:TD):TD:={d with ver:=Abs.nv q d.ver,iv:=Abs.nv q d.iv}
theorem TD.nv_vp {q:Bool} {d:TD} {p:Pth}:(d.nv q).vp p=Abs.nv q (d.vp p):=by cases p<;>rfl
theorem renB_tab {pin c:Nat} {ord:List Nat} {x:Blk} {d:TD} (h:tabD x=some d):tabD (renB pin c H ord x)=some (d.nv (Nat.blt c pin)):=by
 cases x<;>first|(cases h;done)|(simp only[tabD,Option.some.injEq] at h;subst h;rfl)
theorem ren1_sound {pin:Nat} {ord:List Nat} {v:AV} {u:Value} (h:VR H μ w S v u):VR (renH pin H ord) (renM μ ord) w S (ren1 pin H ord v) u:=by
 cases h with
 |pv h=>
  have h':=h
  cases h<;>first|exact .pv h'|exact .junk _
 | ptr b off cs B h1 h2=>
  simp only[ren1]
  cases hi:idx b ord 0 with
  |none=>exact .junk _
  |some c=>
   obtain ⟨_,q2,q3⟩:=idx_spec ord 0 c hi
   simp only[Nat.sub_zero] at q2 q3
   exact .ptr c off (cs.map (ren pin H ord)) B (by rw[renH_nth q2,q3,h1];rfl) (by simp[renM,q3,h2])
 | csl b off n cs B cap h1 h2 h3=>
  simp only[ren1]
  cases hi:idx b ord 0 with
  |none=>exact .junk _
  |some c=>
   obtain ⟨_,q2,q3⟩:=idx_spec ord 0 c hi
   simp only[Nat.sub_zero] at q2 q3
   exact .csl c off n (cs.map (ren pin H ord)) B cap (by rw[renH_nth q2,q3,h1];rfl) (by simp[renM,q3,h2]) h3
 | mp b B h1 h2=>
  simp only[ren1]
  cases hi:idx b ord 0 with
  |none=>exact .junk _
  |some c=>
   obtain ⟨_,q2,q3⟩:=idx_spec ord 0 c hi
   simp only[Nat.sub_zero] at q2 q3
   exact .mp c B (by rw[renH_nth q2,q3,isMapB_ren];exact h1) (by simp[renM,q3,h2])
 | it b B h1 h2=>
  simp only[ren1]
  cases hi:idx b ord 0 with
  |none=>exact .junk _
  |some c=>
   obtain ⟨_,q2,q3⟩:=idx_spec ord 0 c hi
   simp only[Nat.sub_zero] at q2 q3
   exact .it c B (by rw[renH_nth q2,q3,isIterB_ren];exact h1) (by simp[renM,q3,h2])
 | eptr b ver i j r B o h1 h2 h3=>
  simp only[ren1]
  cases hi:idx b ord 0 with
  |none=>exact .junk _
  | some c=>
   obtain ⟨_,q2,q3⟩:=idx_spec ord 0 c hi
   simp only[Nat.sub_zero] at q2 q3
   simp only[verOf_rd h1]
   cases hv:(ver==r.ver) with
   |false=>exact .junk _
   |true=>
    have hv':ver=r.ver:=by simpa using hv
    exact .eptr c (nv (Nat.blt c pin) ver) i j {r with ver:=nv (Nat.blt c pin) r.ver} B o (by rw[renH_nth q2,q3];exact renB_rd h1) (by rw[hv'];exact Nat.le_refl _) fun _=>by simpa [renM,q3,Rd.sz,Rd.n] using h3 hv'
 | sl b ver off lw len r A c h1 h2 h3 h4 h5=>
  simp only[ren1]
  cases hi:idx b ord 0 with
  |none=>exact .junk _
  | some c'=>
   obtain ⟨_,q2,q3⟩:=idx_spec ord 0 c' hi
   simp only[Nat.sub_zero] at q2 q3
   simp only[verOf_rd h1]
   cases hv:(ver==r.ver) with
   |false=>exact .junk _
   |true=>
    have hv':ver=r.ver:=by simpa using hv
    exact .sl c' (nv (Nat.blt c' pin) ver) off lw len {r with ver:=nv (Nat.blt c' pin) r.ver} A c (by rw[renH_nth q2,q3];exact renB_rd h1) (by rw[hv'];exact Nat.le_refl _) h3 h4 fun _=>by simpa [renM,q3,Rd.sz,Rd.n] using h5 hv'
 | tptr b ver p i j d B o h1 h2 h3=>
  simp only[ren1]
  cases hi:idx b ord 0 with
  |none=>exact .junk _
  | some c'=>
   obtain ⟨_,q2,q3⟩:=idx_spec ord 0 c' hi
   simp only[Nat.sub_zero] at q2 q3
   simp only[vpOf_tab h1]
   cases hv:(ver==d.vp p) with
   |false=>exact .junk _
   |true=>
    have hv':ver=d.vp p:=by simpa using hv
    exact .tptr c' (nv (Nat.blt c' pin) ver) p i j (d.nv (Nat.blt c' pin)) B o (by rw[renH_nth q2,q3];exact renB_tab h1) (by rw[TD.nv_vp,hv'];exact Nat.le_refl _) fun _=>by rw[show renM μ ord c'=μ b by simp[renM,q3]];exact h3 hv'
 | tsl b ver p d n A c h1 h2 h3=>
  simp only[ren1]
  cases hi:idx b ord 0 with
  |none=>exact .junk _
  | some c'=>
   obtain ⟨_,q2,q3⟩:=idx_spec ord 0 c' hi
   simp only[Nat.sub_zero] at q2 q3
   simp only[vpOf_tab h1]
   cases hv:(ver==d.vp p) with
   |false=>exact .junk _
   |true=>
    have hv':ver=d.vp p:=by simpa using hv
    exact .tsl c' (nv (Nat.blt c' pin) ver) p (d.nv (Nat.blt c' pin)) n A c (by rw[renH_nth q2,q3];exact renB_tab h1) (by rw[TD.nv_vp,hv'];exact Nat.le_refl _) fun _=>by rw[show renM μ ord c'=μ b by simp[renM,q3]];exact h3 hv'
 |agg cs vs hl hc=>exact .junk _
 |tup cs vs hl hc=>exact .junk _
 |clo f cs vs hl hc=>exact .junk _
 |when g v u hc _=>exact .junk _
theorem ren_sound {pin:Nat} {ord:List Nat} {v:AV} {u:Value} (h:VR H μ w S v u):VR (renH pin H ord) (renM μ ord) w S (ren pin H ord v) u:=by
 by_cases ha:∃cs,v= .agg cs
 ·obtain ⟨cs,rfl⟩:=ha
  have key:∀ {vs:Array Value},cs.length=vs.size→(∀i,i<cs.length→VR H μ w S (nth .junk cs i) (vs.getD i undef))→VR (renH pin H ord) (renM μ ord) w S (ren pin H ord (.agg cs)) (.agg vs):=fun hl hc=>by
   refine .agg _ _ (by simpa using hl) fun i hi=> ?_
   have hi':i<cs.length:=by simpa using hi
   rw[nth_map AV.junk AV.junk (ren1 pin H ord) cs i hi']
   exact ren1_sound (hc i hi')
  cases h with
  |pv h=>cases h with|agg _ _ hl hc=>exact key hl fun i hi=> .pv (hc i hi)
  |agg _ _ hl hc=>exact key hl hc
 ·by_cases hc:∃f cs,v= .clo f cs
  ·obtain ⟨f,cs,rfl⟩:=hc
   have key:∀ {vs:Array Value},cs.length=vs.size→(∀i,i<cs.length→VR H μ w S (nth .junk cs i) (vs.getD i undef))→VR (renH pin H ord) (renM μ ord) w S (ren pin H ord (.clo f cs)) (cloV f vs):=fun hl hc=>by
    refine .clo _ _ _ (by simpa using hl) fun i hi=> ?_
    have hi':i<cs.length:=by simpa using hi
    rw[nth_map AV.junk AV.junk (ren1 pin H ord) cs i hi']
    exact ren1_sound (hc i hi')
   cases h with
   |pv h=>cases h with|clo _ _ _ hl hc=>exact key hl fun i hi=> .pv (hc i hi)
   |clo _ _ _ hl hc=>exact key hl hc
  ·have:ren pin H ord v=ren1 pin H ord v:=by cases v<;>first|rfl|exact absurd ⟨_,rfl⟩ ha|exact absurd ⟨_,_,rfl⟩ hc
   rw[this];exact ren1_sound h
theorem ren_HR {pin:Nat} {M M':Nat→Prop} {ord:List Nat} (hn:ord.Nodup) (hh:HR H μ w S M) (hM:∀b,b∈ord→(nth .free H b).live→∀B,Owns (μ b) B→M' B):HR (renH pin H ord) (renM μ ord) w S M':=by
 have hlen:(renH pin H ord).length=ord.length:=renH_length
 refine ⟨fun c=> ?_,fun c c' B h1 h2 hne h3=> ?_,hh.stab,hh.glob⟩
 ·rcases Nat.lt_or_ge c ord.length with hc|hc
  ·rw[renH_nth hc]
   have hmem:nth 0 ord c∈ord:=by rw[nth_lt _ _ _ hc];exact List.getElem_mem hc
   have hb:=hh.blk (nth 0 ord c)
   have hM':=hM _ hmem
   cases hx:nth .free H (nth 0 ord c) with
   |free=>trivial
   |cells cs=>
    rw[hx] at hb hM'
    obtain ⟨B,arr,t,e1,e2,e3,e4,e5,e6⟩:=hb
    refine ⟨B,arr,t,e1,e2,hM' trivial B (by rw[e1];rfl),e4,by simpa using e5,fun i hi=> ?_⟩
    have hi':i<cs.length:=by simpa using hi
    rw[nth_map AV.junk AV.junk (ren pin H ord) cs i hi']
    exact ren_sound (e6 i hi')
   |map ka va kk vk m=>
    rw[hx] at hb hM'
    obtain ⟨B,e1,e3,e4,e5⟩:=hb
    exact ⟨B,e1,hM' trivial B (by rw[e1];rfl),e4,e5⟩
   |iter ka va kk vk rest cur=>
    rw[hx] at hb hM'
    obtain ⟨B,e1,e3,e4,e5⟩:=hb
    exact ⟨B,e1,hM' trivial B (by rw[e1];rfl),e4,e5⟩
   |fmap ka va kk vk m=>rw[hx] at hb;exact hb
   |row ver e k xs=>
    rw[hx] at hb hM'
    refine ⟨hb.1,?_⟩
    rcases hb.2 with h|⟨B,o,cap,cur,h0,h1,h2⟩
    ·exact .inl h
    ·exact .inr ⟨B,o,cap,cur,h0,hM' trivial B (by rw[h0];rfl),h2⟩
   |fro ver e k xs=>rw[hx] at hb;exact hb
   | tab fz ver iv e k os xs hole=>
    rw[hx] at hb hM'
    cases fz with
    |true=>exact hb
    |false=>
     exact ⟨hb.1,hb.2.own fun B hB=>hM' trivial B hB⟩
  ·rw[nth_ge _ _ _ (by omega)];trivial
 ·have lt:∀c,(nth .free (renH pin H ord) c).live→c<ord.length:=fun c h=>Nat.lt_of_not_le fun hc=>by
   rw[nth_ge _ _ _ (by omega)] at h;exact h
  have hc:=lt c h1
  have hc':=lt c' h2
  rw[renH_nth hc] at h1
  rw[renH_nth hc'] at h2
  have live:∀c x,(renB pin c H ord x).live→x.live:=fun c x h=>by cases x<;>first|trivial|exact h|(rename_i fz _ _ _ _ _ _ _;cases fz<;>exact h)
  exact hh.inj _ _ B (live _ _ h1) (live _ _ h2) (fun e=>hne (nth_inj hn hc hc' e)) h3
theorem pureA_isV {x:AV} (hn:isClo x=false) (h:pureA (view H x)=true):isV x=true:=by
 cases x<;>first|rfl|(simp[view,view1,pureA,pure1] at h;done)|simp[isClo] at hn
def SC (H:List Blk) (μ:Nat→Value) (S:Nat→Prop) (l:List Nat) (B:Nat):Prop:=S B∨∃b,b∈l∧nth .free H b≠ .free∧Owns (μ b) B
theorem view1_SC {base:Nat→Prop} (hh:HR H μ w S base) {v:AV} {u:Value} (h:VR H μ w S v u) {l:List Nat} (hl:∀b∈refs1 v,b∈l):PV w (SC H μ S l) (view1 H v) u:=
 view1_sound hh h (fun _ h=> .inl h) (fun b hb r B hr hB=> .inr ⟨b,hl b hb,fun e=>by rw[e] at hr;simp[rdOf] at hr,hB⟩) (fun b hb B hm hB=> .inr ⟨b,hl b hb,(fun e=>by rw[e] at hm;simp[isMapB,Abs.mapD] at hm),hB⟩) fun b hb d B hd hB=> .inr ⟨b,hl b hb,(fun e=>by rw[e] at hd;cases hd),hB⟩
theorem viewC_sound {base:Nat→Prop} (hh:HR H μ w S base) {v:AV} {u:Value} (h:VR H μ w S v u) {l:List Nat} (hl:∀b∈deepC1 H v,b∈l):PV w (SC H μ S l) (viewC H v) u:=by
 by_cases hp:∃b off,v= .ptr b off
 ·obtain ⟨b,off,rfl⟩:=hp
  cases h with
  |pv h=>cases h
  | ptr _ _ cs B h1 h2=>
   obtain ⟨B',arr,ty,hm,hg,hbase,hnS,hsz,hcs⟩:=hh.cellsB h1
   have hBB:B=B':=by rw[h2] at hm;simpa using hm
   subst hBB
   simp only[viewC,h1]
   have hlen:(cs.map (view1 H)).length=cs.length:=by simp
   have hpv:=PV.rptr (w:=w) (S:=SC H μ S l) (cs.map (view1 H)) off B 0 (fun i=>arr.getD i undef) (Or.inr ⟨b,hl b (by simp[deepC1]),by rw[h1];simp,by rw[h2];rfl⟩)
   rw[Nat.zero_add] at hpv
   refine hpv (fun i hi=> ?_) fun i hi=> ?_
   ·rw[hlen] at hi
    have hlt:i<arr.size:=by omega
    rw[Nat.zero_add,cell_of_row w B _ arr _ (0,0) hg,Array.getD_eq_getD_getElem?,Array.getElem?_eq_getElem hlt];rfl
   ·rw[hlen] at hi
    rw[nth_map AV.junk AV.junk (view1 H) cs i hi]
    refine view1_SC hh (hcs i hi) fun b' hb'=>hl b' ?_
    simp only[deepC1,h1,blkRefs]
    refine List.mem_cons_of_mem _ (List.mem_flatMap.2 ⟨nth .junk cs i,by rw[nth_lt _ _ _ hi];exact List.getElem_mem hi,?_⟩)
    cases hx:nth .junk cs i<;>rw[hx] at hb'<;>first|exact hb'|simp[refs1] at hb'
 ·have e1:viewC H v=view1 H v:=by cases v<;>first|rfl|exact absurd ⟨_,_,rfl⟩ hp
  have e2:deepC1 H v=refs v:=by cases v<;>first|rfl|exact absurd ⟨_,_,rfl⟩ hp
  rw[e1]
  rw[e2] at hl
  exact view1_SC hh h fun b hb=>hl b (by cases v<;>first|exact hb|simp[refs1] at hb)
theorem viewA_sound {base:Nat→Prop} (hh:HR H μ w S base) {x:AV} {v:Value} (hv:VR H μ w S x v) (hp:pureA (viewA H x)=true) {l:List Nat} (hl:∀b∈refs x++deepC H x,b∈l):PV w (SC H μ S l) (viewA H x) v:=by
 cases hc:isClo x with
 | false=>
  by_cases hrp:∃cs j,x= .rptr cs j
  ·obtain ⟨cs,j,rfl⟩:=hrp
   exact (vr_rptr hv).mono (fun _ h=> .inl h) (fun _ _=>rfl)
  have e:viewA H x=view H x:=by cases x<;>first|rfl|(simp[isClo] at hc;done)|exact absurd ⟨_,_,rfl⟩ hrp
  rw[e] at hp⊢
  refine (view_sound hh hv (pureA_isV hc hp) (l:=l) fun b hb=>hl b (List.mem_append_left _ hb)).mono (fun B h=> ?_) (fun _ _=>rfl)
  rcases h with h|⟨b,hb,hr1,hB⟩
  ·exact .inl h
  ·exact .inr ⟨b,hb,own_free hr1,hB⟩
 | true=>
  cases x<;>simp[isClo] at hc
  ·exact viewC_sound hh hv fun b hb=>hl b (List.mem_append_right _ hb)
  rename_i f caps
  have key:∀ {us:Array Value},caps.length=us.size→(∀i,i<caps.length→VR H μ w S (nth .junk caps i) (us.getD i undef))→PV w (SC H μ S l) (viewA H (.clo f caps)) (cloV f us):=fun hlen hc=>by
   refine .clo f _ _ (by simpa using hlen) fun i hi=> ?_
   have hi':i<caps.length:=by simpa using hi
   rw[nth_map AV.junk AV.junk (viewC H) caps i hi']
   exact viewC_sound hh (hc i hi') fun b hb=>hl b (List.mem_append_right _ (List.mem_flatMap.2 ⟨_,by rw[nth_lt _ _ _ hi'];exact List.getElem_mem hi',hb⟩))
  cases hv with
  |pv h=>cases h with|clo _ _ _ hlen hc=>exact key hlen fun i hi=> .pv (hc i hi)
  |clo _ _ _ hlen hc=>exact key hlen hc
end
end Go.Abs
