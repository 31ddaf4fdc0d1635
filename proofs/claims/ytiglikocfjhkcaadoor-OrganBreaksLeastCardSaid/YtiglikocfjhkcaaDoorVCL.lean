/- OrganProofsSound and OrganBreaksLeast: the laws, plain. -/
import Derived.Test.YtiglikocfjhkcaaDoorVC
set_option linter.all false
set_option linter.unusedVariables false
set_option linter.unusedSimpArgs false
open Go Go.Abs Go.Proofs
namespace Go.Proofs.YtiglikocfjhkcaaDoor
theorem bytesD3:Tryd.prog.bytesOf 3=8:=by kernel_rfl
theorem bytesD50:Tryd.prog.bytesOf 50=32:=by kernel_rfl
theorem bytesD59:Tryd.prog.bytesOf 59=56:=by kernel_rfl
section
variable {k w h:Int} {c:List Int} {ms:List Mo} {i o dl:Int} {n p:List (List Int)} {l:List (List Bool)}
theorem pv_asked (h0:(pvM (k,w,h,c,ms,i,o,dl,n,p,l)).2.2=0):askedM (k,w,h,c,ms,i,o,dl,n,p,l)=0:=by
 by_cases ha:askedM (k,w,h,c,ms,i,o,dl,n,p,l)=0
 ·exact ha
 ·simp only[pvM,ha,decide_false,cond_false] at h0
theorem S1_tt:lawSound_S1 k w h c ms i o dl n p l=resB true:=by
 show (bif (pvM (k,w,h,c,ms,i,o,dl,n,p,l)).2.2 !=0 then resB true else bif decide (((pvM (k,w,h,c,ms,i,o,dl,n,p,l)).2.1.length:Int)>0) then resB true else resB (decide (((pvM (k,w,h,c,ms,i,o,dl,n,p,l)).1.length:Int)>0)))=resB true
 rw[beq_ne]
 by_cases h0:(pvM (k,w,h,c,ms,i,o,dl,n,p,l)).2.2=0
 ·by_cases h1:(((pvM (k,w,h,c,ms,i,o,dl,n,p,l)).2.1.length:Int)>0)
  ·rw[decide_eq_true h0,decide_eq_true h1];rfl
  ·have h2:(pvM (k,w,h,c,ms,i,o,dl,n,p,l)).2=([],0):=Prod.ext (List.eq_nil_of_length_eq_zero (by omega)) h0
   have:=(pv_accepted (pv_asked h0) h2).2
   rw[decide_eq_true h0,decide_eq_false h1,decide_eq_true (show ((pvM (k,w,h,c,ms,i,o,dl,n,p,l)).1.length:Int)>0 by omega)]
   rfl
 ·rw[decide_eq_false h0];rfl
theorem keeps_tt {st:List Int} {S:List Sit} (hst:st.length<big) (ha:askedM (k,w,h,c,ms,i,o,dl,n,p,l)=0) (hf:∀s∈S,fB k w h ms o dl n s=true) (C:Closed (ltF k w h ms n p) (letF l) (2^i.toNat) (c,0,List.replicate dl.toNat 0) S):
  (bif oTellOk (i,o,dl,n,p,l,st) then bif (oTellM (i,o,dl,n,p,l,st)).2.2 !=0 then resB true else bif decide ((oTellM (i,o,dl,n,p,l,st)).2.1<(st.length:Int)) then resB true else
   bif oTellOk (i,o,dl,n,p,l,st) then bif oRunOk (k,w,h,c,ms,st) then bif decide ((oTellM (i,o,dl,n,p,l,st)).2.2=0) then bif decide ((oRunM (k,w,h,c,ms,st)).2.2.2.2.2.2=0) then
    bif sameIntsOk ((oRunM (k,w,h,c,ms,st)).1,(oTellM (i,o,dl,n,p,l,st)).1) then resB (sameIntsM ((oRunM (k,w,h,c,ms,st)).1,(oTellM (i,o,dl,n,p,l,st)).1)) else badR else resB false else resB false else badR else badR else badR)=resB true:=by
 obtain ⟨v,ct,hci⟩:=asked0 ha
 have hlate:=ct.late
 have hcon:contractOk i o dl n p l=true:=by
  simp only[askedM] at ha
  rw[v.to] at ha
  cases hc:contractOk i o dl n p l with
  |true=>rfl
  |false=>rw[hc] at ha;simp at ha
 rw[show oTellOk (i,o,dl,n,p,l,st)=true from decide_eq_true hst,show oTellM (i,o,dl,n,p,l,st)=tellM (i,o,dl,n,p,l,st) from rfl]
 simp only[tellM,hcon,cond_true]
 cases hs:st.all (fineB i)&&decide ((st.length:Int)≤4096) with
 |false=>rfl
 | true=>
  simp only[cond_true,bne_self_eq_false,cond_false]
  have hs':=hs
  simp only[Bool.and_eq_true,decide_eq_true_eq] at hs'
  have hle:=letsIn_le n l 0 st
  by_cases hlt:letsIn n l 0 st<st.length
  ·rw[decide_eq_true (show ((letsIn n l 0 st:Nat):Int)<(st.length:Int) by omega)];rfl
  ·rw[decide_eq_false (show ¬((letsIn n l 0 st:Nat):Int)<(st.length:Int) by omega)]
   obtain ⟨r1,r2⟩:=run_sound C (fun s hsm=>by
    have:=hf s hsm
    simp only[fB,formB,Bool.and_eq_true,decide_eq_true_eq] at this
    omega) st (c,0,List.replicate dl.toNat 0) [] C.first (fine_spec ct.ins hs'.1) (by show letsIn n l 0 st=st.length;omega)
   obtain ⟨hw,hh,hcl,_,hml,_,_⟩:=orgG_spec v.good
   have hlen:w*h≤24*24:=Int.mul_le_mul hw.2 hh.2 (by omega) (by omega)
   have hrun:oRunM (k,w,h,c,ms,st)=((runL k w h ms st c []).1,k,w,h,(runL k w h ms st c []).2.1,ms,0):=by
    simp only[oRunM,runM,v.to,hci,hs,r1,Bool.not_true,cond_false,cond_true]
   have r2':(runL k w h ms st c []).1=(List.replicate dl.toNat 0++saids n p 0 st).take st.length:=r2.trans (List.nil_append _)
   rw[hrun,show oRunOk (k,w,h,c,ms,st)=true from decide_eq_true ⟨by simp only[big];omega,by simp only[big];omega,hst⟩,r2']
   simp only[decide_true,cond_true,cond_false]
   have hsz:((List.replicate dl.toNat 0++saids n p 0 st).take st.length).length<big:=by rw[List.length_take];simp only[big] at hst⊢;omega
   generalize (List.replicate dl.toNat 0++saids n p 0 st).take st.length=t at hsz⊢
   show (bif decide (t.length<big) then resB (decide (t=t)) else badR)=resB true
   rw[decide_eq_true hsz,decide_eq_true rfl]
   rfl
theorem S2_tt {pr:List Sit} {st:List Int} {S:List Sit} (hst:st.length<big) (ha:askedM (k,w,h,c,ms,i,o,dl,n,p,l)=0) (hf:∀s∈S,fB k w h ms o dl n s=true) (C:Closed (ltF k w h ms n p) (letF l) (2^i.toNat) (c,0,List.replicate dl.toNat 0) S):
  lawSound_S2 k w h c ms i o dl n p l pr st=resB true:=by
 have:=keeps_tt (st:=st) hst ha hf C
 show (bif (ckM (k,w,h,c,ms,i,o,dl,n,p,l,pr)).2.2 !=0 then lawSound_S1 k w h c ms i o dl n p l else _)=resB true
 rw[S1_tt]
 cases (ckM (k,w,h,c,ms,i,o,dl,n,p,l,pr)).2.2 !=0 with
 |true=>rfl
 |false=>exact this
theorem S3_tt {pr:List Sit} {st:List Int} (hst:st.length<big):lawSound_S3 k w h c ms i o dl n p l pr st=resB true:=by
 show (bif !(ckM (k,w,h,c,ms,i,o,dl,n,p,l,pr)).1 then lawSound_S1 k w h c ms i o dl n p l else lawSound_S2 k w h c ms i o dl n p l pr st)=resB true
 rw[S1_tt]
 cases hc:(ckM (k,w,h,c,ms,i,o,dl,n,p,l,pr)).1 with
 |false=>rfl
 |true=>
  obtain ⟨ha,_,hf,C⟩:=ck_yes hc
  exact S2_tt hst ha hf C
theorem S4_tt {pr:List Sit} {st:List Int} (hst:st.length<big):lawSound_S4 k w h c ms i o dl n p l pr st=resB true:=by
 show (bif decide ((pvM (k,w,h,c,ms,i,o,dl,n,p,l)).2.2=0) then bif decide (((pvM (k,w,h,c,ms,i,o,dl,n,p,l)).2.1.length:Int)=0) then bif ckOk (k,w,h,c,ms,i,o,dl,n,p,l,(pvM (k,w,h,c,ms,i,o,dl,n,p,l)).1) then
  bif (ckM (k,w,h,c,ms,i,o,dl,n,p,l,(pvM (k,w,h,c,ms,i,o,dl,n,p,l)).1)).2.2 !=0 then resB false else bif !(ckM (k,w,h,c,ms,i,o,dl,n,p,l,(pvM (k,w,h,c,ms,i,o,dl,n,p,l)).1)).1 then resB false else
   bif (ckM (k,w,h,c,ms,i,o,dl,n,p,l,(pvM (k,w,h,c,ms,i,o,dl,n,p,l)).1)).2.1 !=((pvM (k,w,h,c,ms,i,o,dl,n,p,l)).1.length:Int) then resB false else bif decide (((pvM (k,w,h,c,ms,i,o,dl,n,p,l)).1.length:Int)=0) then resB false else lawSound_S2 k w h c ms i o dl n p l pr st
  else badR else lawSound_S3 k w h c ms i o dl n p l pr st else lawSound_S3 k w h c ms i o dl n p l pr st)=resB true
 rw[S3_tt hst]
 by_cases h0:(pvM (k,w,h,c,ms,i,o,dl,n,p,l)).2.2=0
 ·by_cases h1:(((pvM (k,w,h,c,ms,i,o,dl,n,p,l)).2.1.length:Int)=0)
  ·have ha:=pv_asked h0
   obtain ⟨v,ct,_⟩:=asked0 ha
   have h2:(pvM (k,w,h,c,ms,i,o,dl,n,p,l)).2=([],0):=Prod.ext (List.eq_nil_of_length_eq_zero (by omega)) h0
   obtain ⟨a1,a2⟩:=pv_accepted ha h2
   obtain ⟨⟨f1,f2⟩,_⟩:=pvM_few ha
   obtain ⟨hw,hh,hcl,_,hml,_,_⟩:=orgG_spec v.good
   have hlen:w*h≤24*24:=Int.mul_le_mul hw.2 hh.2 (by omega) (by omega)
   have hok:ckOk (k,w,h,c,ms,i,o,dl,n,p,l,(pvM (k,w,h,c,ms,i,o,dl,n,p,l)).1)=true:=by
    simp only[ckOk,Bool.and_eq_true,decide_eq_true_eq]
    exact ⟨⟨by simp only[big];omega,by simp only[big];omega,by simp only[big];omega⟩,List.all_eq_true.2 fun s hs=>form_fit ct (f2 s hs)⟩
   obtain ⟨_,_,hf,C⟩:=ck_yes (show (ckM (k,w,h,c,ms,i,o,dl,n,p,l,(pvM (k,w,h,c,ms,i,o,dl,n,p,l)).1)).1=true by rw[a1])
   rw[hok,a1,S2_tt hst ha hf C,decide_eq_true h0,decide_eq_true h1,decide_eq_false (show ¬((pvM (k,w,h,c,ms,i,o,dl,n,p,l)).1.length:Int)=0 by omega)]
   simp only[cond_true,bne_self_eq_false,cond_false,Bool.not_true]
  ·rw[decide_eq_true h0,decide_eq_false h1];rfl
 ·rw[decide_eq_false h0];rfl
end
theorem lawSound_plain (F:Nat) (k w h:Int) (c:List Int) (ms:List Mo) (i o dl:Int) (n p:List (List Int)) (l:List (List Bool)) (pr:List Sit) (st:List Int) (hz:ckOk (k,w,h,c,ms,i,o,dl,n,p,l,pr)=true) (hst:st.length<big):
  lawSound_run F (k,w,h,c,ms,i,o,dl,n,p,l,pr,st)={ok:=true,val:=AV.bool true}:=by
 refine (lawSound_arg F k w h c ms i o dl n p l pr st).trans ((lawSound_eq F k w h c ms i o dl n p l pr st).trans ?_)
 have hz':=hz
 simp only[ckOk,Bool.and_eq_true,decide_eq_true_eq] at hz'
 rw[show oCkOk (k,w,h,c,ms,i,o,dl,n,p,l,pr)=true from hz,show oPvOk (k,w,h,c,ms,i,o,dl,n,p,l)=true from decide_eq_true ⟨hz'.1.1,hz'.1.2.1⟩,S4_tt hst,
  show oCkM (k,w,h,c,ms,i,o,dl,n,p,l,pr)=ckM (k,w,h,c,ms,i,o,dl,n,p,l,pr) from rfl,show oPvM (k,w,h,c,ms,i,o,dl,n,p,l)=pvM (k,w,h,c,ms,i,o,dl,n,p,l) from rfl]
 simp only[cond_true]
 cases hc:(ckM (k,w,h,c,ms,i,o,dl,n,p,l,pr)).1 with
 |false=>rfl
 |true=>
  obtain ⟨ha,hl,hf,C⟩:=ck_yes hc
  obtain ⟨ts,e1,e2⟩:=pv_within C hl 20001
  have e:pvM (k,w,h,c,ms,i,o,dl,n,p,l)=(ts.map (·.1),[],0):=by simp only[pvM,ha,decide_true,cond_true,e1,pwR]
  rw[e]
  simp only[bne_self_eq_false,cond_false,List.length_nil,List.length_map,Int.natCast_zero,show ¬((0:Int)>0) by omega,show ¬((ts.length:Int)>(pr.length:Int)) by omega,decide_false,Bool.cond_self,cond_true]
  rfl
theorem lawSound_fin (y:CT lawSound_K) (hy:wfT Tryd.prog lawSound_K y):∃F,runF (cx_lawSound F) Tryd.f4 (groupA lawSound_sh (enc lawSound_K y)) []=⟨true, .bool true,[]⟩:=by
 obtain ⟨k,w,h,c,ms,i,o,dl,n,p,l,pr,st⟩:=y
 obtain ⟨_,_,_,hc,hm,_,_,_,_,_,_,hp,hs⟩:=hy
 have h1:=wf_len (k:= .int .i64) hc (by rw[bytesD3];rfl)
 have h2:=wf_len (k:=MoK) hm (by rw[bytesD50];rfl)
 have h3:=wf_len (k:=SitK) hp (by rw[bytesD59];rfl)
 have h4:=wf_len (k:= .int .i64) hs (by rw[bytesD3];rfl)
 refine ⟨0,lawSound_plain 0 k w h c ms i o dl n p l pr st ?_ h4⟩
 simp only[ckOk,Bool.and_eq_true,decide_eq_true_eq]
 refine ⟨⟨h1,h2,h3⟩,List.all_eq_true.2 fun s hs=> ?_⟩
 obtain ⟨q1,_,q2⟩:=wf_mem (k:=SitK) hp hs
 exact decide_eq_true ⟨wf_len (k:= .int .i64) q1 (by rw[bytesD3];rfl),wf_len (k:= .int .i64) q2 (by rw[bytesD3];rfl)⟩
section
variable {k w h:Int} {c:List Int} {ms:List Mo} {i o dl:Int} {n p:List (List Int)} {l:List (List Bool)}
theorem lS1_eq:lawLeast_S1 k w h c ms i o dl n p l=bif decide (((pvM (k,w,h,c,ms,i,o,dl,n,p,l)).1.length:Int)=0) then resB (decide (((pvM (k,w,h,c,ms,i,o,dl,n,p,l)).2.1.length:Int)=0)) else resB false:=rfl
theorem lS2_tt (ha:askedM (k,w,h,c,ms,i,o,dl,n,p,l)≠0):lawLeast_S2 k w h c ms i o dl n p l=resB true:=by
 have e:pvM (k,w,h,c,ms,i,o,dl,n,p,l)=([],[],askedM (k,w,h,c,ms,i,o,dl,n,p,l)):=by simp only[pvM,ha,decide_false,cond_false]
 show (bif (pvM (k,w,h,c,ms,i,o,dl,n,p,l)).2.2 !=0 then lawLeast_S1 k w h c ms i o dl n p l else resB false)=resB true
 rw[lS1_eq,e,beq_ne,decide_eq_false ha]
 rfl
theorem ask_all (h1:organB k w h c ms=true) (h2:contractOk i o dl n p l=true) (h3:i=(cntI ms:Nat)) (h4:o=(cntO ms:Nat)):askedM (k,w,h,c,ms,i,o,dl,n,p,l)=0:=by
 simp only[askedM,h1,h2,Bool.not_true,cond_false]
 rw[decide_eq_true (show ((cntI ms:Nat):Int)=i∧((cntO ms:Nat):Int)=o by omega)];rfl
def tailB (ok:Bool) (t:Int) (st w:List Int):Res:=
 bif ok then bif decide (t<0) then resB true else bif decide (t=(st.length:Int)) then resB true else
  bif decide (0≤IntKind.wrap .i64 (t+1))&&(decide ((IntKind.wrap .i64 (t+1)).toNat≤st.length)&&decide (0≤(IntKind.wrap .i64 (t+1)).toNat)) then
   bif beforeOk (st.take (IntKind.wrap .i64 (t+1)).toNat,w) then resB (!beforeM (st.take (IntKind.wrap .i64 (t+1)).toNat,w)) else badR else badR else badR
theorem lawLeast_txt (F:Nat) (k w h:Int) (c:List Int) (ms:List Mo) (i o dl:Int) (n p:List (List Int)) (l:List (List Bool)) (st:List Int):lawLeast_run F (k,w,h,c,ms,i,o,dl,n,p,l,st)=
  bif mouthsOk (k,w,h,c,ms) then bif pvOk (k,w,h,c,ms,i,o,dl,n,p,l) then bif rVOk (k,w,h,c,ms) then bif rVM (k,w,h,c,ms) !=0 then lawLeast_S2 k w h c ms i o dl n p l else bif rVCM (i,o,dl,n,p,l) !=0 then lawLeast_S2 k w h c ms i o dl n p l else
   bif i !=(mouthsM (k,w,h,c,ms)).1 then lawLeast_S2 k w h c ms i o dl n p l else bif o !=(mouthsM (k,w,h,c,ms)).2 then lawLeast_S2 k w h c ms i o dl n p l else
   bif (pvM (k,w,h,c,ms,i,o,dl,n,p,l)).2.2 !=0 then (bif decide ((pvM (k,w,h,c,ms,i,o,dl,n,p,l)).2.2=54) then lawLeast_S1 k w h c ms i o dl n p l else resB false) else
   bif decide (((pvM (k,w,h,c,ms,i,o,dl,n,p,l)).2.1.length:Int)=0) then resB (decide (((pvM (k,w,h,c,ms,i,o,dl,n,p,l)).1.length:Int)>0)) else
   bif ((pvM (k,w,h,c,ms,i,o,dl,n,p,l)).1.length:Int) !=0 then resB false else
   bif brokeOk (k,w,h,c,ms,i,o,dl,n,p,l,(pvM (k,w,h,c,ms,i,o,dl,n,p,l)).2.1) then
    bif brokeM (k,w,h,c,ms,i,o,dl,n,p,l,(pvM (k,w,h,c,ms,i,o,dl,n,p,l)).2.1) !=IntKind.wrap .i64 (((pvM (k,w,h,c,ms,i,o,dl,n,p,l)).2.1.length:Int)-1) then resB false else
    bif decide ((st.length:Int)>((pvM (k,w,h,c,ms,i,o,dl,n,p,l)).2.1.length:Int)) then
     bif decide (0≤((pvM (k,w,h,c,ms,i,o,dl,n,p,l)).2.1.length:Int))&&(decide (((pvM (k,w,h,c,ms,i,o,dl,n,p,l)).2.1.length:Int).toNat≤st.length)&&decide (0≤((pvM (k,w,h,c,ms,i,o,dl,n,p,l)).2.1.length:Int).toNat)) then
      tailB (brokeOk (k,w,h,c,ms,i,o,dl,n,p,l,st.take ((pvM (k,w,h,c,ms,i,o,dl,n,p,l)).2.1.length:Int).toNat)) (brokeM (k,w,h,c,ms,i,o,dl,n,p,l,st.take ((pvM (k,w,h,c,ms,i,o,dl,n,p,l)).2.1.length:Int).toNat)) (st.take ((pvM (k,w,h,c,ms,i,o,dl,n,p,l)).2.1.length:Int).toNat) (pvM (k,w,h,c,ms,i,o,dl,n,p,l)).2.1
     else badR
    else tailB (brokeOk (k,w,h,c,ms,i,o,dl,n,p,l,st)) (brokeM (k,w,h,c,ms,i,o,dl,n,p,l,st)) st (pvM (k,w,h,c,ms,i,o,dl,n,p,l)).2.1
   else badR else badR else badR else badR:=(lawLeast_arg F k w h c ms i o dl n p l st).trans ((lawLeast_eq F k w h c ms i o dl n p l st).trans (by kernel_rfl))
theorem tail_tt {w' st:List Int} (ha:askedM (k,w,h,c,ms,i,o,dl,n,p,l)=0) (hst:st.length≤20000)
  (hl:∀(u:List Int) (b:Int) (s:Sit),goTo (ltF k w h ms n p) (letF l) (2^i.toNat) (c,0,List.replicate dl.toNat 0) u=some s→(0≤b∧b<((2^i.toNat:Nat):Int))→letF l s b.toNat=true→(ltF k w h ms n p s b.toNat).2.2.2=false→¬Bef (u++[b]) w'):
  tailB (brokeOk (k,w,h,c,ms,i,o,dl,n,p,l,st)) (brokeM (k,w,h,c,ms,i,o,dl,n,p,l,st)) st w'=resB true:=by
 have hok:brokeOk (k,w,h,c,ms,i,o,dl,n,p,l,st)=true:=by
  simp only[brokeOk,Bool.and_eq_true,decide_eq_true_eq]
  exact ⟨ha,by omega⟩
 simp only[tailB,hok,cond_true]
 rcases brokeL_at (f:=ltF k w h ms n p) (lets:=letF l) (words:=2^i.toNat) st (c,0,List.replicate dl.toNat 0) 0 with h1|h1|⟨u,b,r,s,h1,h2,h3,h4,h5,h6⟩
 ·rw[decide_eq_true (show brokeM (k,w,h,c,ms,i,o,dl,n,p,l,st)<0 from h1)];rfl
 ·rw[Nat.zero_add] at h1
  rw[show brokeM (k,w,h,c,ms,i,o,dl,n,p,l,st)=((st.length:Nat):Int) from h1,decide_eq_true (rfl:((st.length:Nat):Int)=(st.length:Int)),decide_eq_false (show ¬((st.length:Nat):Int)<0 by omega)];rfl
 ·rw[Nat.zero_add] at h2
  have hlen:st.length=u.length+(r.length+1):=by rw[h1];simp
  have htk:st.take (u.length+1)=u++[b]:=by rw[h1,show u++b::r=(u++[b])++r by simp];exact List.take_left' (by simp)
  rw[show brokeM (k,w,h,c,ms,i,o,dl,n,p,l,st)=((u.length:Nat):Int) from h2,wrap_succ (i:=u.length) (by omega),Int.toNat_natCast,htk]
  rw[decide_eq_false (show ¬((u.length:Nat):Int)<0 by omega),decide_eq_false (show ¬((u.length:Nat):Int)=(st.length:Int) by omega),decide_eq_true (show (0:Int)≤((u.length+1:Nat):Int) by omega),decide_eq_true (show u.length+1≤st.length by omega),decide_eq_true (show 0≤u.length+1 by omega)]
  simp only[Bool.and_self,cond_false,cond_true]
  rw[show beforeOk (u++[b],w')=true from decide_eq_true (by simp only[List.length_append,List.length_cons,List.length_nil,big];omega),show beforeM (u++[b],w')=false from Bool.eq_false_iff.2 fun e=>hl u b s h3 h4 h5 h6 ((beforeM_iff _ _).1 e)]
  rfl
end
theorem lawLeast_plain (F:Nat) (k w h:Int) (c:List Int) (ms:List Mo) (i o dl:Int) (n p:List (List Int)) (l:List (List Bool)) (st:List Int) (hc:c.length<big) (hm:ms.length<big):lawLeast_run F (k,w,h,c,ms,i,o,dl,n,p,l,st)={ok:=true,val:=AV.bool true}:=by
 refine (lawLeast_txt F k w h c ms i o dl n p l st).trans ?_
 rw[show mouthsOk (k,w,h,c,ms)=true from decide_eq_true hm,show pvOk (k,w,h,c,ms,i,o,dl,n,p,l)=true from decide_eq_true ⟨hc,hm⟩,show rVOk (k,w,h,c,ms)=true from decide_eq_true ⟨hc,hm⟩]
 simp only[cond_true]
 by_cases ha:askedM (k,w,h,c,ms,i,o,dl,n,p,l)=0
 ·obtain ⟨v,ct,hci⟩:=asked0 ha
  have hco:contractOk i o dl n p l=true∧((cntO ms:Nat):Int)=o:=by
   simp only[askedM] at ha
   rw[v.to] at ha
   cases hc:contractOk i o dl n p l with
   |false=>rw[hc] at ha;simp at ha
   |true=>
    rw[hc] at ha
    by_cases hx:((cntI ms:Nat):Int)=i∧((cntO ms:Nat):Int)=o
    ·exact ⟨rfl,hx.2⟩
    ·simp[hx] at ha
  rw[show rVM (k,w,h,c,ms)=0 by simp only[rVM,organM,v.to];rfl,show rVCM (i,o,dl,n,p,l)=0 by simp only[rVCM,validM,hco.1];rfl,show mouthsM (k,w,h,c,ms)=(((cntI ms:Nat):Int),((cntO ms:Nat):Int)) from rfl,hci,hco.2]
  simp only[bne_self_eq_false,cond_false]
  obtain ⟨_,hfew⟩:=pvM_few ha
  revert hfew
  obtain ⟨g1,g2,g3⟩:=pvL_ind ((few_inv (k:=k) (w:=w) (h:=h) (ms:=ms) ct).and (least_inv (c,0,List.replicate dl.toNat 0))) 20001 0 [((c,0,List.replicate dl.toNat 0),[])] (by simp) ⟨few_one v ct (asked_pos ha),least_one _⟩
  have e:pvM (k,w,h,c,ms,i,o,dl,n,p,l)=pwR (pvL (ltF k w h ms n p) (letF l) (2^i.toNat) 20001 0 [((c,0,List.replicate dl.toNat 0),[])]):=by simp only[pvM,ha,decide_true,cond_true]
  rw[lS1_eq,e]
  cases hr:pvL (ltF k w h ms n p) (letF l) (2^i.toNat) 20001 0 [((c,0,List.replicate dl.toNat 0),[])] with
  |full=>intro _;rfl
  |go ts=>
   intro _
   obtain ⟨_,⟨_,hl⟩,_⟩:=g1 ts hr
   have:=hl.ne
   rw[show pwR (.go ts)=(ts.map (·.1),[],0) from rfl]
   show resB (decide (((ts.map (·.1)).length:Int)>0))=resB true
   rw[decide_eq_true (show (((ts.map (·.1)).length:Int)>0) by rw[List.length_map];omega)]
  | brk w'=>
   intro hfew
   simp only[pwR] at hfew
   obtain ⟨q,a,ts,b1,b2,⟨_,b3⟩,b4,b5,b6⟩:=g2 w' hr
   obtain ⟨l1,l2,l3⟩:=least_brk (f:=ltF k w h ms n p) (lets:=letF l) (words:=2^i.toNat) ⟨q,a,ts,b1,b2,b3,b4,b5,b6⟩
   rw[show pwR (.brk w')=([],w',0) from rfl]
   dsimp only
   rw[show (((0:Int) !=0))=false from rfl,show ((([]:List Sit).length:Int) !=0)=false from rfl]
   simp only[cond_false]
   rw[decide_eq_false (show ¬(w'.length:Int)=0 by omega),show brokeOk (k,w,h,c,ms,i,o,dl,n,p,l,w')=true by simp only[brokeOk,Bool.and_eq_true,decide_eq_true_eq];exact ⟨ha,by omega⟩,
    show brokeM (k,w,h,c,ms,i,o,dl,n,p,l,w')=((w'.length-1:Nat):Int) from l1,wrap_id (n:=(w'.length:Int)-1) (by omega) (by omega),show ((w'.length-1:Nat):Int)=(w'.length:Int)-1 by omega]
   simp only[cond_false,cond_true,bne_self_eq_false,Int.toNat_natCast]
   by_cases hlt:(st.length:Int)>(w'.length:Int)
   ·rw[decide_eq_true hlt,decide_eq_true (show (0:Int)≤(w'.length:Int) by omega),decide_eq_true (show w'.length≤st.length by omega),decide_eq_true (Nat.zero_le w'.length)]
    simp only[Bool.and_self,cond_true]
    exact tail_tt ha (by rw[List.length_take];omega) l3
   ·rw[decide_eq_false hlt]
    exact tail_tt ha (by omega) l3
 ·have hS:=lS2_tt ha
  rw[hS]
  simp only[beq_ne]
  cases h1:organB k w h c ms with
  |false=>rw[show rVM (k,w,h,c,ms)=50 by simp only[rVM,organM,h1];rfl];rfl
  | true=>
   cases h2:contractOk i o dl n p l with
   |false=>rw[show rVM (k,w,h,c,ms)=0 by simp only[rVM,organM,h1];rfl,show rVCM (i,o,dl,n,p,l)=51 by simp only[rVCM,validM,h2];rfl];rfl
   | true=>
    rw[show rVM (k,w,h,c,ms)=0 by simp only[rVM,organM,h1];rfl,show rVCM (i,o,dl,n,p,l)=0 by simp only[rVCM,validM,h2];rfl,show mouthsM (k,w,h,c,ms)=(((cntI ms:Nat):Int),((cntO ms:Nat):Int)) from rfl]
    by_cases h3:i=((cntI ms:Nat):Int)
    ·by_cases h4:o=((cntO ms:Nat):Int)
     ·exact absurd (ask_all h1 h2 h3 h4) ha
     ·simp only[decide_eq_true h3,decide_eq_false h4];rfl
    ·simp only[decide_eq_false h3];rfl
theorem lawLeast_fin (y:CT lawLeast_K) (hy:wfT Tryd.prog lawLeast_K y):∃F,runF (cx_lawLeast F) Tryd.f3 (groupA lawLeast_sh (enc lawLeast_K y)) []=⟨true, .bool true,[]⟩:=by
 obtain ⟨k,w,h,c,ms,i,o,dl,n,p,l,st⟩:=y
 obtain ⟨_,_,_,hc,hm,_⟩:=hy
 exact ⟨0,lawLeast_plain 0 k w h c ms i o dl n p l st (wf_len (k:= .int .i64) hc (by rw[bytesD3];rfl)) (wf_len (k:=MoK) hm (by rw[bytesD50];rfl))⟩
end Go.Proofs.YtiglikocfjhkcaaDoor
