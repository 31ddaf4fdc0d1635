/- Contracts of functions over plain values that hand back memory of their own. -/
import Derived.Test.YtiglikocfjhkcaaDoorA23
set_option linter.all false
set_option linter.unusedVariables false
set_option linter.unusedSimpArgs false
namespace Go.Abs
variable [Globs]
variable {os:List TypeId}
open Go.RowKit (Below)
def tspecR (shape:List (Option Nat)) (K:CK) (ok:CT K→Bool) (M:CT K→Res) (vs:List AV) (Hi:List Blk):Res:=
 ⟨Hi.isEmpty&&(fitsA shape vs&&((flatA vs).length==width K&&(decOk K (flatA vs)&&ok (dec K (flatA vs))))),(M (dec K (flatA vs))).val,(M (dec K (flatA vs))).heap⟩
theorem CSound.typedR {P:Program} {C:FuncId→List AV→List Blk→Res} {f:FuncId} {fn:Func} {shape:List (Option Nat)} {K:CK} {ok:CT K→Bool} {M:CT K→Res} (hC:CSound P C) (hm:P.follows .mixedOrders=true) (hf:P.funcs[f]?=some fn) (hn:(fn.name== "runtime.NumGoroutine")=false) (hb:fn.body.isNone=false)
  (mode:FuncId→List Bool) (live:Nat→List Nat) (fuel:CT K→Nat) (Kc:FuncId→Option (List AV→List Blk→(Res→Res)→Res)) (hK:∀fu pin,KOk {P:=P,C:=C,mode:=mode,fuel:=fu,live:=live,pin:=pin,K:=Kc})
  (hs:∀x,ok x=true→runF {P:=P,C:=C,mode:=mode,fuel:=fuel x,live:=live,pin:=0,K:=Kc,nx:=true,os:=os} fn (groupA shape (enc K x)) []=M x∧(M x).ok=true):
  CSound P (addC f (tspecR shape K ok M) C):=by
 intro g vs Hi us w S M' μ hok hl hh hM hv
 simp only[addC] at hok⊢
 cases hg:(g==f) with
 |false=>
  simp only[hg,cond_false] at hok⊢
  exact hC g vs Hi us w S M' μ hok hl hh hM hv
 | true=>
  simp only[hg,cond_true] at hok⊢
  have hgf:g=f:=by simpa using hg
  subst hgf
  refine ⟨⟨fn,hf,hn,hb⟩,?_⟩
  simp only[tspecR,Bool.and_eq_true,beq_iff_eq,List.isEmpty_iff] at hok
  obtain ⟨he,h1,h2,h3,h4⟩:=hok
  subst he
  have key:=hs _ h4
  obtain ⟨g1,g2⟩:=groupA_sound (H:=[]) (μ:=μ) (w:=w) (S:=S) shape vs (enc K (dec K (flatA vs))) h1 (by rw[enc_length,h2]) (fun q hq u hu=>by
   rw[enc_length] at hq
   exact decP_sound K _ h3 q hq u hu)
  have:=runF_sound (cx:={P:=P,C:=C,mode:=mode,fuel:=fuel (dec K (flatA vs)),live:=live,pin:=0,K:=Kc,nx:=true,os:=os}) (fn:=fn) (vs:=groupA shape (enc K (dec K (flatA vs)))) (Hi:=[]) hC hm rfl (hK 0 0) hf (by rw[key.1];exact key.2) (by rw[g1];exact hl) hh hM (fun i hi=>g2 i (by rw[g1] at hi;exact hi) _ (hv i (by rw[g1] at hi;exact hi)))
  refine this.mono fun e w' hw=> ?_
  rw[key.1] at hw
  exact hw
theorem Tab.addTyR {P:Program} {C C':FuncId→List AV→List Blk→Res} {mode:FuncId→List Bool} {K K':KT} {f:FuncId} {fn:Func} {shape:List (Option Nat)} {KK:CK} {ok:CT KK→Bool} {M:CT KK→Res} (h:Tab P C mode K) (h':Tab P C' mode K') (hf:P.funcs[f]?=some fn) (hn:(fn.name== "runtime.NumGoroutine")=false) (hb:fn.body.isNone=false)
  (hkn:K f=Option.none) (live:Nat→List Nat) (fuel:CT KK→Nat)
  (hs:∀x,ok x=true→runF {P:=P,C:=C',mode:=mode,fuel:=fuel x,live:=live,pin:=0,K:=K',nx:=true,os:=os} fn (groupA shape (enc KK x)) []=M x∧(M x).ok=true):
  Tab P (addC f (tspecR shape KK ok M) C) mode K:=
 h.one (CSound.typedR h'.sound h.mixed hf hn hb mode live fuel K' (fun fu pin=>h'.go fu _ pin) hs) hkn
end Go.Abs

namespace Go.Abs
variable [Globs]
open Go.RowKit (Below)
end Go.Abs
