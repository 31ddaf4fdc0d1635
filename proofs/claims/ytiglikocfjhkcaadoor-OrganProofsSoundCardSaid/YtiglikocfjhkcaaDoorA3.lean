/- Operations that leave memory alone: what the evaluator says of them is what the machine does. -/
import Derived.Laws.Cover3
import Derived.Test.YtiglikocfjhkcaaDoorA2
import Derived.Calls
import Derived.Laws.Rows
import Derived.Laws.Small
import Derived.Laws.Slices
set_option linter.all false
set_option linter.unusedVariables false
set_option linter.unusedSimpArgs false
namespace Go.Abs
variable [Globs]
open Go.RowKit (Below)
section
variable {H:List Blk} {μ:Nat→Value} {w:World} {S:Nat→Prop}
theorem VR.junk (v:Value):VR H μ w S .junk v:= .pv (.junk v)
theorem vr_bool {b:Bool} {u:Value} (h:VR H μ w S (.bool b) u):u= .bool b:=by cases h with|pv h=>cases h;rfl
theorem vr_int {k:IntKind} {n:Int} {u:Value} (h:VR H μ w S (.int k n) u):u= .int k n:=by cases h with|pv h=>cases h;rfl
theorem vr_str {s:List UInt8} {u:Value} (h:VR H μ w S (.str s) u):∃b:ByteArray,s=b.data.toList∧u= .string b:=by cases h with|pv h=>cases h;exact ⟨_,rfl,rfl⟩
theorem str_size (b:ByteArray):b.data.toList.length=b.size:=by rw[Array.length_toList];rfl
theorem str_beq (a b:ByteArray):(a.data.toList==b.data.toList)=(a==b):=by
 show _=(a.data==b.data)
 rw[Bool.eq_iff_iff,beq_iff_eq,beq_iff_eq,Array.toList_inj]
theorem toList_loop (b:ByteArray):∀(n i:Nat) (r:List UInt8),n=b.size-i→ByteArray.toList.loop b i r=r.reverse++b.data.toList.drop i
 |0,i,r,h=>by
  unfold ByteArray.toList.loop
  rw[if_neg (by omega),List.drop_of_length_le (by rw[str_size];omega),List.append_nil]
 |n+1,i,r,h=>by
  unfold ByteArray.toList.loop
  have hi:i<b.size:=by omega
  rw[if_pos hi,toList_loop b n (i+1) _ (by omega),List.reverse_cons,List.append_assoc]
  congr 1
  have hl:i<b.data.toList.length:=by rw[str_size];exact hi
  rw[List.drop_eq_getElem_cons hl]
  have hd:i<b.data.size:=hi
  simp[ByteArray.get!,getElem!_pos b.data i hd]
theorem str_toList (b:ByteArray):b.toList=b.data.toList:=by
 have:=toList_loop b _ 0 [] rfl
 simpa [ByteArray.toList] using this
theorem vr_nils {u:Value} (h:VR H μ w S .nils u):u= .slice none 0 0:=by cases h with|pv h=>cases h;rfl
theorem vr_zc {u:Value} (h:VR H μ w S .zc u):∃A,u= .slice A 0 0:=by cases h with|pv h=>cases h;exact ⟨_,rfl⟩
theorem vr_agg {cs:List AV} {u:Value} (h:VR H μ w S (.agg cs) u):∃vs:Array Value,u= .agg vs∧cs.length=vs.size∧∀i,i<cs.length→VR H μ w S (nth .junk cs i) (vs.getD i undef):=by
 cases h with
 |pv h=>cases h with|agg _ vs hl h=>exact ⟨vs,rfl,hl,fun i hi=> .pv (h i hi)⟩
 |agg _ vs hl h=>exact ⟨vs,rfl,hl,h⟩
theorem vr_tup {cs:List AV} {u:Value} (h:VR H μ w S (.tup cs) u):∃vs:Array Value,u= .tuple vs∧cs.length=vs.size∧∀i,i<cs.length→VR H μ w S (nth .junk cs i) (vs.getD i undef):=by
 cases h with
 |pv h=>cases h
 |tup _ vs hl h=>exact ⟨vs,rfl,hl,h⟩
theorem vr_ro {k:CK} {xs:List (CT k)} {u:Value} (h:VR H μ w S (.ro k xs) u):PV w S (.ro k xs) u:=by cases h with|pv h=>exact h
theorem vr_rptr {cs:List AV} {j:Nat} {u:Value} (h:VR H μ w S (.rptr cs j) u):PV w S (.rptr cs j) u:=by cases h with|pv h=>exact h
theorem vr_unw {v:AV} {u:Value} (h:VR H μ w S v u) (hg:grd v=true):VR H μ w S (unw v) u:=by
 cases v with
 |when g x=>
  cases h with
  |pv h=>cases h
  |when _ _ _ h _=>exact h hg
 |_=>exact h
theorem ofVs_eq (f:Value→AV):∀l:List Value,ofVs f l=l.map f
 |[]=>rfl
 |v::l=>by simp[ofVs,ofVs_eq f l]
theorem ofV_sound (w:World) (S:Nat→Prop):∀(d:Nat) (v:Value),PV w S (ofV d v) v
 |0,v=> .junk v
 | d +1,v=>by
  cases v with
  |bool b=>exact .bool b
  |int k n=>exact .int k n
  |string s=>exact .str s
  |float k b=>exact .junk _
  |complex k a b=>exact .junk _
  |pointer a=>cases a<;>first|exact .nilp|exact .junk _
  | slice a n c=>
   cases a with
   |some a=>exact .junk _
   | none=>
    cases n with
    |succ n=>exact .junk _
    |zero=>
     cases c with
     |succ c=>exact .junk _
     |zero=>exact .nils
  |map r=>cases r<;>first|exact .nilm|exact .junk _
  |chan r=>exact .junk _
  |func f a b=>exact .junk _
  |nilFunc=>exact .nilf
  |iface t v=>exact .junk _
  |nilIface=>exact .nili
  |tuple vs=>exact .junk _
  |agg cs=>
   show PV w S (.agg (ofVs (ofV d) cs.toList)) (.agg cs)
   rw[ofVs_eq]
   refine .agg _ _ (by simp) fun i hi=> ?_
   have hi':i<cs.size:=by simpa using hi
   rw[nth_lt _ _ _ hi]
   simp only[List.getElem_map,Array.getElem_toList,Array.getD_eq_getD_getElem?,Array.getElem?_eq_getElem hi',Option.getD_some]
   exact ofV_sound w S d cs[i]
theorem findG_sound:∀(l:List (Nat×List AV)) (g:Nat),(∀p,p∈l→PV w S (.rptr p.2 0) (.pointer (some ⟨p.1,0,none⟩)))→VR H μ w S (findG l g) (.pointer (some ⟨g,0,none⟩))
 |[],_,_=> .junk _
 | p::l,g,h=>by
  unfold findG
  cases hp:p.1==g with
  |true=>
   have:p.1=g:=by simpa using hp
   exact this▸ .pv (h p (by simp))
  |false=>exact findG_sound l g fun q hq=>h q (by simp[hq])
theorem ev_sound {T:List AV} {a:Act} (hG:GlobOk w S) (hT:TR H μ w S T a.tmps) (x:Operand):VR H μ w S (ev T x) (a.eval x):=by
 cases x with
 |tmp t=>
  show VR H μ w S (nth .junk T t) (a.tmps.getD t undef)
  by_cases h:t<T.length
  ·exact hT.2 t h
  ·rw[nth_ge _ _ _ (Nat.le_of_not_lt h)];exact .junk _
 |const v=>exact .pv (ofV_sound w S 4 v)
 |global g=>exact findG_sound _ g hG
 |func f=>exact .pv (.fn _)
theorem evu_sound {T:List AV} {a:Act} (hG:GlobOk w S) (hT:TR H μ w S T a.tmps) (x:Operand) (hg:grd (ev T x)=true):VR H μ w S (unw (ev T x)) (a.eval x):=vr_unw (ev_sound hG hT x) hg
theorem grds_mem {T:List AV}:∀ {l:List Operand},grds T l=true→∀x∈l,grd (ev T x)=true
 |[],_,_,h=>by cases h
 |y::l,h,x,hx=>by
  simp only[grds,Bool.and_eq_true] at h
  rcases List.mem_cons.1 hx with rfl|hx
  ·exact h.1
  ·exact grds_mem h.2 x hx
theorem evs_sound {T:List AV} {a:Act} (hG:GlobOk w S) (hT:TR H μ w S T a.tmps):∀(l:List Operand),grds T l=true→(evs T l).length=l.length∧∀i,i<l.length→VR H μ w S (nth .junk (evs T l) i) ((l.map a.eval).getD i undef)
 |[],_=>⟨rfl,fun i h=>by simp at h⟩
 |x::l,h=>by
  simp only[grds,Bool.and_eq_true] at h
  obtain ⟨h1,h2⟩:=evs_sound hG hT l h.2
  refine ⟨by simp[evs,h1],fun i hi=> ?_⟩
  cases i with
  |zero=>exact evu_sound hG hT x h.1
  |succ i=>exact h2 i (by simpa using hi)
def After (w0:World) (S0:Sc) (H:List Blk) (μ:Nat→Value) (S:Nat→Prop) (w:World) (f:Eff) (u:Value) (w':World):Prop:=
 ∃μ' S',RepAt w0 S0 (sets H f.wr) μ' S' w'∧Ext H μ (sets H f.wr) μ'∧(∀B,S B→S' B)∧(∀B,S B→w'.heap[B]?=w.heap[B]?)∧VR (sets H f.wr) μ' w' S' f.val u
theorem After.quiet {w0:World} {S0:Sc} {f:Eff} {u:Value} (hr:RepAt w0 S0 H μ S w) (hw:f.wr=[]) (hv:VR H μ w S f.val u):After w0 S0 H μ S w f u w:=by
 refine ⟨μ,S,?_,?_,fun _ h=>h,fun _ _=>rfl,?_⟩<;>rw[hw]
 ·exact hr
 ·exact Ext.refl H μ
 ·exact hv
variable {P:Program}
theorem cellsOf_info {t:TypeId} {i:TypeInfo} (h:P.info? t=some i):P.cellsOf t=i.size:=by simp[Program.cellsOf,h]
theorem run_sizeOf {t:TypeId} {i:TypeInfo} (h:P.info? t=some i) (w:World):(sizeOf t).run P w= .ok (P.cellsOf t) w:=by simp[sizeOf,typeInfo,h,cellsOf_info h]
theorem info_of_underlying {t:TypeId} {d:TypeDesc} (h:P.underlying t=some d):∃i,P.info? t=some i:=by
 unfold Program.underlying at h
 cases hi:P.info? t with
 |none=>simp[hi] at h
 |some i=>exact ⟨i,rfl⟩
theorem cellsOf_none {t:TypeId} (h:P.info? t=none):P.cellsOf t=0:=by simp[Program.cellsOf,h]
theorem info_of_cells {t:TypeId} (h:P.cellsOf t≠0):∃i,P.info? t=some i:=by
 cases hi:P.info? t with
 |none=>exact absurd (cellsOf_none hi) h
 |some i=>exact ⟨i,rfl⟩
theorem run_isAgg {t:TypeId} {d:TypeDesc} (h:P.underlying t=some d) (w:World):(isAgg t).run P w= .ok (isAggT P t) w:=by
 unfold isAgg isAggT
 rw[Sem.run_bind,run_underlying h w,h]
 cases d<;>simp
theorem fitT_spec {t:TypeId} (h:fitT P t=true):∃d,P.underlying t=some d∧(isAggT P t=true∨P.cellsOf t=1):=by
 unfold fitT at h
 cases hu:P.underlying t with
 |none=>simp[hu] at h
 |some d=>exact ⟨d,rfl,by simpa [hu] using h⟩
theorem binInt_run {op:BinOp} {k:IntKind} {a b:Int} {t:TypeId} (hs:isShift op=false) (hc:(intOp op k a b).chk=true):
  ∃u,(binOp op t (.int k a) (.int k b)).run P w= .ok u w∧VR H μ w S (intOp op k a b).val u:=by
 cases op<;>simp[isShift] at hs<;>simp[intOp,intCmp,Eff.v,Eff.bad,andI,orI,xorI,andNotI] at hc⊢ <;>simp[binOp,Op.intArith,Op.intDiv,Op.intBits,Op.intCmp,hc]<;>
  first
  |exact .pv (.int _ _)
  |exact .pv (.bool _)
  |(simp[bne];exact .pv (.bool _))
theorem eval_v {s:Sem Value} {u:Value} {w w':World} (h:s.run P w= .ok u w'):(do pure (Next.value (←s)):Sem Next).run P w= .ok (.value u) w':=by
 rw[Sem.run_bind,h];rfl
theorem eqGuard_int {op:BinOp} {t:TypeId} {x y:Operand} {a b:Value} (h:∀cs,a≠ .agg cs) (h':a≠ .nilIface) (w:World):(eqGuard op t x y a b).run P w= .ok () w:=by
 unfold eqGuard
 cases op<;>simp<;>cases a<;>simp_all
theorem flatL_mem:∀ {l:List Field} {i:Nat},flatL P l i=true→∀f∈l,f.name≠ "_" ∧(P.underlying f.type=some .bool∨(∃k,P.underlying f.type=some (.int k))∨P.underlying f.type=some .string)
 |[],_,_,f,hf=>by cases hf
 | x::l,i,h,f,hf=>by
  simp only[flatL,Bool.and_eq_true] at h
  obtain ⟨_,h1,h2,h3⟩:=h
  rcases List.mem_cons.1 hf with rfl|hf
  ·refine ⟨by simpa using h1,?_⟩
   cases hk:P.underlying f.type with
   |none=>simp[hk] at h2
   |some dk=>cases dk<;>simp[hk] at h2⊢
  ·exact flatL_mem h3 f hf
theorem flat_spec {t:TypeId} (h:flatT P t=true):∃fs,P.underlying t=some (.struct fs)∧P.stoodInHeld t=false∧flatL P fs.toList 0=true∧fieldsOf P t=fs.toList:=by
 unfold flatT at h
 cases hu:P.underlying t with
 |none=>simp[hu] at h
 | some ds=>
  cases ds with
  |struct fs=>
   simp only[hu,Bool.and_eq_true,Bool.not_eq_true'] at h
   exact ⟨fs,rfl,h.1,h.2,by simp[fieldsOf,hu]⟩
  |_=>simp[hu] at h
theorem flat_eqGuard {t:TypeId} (h:flatT P t=true) (d:Nat):P.eqGuardType (d+2) t=false:=by
 obtain ⟨fs,hu,_,hf,_⟩:=flat_spec h
 simp only[Program.eqGuardType,hu]
 rw[←Array.any_toList,List.any_eq_false]
 intro f hm
 obtain ⟨_,hk⟩:=flatL_mem hf f hm
 rcases hk with hk|⟨k,hk⟩|hk<;>simp[hk]
theorem unE_run {op:UnOp} {x:AV} {v:Value} (hv:VR H μ w S x v) (hc:(unE op x).chk=true):∃u,(Op.unary op v).run P w= .ok u w∧VR H μ w S (unE op x).val u:=by
 cases op<;>cases x<;>simp[unE,Eff.v,Eff.bad] at hc⊢
 ·rw[vr_int hv];exact ⟨_,rfl, .pv (by simpa using PV.int _ _)⟩
 ·rw[vr_bool hv];exact ⟨_,rfl, .pv (.bool _)⟩
theorem convE_run {s d:TypeId} {x:AV} {v:Value} (hv:VR H μ w S x v) (hc:(convE P s d x).chk=true):∃u,(convert s d v).run P w= .ok u w∧VR H μ w S (convE P s d x).val u:=by
 unfold convE at hc⊢
 cases hs:P.underlying s with
 |none=>simp[hs,Eff.bad] at hc
 | some ds=>
  cases hd:P.underlying d with
  |none=>simp[hs,hd,Eff.bad] at hc
  | some dd=>
   cases dd<;>simp[hs,hd,Eff.bad] at hc
   ·cases x<;>simp[hs,hd,Eff.bad,Eff.v] at hc⊢
    rw[vr_int hv]
    exact ⟨_,by simp[convert,run_underlying hs,run_underlying hd,Conv.intToInt], .pv (.int _ _)⟩
   ·cases x<;>simp[hs,hd,Eff.bad,Eff.v] at hc⊢
    ·rw[vr_int hv]
     exact ⟨_,by simp[convert,run_underlying hs,run_underlying hd,Conv.intToString], .pv (.str _)⟩
    ·obtain ⟨b,rfl,rfl⟩:=vr_str hv
     exact ⟨_,by simp[convert,run_underlying hs,run_underlying hd], .pv (.str _)⟩
theorem pick_run {T:List AV} {a:Act} (hG:GlobOk w S) (hT:TR H μ w S T a.tmps) {c x y:Operand} (hc:pickOk (ev T c) (ev T x) (ev T y)=true):
  ∃u,(do pure (Next.value (if ←asBool (a.eval c) then a.eval x else a.eval y)):Sem Next).run P w= .ok (.value u) w∧VR H μ w S (pickV (ev T c) (ev T x) (ev T y)) u:=by
 unfold pickOk at hc
 unfold pickV
 cases hc1:unw (ev T c)<;>simp[hc1] at hc
 rename_i bc
 obtain ⟨h1,h2,h3⟩:=hc
 have e1:=vr_bool (hc1▸evu_sound hG hT c h1)
 simp only[e1]
 cases bc with
 | true=>
  have hx:=evu_sound hG hT x (by simpa using h3)
  cases hx1:unw (ev T x)<;>cases hy1:unw (ev T y)<;>simp only[hx1,hy1,pickB,isB,cond_true] at h2⊢ <;>try (simp at h2;done)
  all_goals
   rw[hx1] at hx
   have e2:=vr_bool hx
   refine ⟨a.eval x,by simp[asBool],?_⟩
   rw[e2];exact .pv (.bool _)
 | false=>
  have hy:=evu_sound hG hT y (by simpa using h3)
  cases hx1:unw (ev T x)<;>cases hy1:unw (ev T y)<;>simp only[hx1,hy1,pickB,isB,cond_false] at h2⊢ <;>try (simp at h2;done)
  all_goals
   rw[hy1] at hy
   have e2:=vr_bool hy
   refine ⟨a.eval y,by simp[asBool],?_⟩
   rw[e2];exact .pv (.bool _)
theorem fieldOf_spec {t:TypeId} {f:Nat} {p:Nat×TypeId} (h:fieldOf P t f=some p):∃fs fd,P.underlying t=some (.struct fs)∧fs[f]?=some fd∧p=(fd.offset,fd.type):=by
 unfold fieldOf at h
 cases hu:P.underlying t with
 |none=>simp[hu] at h
 | some d=>
  cases d<;>simp[hu] at h
  rename_i fs
  rw[nth_get?] at h
  cases hf:fs[f]? with
  |none=>simp[hf] at h
  |some fd=>
   simp[hf] at h
   exact ⟨fs,fd,rfl,hf,h.symm⟩
theorem run_fieldPlace {ad:Addr} {fd:Field} (h:P.cellsOf fd.type≠0) (hs:ad.spot=none) (w:World):(fieldPlace ad fd).run P w= .ok ⟨ad.block,ad.off+fd.offset,none⟩ w:=by
 obtain ⟨i,hi⟩:=info_of_cells h
 unfold fieldPlace
 rw[Sem.run_bind,run_sizeOf hi]
 simp only[Result.andThen_ok,if_neg h,Sem.run_pure]
 congr 1
 cases ad
 simp only at hs
 subst hs
 exact Addr.add_lit _ _ _
theorem fieldAddr_run {t:TypeId} {f:Nat} {x:AV} {v:Value} (hv:VR H μ w S x v) (hc:(fieldAddrE P t x f).chk=true):∃u,(Instr.fieldAt t v f).run P w= .ok u w∧VR H μ w S (fieldAddrE P t x f).val u:=by
 unfold fieldAddrE at hc⊢
 cases hp:fieldOf P t f with
 |none=>simp[hp,Eff.bad] at hc
 | some p=>
  obtain ⟨fs,fd,hu,hf,rfl⟩:=fieldOf_spec hp
  simp only[hp] at hc⊢
  have key:∀B off,P.cellsOf fd.type≠0→(Instr.fieldAt t (.pointer (some ⟨B,off,none⟩)) f).run P w= .ok (.pointer (some ⟨B,off+fd.offset,none⟩)) w:=by
   intro B off h0
   simp[Instr.fieldAt,run_underlying hu,hf,Instr.sureAddr,run_fieldPlace (ad:=⟨B,off,none⟩) h0 rfl]
  cases x<;>simp only[Eff.bad,Eff.v] at hc⊢ <;>try (simp at hc;done)
  ·rename_i b off
   have h0:P.cellsOf fd.type≠0:=by simpa using hc
   cases hv with
   |pv h=>cases h
   |ptr _ _ cs B hb hm=>exact ⟨_,key _ _ h0, .ptr _ _ cs B hb hm⟩
  ·rename_i b ver q i j
   have h0:P.cellsOf fd.type≠0:=by simpa using hc
   cases hv with
   |pv h=>cases h
   |tptr _ _ _ _ _ d B o hr hle hc'=>exact ⟨_,key _ _ h0, .tptr _ _ _ _ _ d B _ hr hle fun e=>by
    obtain ⟨hp,o0,cap,h1,h2⟩:=hc' e
    exact ⟨hp,o0,cap,by rw[h1];omega,h2⟩⟩
  ·rename_i b ver i j
   have h0:P.cellsOf fd.type≠0:=by simpa using hc
   cases hv with
   |pv h=>cases h
   |eptr _ _ _ _ r B o hr hle hc'=>exact ⟨_,key _ _ h0, .eptr _ _ _ _ r B _ hr hle fun e=>by
    obtain ⟨o0,cap,h1,h2⟩:=hc' e
    exact ⟨o0,cap,by rw[h1];omega,h2⟩⟩
  ·rename_i cs j
   have h0:P.cellsOf fd.type≠0:=by simpa using hc
   cases vr_rptr hv with
   |rptr _ _ B o u hS hcell hp=>exact ⟨_,key _ _ h0, .pv (by rw[Nat.add_assoc];exact .rptr cs _ B o u hS hcell hp)⟩
theorem pack_sound {t:TypeId} {cs:List AV} {vs:Array Value} (hl:cs.length=vs.size) (hn:isAggT P t=true∨cs.length=1) (h:∀i,i<cs.length→VR H μ w S (nth .junk cs i) (vs.getD i undef)):
  VR H μ w S (pack P t cs) (if isAggT P t then .agg vs else vs.getD 0 undef):=by
 unfold pack
 cases ha:isAggT P t with
 |true=>exact .agg cs vs hl h
 |false=>
  have h1:cs.length=1:=by simpa [ha] using hn
  exact h 0 (by omega)
theorem run_part {t:TypeId} {d:TypeDesc} (hu:P.underlying t=some d) {vs:Array Value} {off:Nat} (hf:off+P.cellsOf t≤vs.size) (hn:isAggT P t=true∨P.cellsOf t=1):
  (part t vs off).run P w= .ok (if isAggT P t then .agg (vs.extract off (off+P.cellsOf t)) else (vs.extract off (off+P.cellsOf t)).getD 0 undef) w:=by
 obtain ⟨i,hi⟩:=info_of_underlying hu
 unfold part
 rw[Sem.run_bind,run_isAgg hu]
 cases ha:isAggT P t with
 |true=>simp[run_sizeOf hi]
 |false=>
  have h1:P.cellsOf t=1:=by simpa [ha] using hn
  have h2:off<vs.size:=by omega
  simp[Array.getElem?_eq_getElem h2,h1,Array.getElem?_extract,Nat.min_eq_left (show off+1≤vs.size by omega)]
theorem seg_sound {cs:List AV} {vs:Array Value} (hl:cs.length=vs.size) (h:∀i,i<cs.length→VR H μ w S (nth .junk cs i) (vs.getD i undef)) {o n:Nat} (hf:o+n≤cs.length):
  (takeL (dropL cs o) n).length=(vs.extract o (o+n)).size∧∀i,i<(takeL (dropL cs o) n).length→VR H μ w S (nth .junk (takeL (dropL cs o) n) i) ((vs.extract o (o+n)).getD i undef):=by
 rw[takeL_eq,dropL_eq]
 have hs:(vs.extract o (o+n)).size=n:=by simp;omega
 refine ⟨by rw[hs];simp;omega,fun i hi=> ?_⟩
 have hi':i<n:=by simp at hi;omega
 rw[nth_take _ _ _ _ hi',nth_drop]
 have e:(vs.extract o (o+n)).getD i undef=vs.getD (o+i) undef:=by
  rw[Array.getD_eq_getD_getElem?,Array.getD_eq_getD_getElem?,Array.getElem?_extract]
  rw[if_pos (by omega)]
 rw[e]
 exact h (o+i) (by omega)
theorem fieldE_run {t:TypeId} {f:Nat} {x:AV} {v:Value} (hv:VR H μ w S x v) (hc:(fieldE P t x f).chk=true):∃u,(Instr.field t v f).run P w= .ok u w∧VR H μ w S (fieldE P t x f).val u:=by
 unfold fieldE at hc⊢
 cases hp:fieldOf P t f with
 |none=>simp[hp,Eff.bad] at hc
 | some p=>
  obtain ⟨fs,fd,hu,hf,rfl⟩:=fieldOf_spec hp
  simp only[hp] at hc⊢
  cases x<;>simp only[Eff.bad,Eff.v] at hc⊢ <;>try (simp at hc;done)
  rename_i cs
  obtain ⟨vs,rfl,hl,hcs⟩:=vr_agg hv
  simp only[Bool.and_eq_true,Nat.ble_eq] at hc
  obtain ⟨h1,h2⟩:=hc
  obtain ⟨d,hd,h2⟩:=fitT_spec h2
  obtain ⟨s1,s2⟩:=seg_sound (o:=fd.offset) (n:=P.cellsOf fd.type) hl hcs h1
  have h1':fd.offset+P.cellsOf fd.type≤vs.size:=by omega
  refine ⟨_,?_,pack_sound s1 ?_ s2⟩
  ·simp only[Instr.field,Sem.run_bind,run_underlying hu,Result.andThen_ok,hf,asAgg,Sem.run_pure]
   exact run_part hd h1' h2
  ·rcases h2 with h2|h2
   ·exact .inl h2
   ·refine .inr ?_
    rw[s1];simp;omega
theorem pv_ro_inv {k:CK} {xs:List (CT k)} {v:Value} (h:PV w S (.ro k xs) v):
  ∃A c,v= .slice A xs.length c∧(0<xs.length→xs.length≤c∧∃B o,∃u:Nat→Nat→Value,A=some ⟨B,o,none⟩∧S B∧(∀i j,i<xs.length→j<width k→w.cell? ⟨B,o+(i*width k+j),none⟩=some (u i j))∧(∀i j,i<xs.length→j<width k→PC w S (nth .junk (gt k xs i) j) (u i j))):=by
 cases h with
 |roNil _ A c=>exact ⟨A,c,rfl,fun h=>absurd h (by simp)⟩
 |ro _ _ _ B o c u hl hS hn hcell h1 hp=>subst hl;exact ⟨_,c,rfl,fun _=>⟨hn,B,o,u,rfl,hS,hcell,fun i j hi hj=>⟨hp i j hi hj,h1 i j hi hj⟩⟩⟩
theorem run_indexAt_slice {t e:TypeId} (hu:P.underlying t=some (.slice e)) (h0:0<P.cellsOf e) {B o len c:Nat} {k:IntKind} {i:Int} (hi0:0≤i) (hi:i<len):
  (Instr.indexAt t (.slice (some ⟨B,o,none⟩) len c) (.int k i)).run P w= .ok (.pointer (some ⟨B,o+i.toNat*P.cellsOf e,none⟩)) w:=by
 obtain ⟨inf,hinf⟩:=info_of_cells (P:=P) (t:=e) (by omega)
 have hs:=run_sizeOf hinf w
 simp only[Instr.indexAt,asIntOf,Sem.run_bind,Sem.run_pure,Result.andThen_ok,run_underlying hu]
 rw[if_pos ⟨hi0,hi⟩]
 rw[Sem.run_bind,hs]
 simp only[Result.andThen_ok,Sem.run_pure,Addr.add_lit]
theorem indexAddr_run {t:TypeId} {x ix:AV} {v vi:Value} (hv:VR H μ w S x v) (hvi:VR H μ w S ix vi) (hc:(indexAddrE P t H x ix).chk=true):
  ∃u,(Instr.indexAt t v vi).run P w= .ok u w∧VR H μ w S (indexAddrE P t H x ix).val u:=by
 unfold indexAddrE at hc⊢
 cases hu:P.underlying t with
 |none=>simp[hu,Eff.bad] at hc
 | some d=>
  cases d<;>simp only[hu,Eff.bad] at hc⊢ <;>try (simp at hc;done)
  ·rename_i e
   cases x<;>(try simp only[Eff.bad] at hc⊢)<;>try (simp at hc;done)
   ·rename_i b off n
    cases ix<;>simp only[Eff.bad,Eff.v] at hc⊢ <;>try (simp at hc;done)
    rename_i k i
    simp only[Bool.and_eq_true,Nat.blt_eq,decide_eq_true_eq] at hc
    obtain ⟨h0,hi0,hi⟩:=hc
    rw[vr_int hvi]
    cases hv with
    |pv h=>cases h
    |csl _ _ _ cs B c hb hm hnc=>
     refine ⟨_,run_indexAt_slice hu h0 hi0 hi,?_⟩
     exact .ptr b _ cs B hb hm
   ·rename_i b ver p
    cases ix<;>simp only[Eff.bad,Eff.v] at hc⊢ <;>try (simp at hc;done)
    rename_i k i
    simp only[Bool.and_eq_true,Nat.blt_eq,decide_eq_true_eq,beq_iff_eq] at hc
    obtain ⟨h0,hsz,hver,hi0,hi⟩:=hc
    rw[vr_int hvi]
    cases hv with
    |pv h=>cases h
    |tsl _ _ _ d n A c hd hle h3=>
     simp only[tabVer,hd,beq_iff_eq] at hver
     simp only[tabN,hd] at hi
     simp only[tabSz,hd] at hsz
     obtain ⟨q0,q1,q2,q3⟩:=h3 hver.symm
     obtain ⟨B,o,rfl⟩:=q3 (by omega)
     exact ⟨_,run_indexAt_slice hu h0 hi0 (by omega), .tptr _ _ _ _ _ d B _ hd hle fun _=>⟨q0,o,c,by rw[hsz];rfl,by rw[q1,q2]⟩⟩
   ·rename_i b ver off len
    cases ix<;>simp only[Eff.bad,Eff.v] at hc⊢ <;>try (simp at hc;done)
    rename_i k i
    simp only[Bool.and_eq_true,Nat.blt_eq,decide_eq_true_eq,beq_iff_eq] at hc
    obtain ⟨h0,hsz,hver,hi0,hi⟩:=hc
    rw[vr_int hvi]
    cases hv with
    |pv h=>cases h
    | sl _ _ _ _ ln r A c hr hle hlc hA hcur=>
     obtain ⟨hwn,hl,hs⟩:=hcur (by simp[verOf,hr] at hver;exact hver.symm)
     have hi:i<ln:=by simp only[nOf,hr] at hi;rw[hwn];exact hi
     obtain ⟨B,o,rfl⟩:=hA (by omega)
     refine ⟨_,run_indexAt_slice hu h0 hi0 hi, .eptr _ _ _ _ r B _ hr hle fun e'=> ?_⟩
     have hsz':r.sz=P.cellsOf e:=by simpa [szOf,hr] using hsz
     rcases hs with ⟨_,_,hz,_⟩|⟨B',o0,cap,A',hm,hfit,hv',hA'⟩
     ·omega
     ·simp only[Value.slice.injEq,Option.some.injEq] at hv'
      obtain ⟨rfl,_,_⟩:=hv'
      have hlt:off<cap:=by omega
      have hA2:=hA' (.inr hlt)
      simp only[Addr.mk.injEq] at hA2
      obtain ⟨rfl,rfl,_⟩:=hA2
      exact ⟨o0,cap,by rw[addN_eq,hsz',Nat.add_mul];omega,hm⟩
   ·rename_i kk xs
    cases ix<;>simp only[Eff.bad,Eff.v] at hc⊢ <;>try (simp at hc;done)
    rename_i k i
    simp only[Bool.and_eq_true,Nat.blt_eq,decide_eq_true_eq,beq_iff_eq] at hc
    obtain ⟨h0,hkw,hi0,hi⟩:=hc
    rw[vr_int hvi]
    obtain ⟨A,c,rfl,hx⟩:=pv_ro_inv (vr_ro hv)
    obtain ⟨hn,B,o,u,rfl,hS,hcell,hp⟩:=hx (by omega)
    have hin:i.toNat<xs.length:=by omega
    refine ⟨_,run_indexAt_slice hu h0 hi0 hi, .pv ?_⟩
    refine .rptr (gt kk xs i.toNat) 0 B (o+i.toNat*P.cellsOf e) (fun j=>u i.toNat j) hS (fun j hj=> ?_) fun j hj=> ?_
    ·rw[gt_length] at hj;rw[Nat.add_assoc,←hkw];exact hcell _ _ hin hj
    ·rw[gt_length] at hj;exact (hp _ _ hin hj).1
  ·rename_i n e
   cases x<;>(try simp only[Eff.bad] at hc⊢)<;>try (simp at hc;done)
   ·rename_i b off
    cases ix<;>simp only[Eff.bad,Eff.v] at hc⊢ <;>try (simp at hc;done)
    rename_i k i
    simp only[Bool.and_eq_true,Nat.blt_eq,decide_eq_true_eq] at hc
    obtain ⟨h1,h0,hi0,hi⟩:=hc
    rw[vr_int hvi]
    cases hv with
    |pv h=>cases h
    |ptr _ _ cs B hb hm=>
     obtain ⟨inf,hinf⟩:=info_of_cells (P:=P) (t:=e) (by omega)
     have hs:=run_sizeOf hinf w
     refine ⟨.pointer (some ⟨B,off+i.toNat*P.cellsOf e,none⟩),?_, .ptr _ _ cs B hb hm⟩
     simp only[Instr.indexAt,asIntOf,Sem.run_bind,Sem.run_pure,Result.andThen_ok,run_underlying hu,Instr.sureAddr]
     rw[if_pos ⟨hi0,hi⟩]
     rw[Sem.run_bind,hs]
     simp only[Result.andThen_ok,Sem.run_pure,Addr.add_lit]
   ·rename_i cs jj
    cases ix<;>simp only[Eff.bad,Eff.v] at hc⊢ <;>try (simp at hc;done)
    rename_i k i
    simp only[Bool.and_eq_true,Nat.blt_eq,decide_eq_true_eq,beq_iff_eq] at hc
    obtain ⟨rfl,h0,hkw,hl,hok,hi0,hi⟩:=hc
    rw[vr_int hvi]
    cases hv with
    | pv h=>
     cases h with
     | rptr _ _ B o u hS hcell hp=>
      obtain ⟨inf,hinf⟩:=info_of_cells (P:=P) (t:=e) (by omega)
      have hs:=run_sizeOf hinf w
      refine ⟨.pointer (some ⟨B,o+0+i.toNat*P.cellsOf e,none⟩),?_,?_⟩
      ·simp only[Instr.indexAt,asIntOf,Sem.run_bind,Sem.run_pure,Result.andThen_ok,run_underlying hu,Instr.sureAddr]
       rw[if_pos ⟨hi0,hi⟩]
       rw[Sem.run_bind,hs]
       simp only[Result.andThen_ok,Sem.run_pure,Addr.add_lit]
      ·have hin:i.toNat<n:=by omega
       have hfit:∀q,q<P.cellsOf e→i.toNat*P.cellsOf e+q<cs.length:=fun q hq=>by
        have:(i.toNat+1)*P.cellsOf e≤n*P.cellsOf e:=Nat.mul_le_mul_right _ (by omega)
        rw[Nat.succ_mul] at this
        omega
       refine .pv (.rptr _ 0 B (o+0+i.toNat*P.cellsOf e) (fun q=>u (i.toNat*P.cellsOf e+q)) hS (fun q hq=> ?_) fun q hq=> ?_)
       ·rw[gt_length,hkw] at hq
        rw[show o+0+i.toNat*P.cellsOf e+q=o+(i.toNat*P.cellsOf e+q) by omega]
        exact hcell _ (hfit q hq)
       ·rw[gt_length,hkw] at hq
        have:=chunks_sound (w:=w) (S:=S) (kE P e) n cs u hok (fun q hq=>hp q (by rw[hl,←hkw];exact hq)) i.toNat hin q (by omega)
        rwa [hkw] at this
theorem run_loadVar {t:TypeId} {d:TypeDesc} (hu:P.underlying t=some d) (hn:isAggT P t=true∨P.cellsOf t=1) {B o:Nat} {f:Nat→Value} (hf:∀j,j<P.cellsOf t→w.cell? ⟨B,o+j,none⟩=some (f j)):
  (loadVar t ⟨B,o,none⟩).run P w= .ok (if isAggT P t then .agg ((List.range (P.cellsOf t)).map f).toArray else f 0) w:=by
 obtain ⟨i,hi⟩:=info_of_underlying hu
 unfold loadVar
 rw[Sem.run_bind,run_isAgg hu]
 cases ha:isAggT P t with
 |true=>
  have hl:=run_loadCells (P:=P) w ⟨B,o,none⟩ (P.cellsOf t) f (fun j hj=>by rw[Addr.add_lit];exact hf j hj)
  simp[run_sizeOf hi,hl]
 |false=>
  have h1:P.cellsOf t=1:=by simpa [ha] using hn
  have:=hf 0 (by omega)
  simp only[Nat.add_zero] at this
  simp[this]
theorem pack_loaded {t:TypeId} (hn:isAggT P t=true∨P.cellsOf t=1) {cs:List AV} {f:Nat→Value} (hl:cs.length=P.cellsOf t) (h:∀i,i<P.cellsOf t→VR H μ w S (nth .junk cs i) (f i)):
  VR H μ w S (pack P t cs) (if isAggT P t then .agg ((List.range (P.cellsOf t)).map f).toArray else f 0):=by
 have hp:=pack_sound (P:=P) (t:=t) (cs:=cs) (vs:=((List.range (P.cellsOf t)).map f).toArray) (H:=H) (μ:=μ) (w:=w) (S:=S) (by simp[hl]) (by rw[hl];exact hn) (fun i hi=>by
  have hi':i<P.cellsOf t:=by omega
  have e:((List.range (P.cellsOf t)).map f).toArray.getD i undef=f i:=by simp[Array.getD_eq_getD_getElem?,hi']
  rw[e];exact h i hi')
 cases ha:isAggT P t with
 |true=>simpa [ha] using hp
 |false=>
  have h1:P.cellsOf t=1:=by simpa [ha] using hn
  simpa [ha,h1,Array.getD_eq_getD_getElem?] using hp
theorem HR.cellsB {base:Nat→Prop} {b:Nat} (h:HR H μ w S base) {cs:List AV} (hb:nth .free H b= .cells cs):∃B arr t,μ b= .pointer (some ⟨B,0,none⟩)∧w.heap[B]?=some (.cells arr t (0,0))∧base B∧¬S B∧arr.size=cs.length∧∀i,i<cs.length→VR H μ w S (nth .junk cs i) (arr.getD i undef):=by
 have:=h.blk b
 rw[hb] at this
 exact this
theorem HR.rdB {base:Nat→Prop} {b:Nat} (h:HR H μ w S base) {r:Rd} (hb:rdOf (nth .free H b)=some r):RowV w (fun _=>True) (PC w S) (μ b) r.e r.k r.xs:=by
 have:=h.blk b
 cases hx:nth .free H b with
 |free=>simp[hx,rdOf] at hb
 |cells cs=>simp[hx,rdOf] at hb
 |map _ _ _ _ _=>simp[hx,rdOf] at hb
 |fmap _ _ _ _ _=>simp[hx,rdOf] at hb
 |iter _ _ _ _ _ _=>simp[hx,rdOf] at hb
 |tab _ _ _ _ _ _ _ _=>simp[hx,rdOf] at hb
 |row ver e k xs=>
  rw[hx] at this hb
  simp[rdOf] at hb
  subst hb
  exact this.2.imp (fun _ _=>trivial) (fun _ _=>rfl) (fun _ _ h=>h)
 |fro ver e k xs=>
  rw[hx] at this hb
  simp[rdOf] at hb
  subst hb
  exact this.2
theorem HR.tabB {base:Nat→Prop} {b:Nat} (h:HR H μ w S base) {d:TD} (hb:tabD (nth .free H b)=some d):TabV w (fun _=>True) S d.os d.hole d.e d.k d.xs (μ b):=by
 have hk:=h.blk b
 cases hx:nth .free H b<;>rw[hx] at hb<;>try (cases hb;done)
 rename_i fz ver iv e k os xs hole
 rw[hx] at hk
 simp only[tabD,Option.some.injEq] at hb
 subst hb
 cases fz with
 |true=>exact hk.2
 |false=>exact hk.2.imp (fun _ _=>trivial) (fun _ _=>rfl) fun _ _ h=>h
theorem loadE_run {base:Nat→Prop} {t:TypeId} {x:AV} {v:Value} (hh:HR H μ w S base) (hv:VR H μ w S x v) (hc:(loadE P t H x).chk=true):∃u,(Instr.loadAt t v).run P w= .ok u w∧VR H μ w S (loadE P t H x).val u:=by
 unfold loadE at hc⊢
 cases x<;>(try simp only[Eff.bad,Eff.v] at hc⊢)<;>try (simp at hc;done)
 ·rename_i b off
  cases hb:nth .free H b<;>(try simp only[hb] at hc⊢)<;>try (simp at hc;done)
  rename_i cs
  simp only[Bool.and_eq_true,Nat.ble_eq] at hc
  obtain ⟨h1,h2⟩:=hc
  obtain ⟨d,hd,h2⟩:=fitT_spec h2
  obtain ⟨B,arr,t',hm,hg,_,_,hl,hcs⟩:=hh.cellsB hb
  cases hv with
  |pv h=>cases h
  | ptr _ _ cs' B' hb' hm'=>
   have e:B'=B:=by rw[hm'] at hm;simpa using hm
   subst e
   have hcell:∀j,j<P.cellsOf t→w.cell? ⟨B',off+j,none⟩=some (arr.getD (off+j) undef):=fun j hj=>by
    rw[cell_of_row w B' _ arr t' (0,0) hg,Array.getD_eq_getD_getElem?,Array.getElem?_eq_getElem (show off+j<arr.size by omega)];rfl
   refine ⟨_,by simp only[Instr.loadAt,Instr.sureAddr,Sem.run_bind,Sem.run_pure,Result.andThen_ok];exact run_loadVar hd h2 hcell,?_⟩
   rw[ldC_eq h1]
   refine pack_loaded h2 (by rw[takeL_eq,dropL_eq];simp;omega) fun i hi=> ?_
   rw[takeL_eq,dropL_eq,nth_take _ _ _ _ hi,nth_drop]
   exact hcs _ (by omega)
 ·rename_i b ver p i j
  cases hb:tabD (nth .free H b)<;>(try simp only[hb] at hc⊢)<;>try (simp at hc;done)
  rename_i r
  simp only[Bool.and_eq_true,Nat.ble_eq,beq_iff_eq,decide_eq_true_eq] at hc
  obtain ⟨rfl,hfit,h2,hi,hol⟩:=hc
  obtain ⟨d,hd',h2⟩:=fitT_spec h2
  cases hv with
  |pv h=>cases h
  | tptr _ _ _ _ _ r' B o hr hle hcur=>
   rw[hb] at hr
   obtain rfl:r=r':=by simpa using hr
   obtain ⟨hpo,o0,cap',rfl,hm⟩:=hcur rfl
   have ht:=hh.tabB hb
   have hol:r.hole=none:=by cases hq:r.hole<;>rw[hq] at hol<;>first|rfl|simp at hol
   rw[hol] at ht
   have hnode:=(TabV.node p ⟨r.e,r.k,r.xs⟩ ht hpo).1
   have hnd:r.nd p=nodeAt r.os ⟨r.e,r.k,r.xs⟩ p:=rfl
   rw[←hnd] at hnode
   rcases hnode.inv (by simp) with ⟨hx,_⟩|⟨B',o1,cap,cur,F,himg,q⟩
   ·rw[hx] at hi;simp at hi
   ·have hm':hdAt (μ b) p= .slice (some ⟨B',o1,none⟩) (r.nd p).xs.length cap:=by rw[hdAt,himg,hd_img]
    rw[hm] at hm'
    simp only[Value.slice.injEq,Option.some.injEq,Addr.mk.injEq,and_true,true_and] at hm'
    obtain ⟨⟨rfl,rfl⟩,rfl⟩:=hm'
    have hlt:∀j',j'<width (r.nd p).k→o0+(i*width (r.nd p).k+j')<cur.size:=fun j' hj'=>by
     rw[q.sz]
     have h1:(i+1)*width (r.nd p).k≤cap'*width (r.nd p).k:=Nat.mul_le_mul_right _ (by have:=q.le;omega)
     rw[Nat.add_mul] at h1
     omega
    have hcell:∀j',j'<P.cellsOf t→w.cell? ⟨B,o0+(i*width (r.nd p).k+j)+j',none⟩=some (cur.getD (o0+(i*width (r.nd p).k+(j+j'))) undef):=fun j' hj'=>by
     rw[cell_of_row w B _ cur _ (0,0) q.at',Nat.add_assoc,Nat.add_assoc,Array.getD_eq_getD_getElem?,Array.getElem?_eq_getElem (hlt _ (by omega))];rfl
    refine ⟨_,by simp only[Instr.loadAt,Instr.sureAddr,Sem.run_bind,Sem.run_pure,Result.andThen_ok];exact run_loadVar hd' h2 hcell,?_⟩
    have hgl:(gt (r.nd p).k (r.nd p).xs i).length=width (r.nd p).k:=gt_length _ _ _
    refine pack_loaded h2 (by rw[takeL_eq,dropL_eq];simp[ownCells_length];omega) fun i' hi'=> ?_
    rw[takeL_eq,dropL_eq,nth_take _ _ _ _ hi',nth_drop,ownCells_nth _ _ _ (by omega),Nat.zero_add]
    cases ho:ownC r.os (r.nd p).k (j+i') with
    |none=>exact .pv (q.pure i (j+i') hi (by omega) ho).1.1
    |some ek=>
     have hsub:=q.tab i (j+i') ek.1 ek.2 hi (by omega) ho
     rw[hsub_none] at hsub
     obtain ⟨A,n,c,e1,e2,e3,_⟩:=hsub.hd_slice
     have e0:=(q.hdr i (j+i') ek.1 ek.2 hi (by omega) ho).2 (by rw[hsub_none];simp)
     simp only
     rw[e0,e1]
     have hat:imgAt (μ b) (p++[(i,j+i')])=F i (j+i'):=by rw[imgAt_snoc,himg,subI_img hi (by omega)]
     refine .tsl b _ _ r n A c hb (by rw[vp_snoc];exact Nat.le_refl _) fun _=>⟨pathOk_snoc p _ hpo ho hi (show j+i'<width (r.nd p).k by omega),by rw[hdAt,hat];exact e1,?_,e3⟩
     rw[e2,show r.nd (p++[(i,j+i')])=_ from nodeAt_snoc p _ hpo ho]
     rfl
 ·rename_i b ver i j
  cases hb:rdOf (nth .free H b)<;>(try simp only[hb] at hc⊢)<;>try (simp at hc;done)
  rename_i r
  simp only[Bool.and_eq_true,Nat.ble_eq,beq_iff_eq,decide_eq_true_eq] at hc
  obtain ⟨rfl,hfit,h2,hi⟩:=hc
  have hrs:r.sz=width r.k:=rfl
  have hrn:r.n=r.xs.length:=rfl
  obtain ⟨d,hd,h2⟩:=fitT_spec h2
  cases hv with
  |pv h=>cases h
  | eptr _ _ _ _ r' B o hr hle hcur=>
   rw[hb] at hr
   obtain rfl:r=r':=by simpa using hr
   obtain ⟨o0,cap',rfl,hm⟩:=hcur rfl
   rcases hh.rdB hb with ⟨hz,_⟩|⟨B',o1,cap,cur,hm',_,hg,hn,_,hsz,hrow⟩
   ·rw[hz] at hm;simp at hm
   ·rw[hm] at hm'
    simp only[Value.slice.injEq,Option.some.injEq,Addr.mk.injEq,and_true,true_and] at hm'
    obtain ⟨⟨rfl,rfl⟩,_,rfl⟩:=hm'
    have hcs:=hrow i (by omega)
    have hlt:∀j',j'<r.sz→o0+(i*r.sz+j')<cur.size:=fun j' hj'=>by
     rw[hsz]
     have:(i+1)*r.sz≤cap'*r.sz:=Nat.mul_le_mul_right _ (by omega)
     rw[Nat.add_mul] at this
     rw[←hrs]
     omega
    have hcell:∀j',j'<P.cellsOf t→w.cell? ⟨B,o0+(i*r.sz+j)+j',none⟩=some (cur.getD (o0+(i*r.sz+(j+j'))) undef):=fun j' hj'=>by
     rw[cell_of_row w B _ cur _ (0,0) hg,Nat.add_assoc,Nat.add_assoc,Array.getD_eq_getD_getElem?,Array.getElem?_eq_getElem (hlt _ (by omega))];rfl
    refine ⟨_,by simp only[Instr.loadAt,Instr.sureAddr,Sem.run_bind,Sem.run_pure,Result.andThen_ok];exact run_loadVar hd h2 hcell,?_⟩
    have hgl:(r.get i).length=r.sz:=gt_length _ _ _
    refine pack_loaded h2 (by rw[takeL_eq,dropL_eq];simp;omega) fun i' hi'=> .pv ?_
    rw[takeL_eq,dropL_eq,nth_take _ _ _ _ hi',nth_drop]
    exact (hcs (j+i') (by omega)).1
 ·rename_i cs j
  simp only[Bool.and_eq_true,Nat.ble_eq] at hc
  obtain ⟨h2,hfit⟩:=hc
  obtain ⟨d,hd,h2⟩:=fitT_spec h2
  cases vr_rptr hv with
  | rptr _ _ B o u hS hcell hp=>
   have hcell':∀j',j'<P.cellsOf t→w.cell? ⟨B,o+j+j',none⟩=some (u (j+j')):=fun j' hj'=>by
    rw[Nat.add_assoc];exact hcell _ (by omega)
   refine ⟨_,by simp only[Instr.loadAt,Instr.sureAddr,Sem.run_bind,Sem.run_pure,Result.andThen_ok];exact run_loadVar hd h2 hcell',?_⟩
   refine pack_loaded h2 (by rw[takeL_eq,dropL_eq];simp;omega) fun i' hi'=> .pv ?_
   rw[takeL_eq,dropL_eq,nth_take _ _ _ _ hi',nth_drop]
   exact hp (j+i') (by omega)
theorem run_part1 {t:TypeId} {d:TypeDesc} (hu:P.underlying t=some d) (ha:isAggT P t=false) {vs:Array Value} {i:Nat} (h:i<vs.size):(part t vs i).run P w= .ok (vs.getD i undef) w:=by
 unfold part
 rw[Sem.run_bind,run_isAgg hu,ha]
 simp[Array.getD_eq_getD_getElem?,Array.getElem?_eq_getElem h]
def eqBody (vs us:Array Value) (d:Nat) (f:Field) (_:Option Bool×Unit):Sem (ForInStep (Option Bool×Unit)):=
 if f.name≠ "_" then do
  let a ←part f.type vs f.offset
  let b ←part f.type us f.offset
  let c ←Op.equalIn (d+1) f.type a b
  if (!c)=true then pure (ForInStep.done (some false,()))
   else pure (ForInStep.yield (none,()))
 else pure (ForInStep.yield (none,()))
theorem eqBody_run {vs us:Array Value} {d:Nat} {f:Field} {z:Option Bool×Unit} (hn:f.name≠ "_") {dd:TypeDesc} (hdd:P.underlying f.type=some dd) (ha:isAggT P f.type=false) (h1:f.offset<vs.size) (h2:f.offset<us.size) {r:Bool}
  (hrun:(Op.equalIn (d+1) f.type (vs.getD f.offset undef) (us.getD f.offset undef)).run P w= .ok r w):
  (eqBody vs us d f z).run P w= .ok (if r then ForInStep.yield (none,()) else ForInStep.done (some false,())) w:=by
 unfold eqBody
 simp only[hn,ne_eq,not_false_eq_true,if_true,Sem.run_bind,run_part1 hdd ha h1,run_part1 hdd ha h2,Result.andThen_ok,hrun]
 cases r<;>simp
theorem cell_eq_run {d:Nat} {f:Field} {x y:AV} {a b:Value} {l:List Field} {xs ys:List AV} (hx:VR H μ w S x a) (hy:VR H μ w S y b) (hok:eqCellsOk (flatK P (f::l)) (x::xs) (y::ys)=true)
  (hk:(match P.underlying f.type with|some .bool=>true|some (.int _)=>true|some .string=>true|_=>false)=true):
  ∃r dd,P.underlying f.type=some dd∧isAggT P f.type=false∧(Op.equalIn (d+1) f.type a b).run P w= .ok r w∧eqCellsOk (flatK P l) xs ys=true∧eqCells (flatK P (f::l)) (x::xs) (y::ys)=(r&&eqCells (flatK P l) xs ys):=by
 cases hkk:P.underlying f.type with
 |none=>simp[hkk] at hk
 | some dk=>
  cases dk<;>simp[hkk] at hk<;>simp only[flatK,hkk,eqCellsOk,Bool.and_eq_true] at hok
  ·obtain ⟨⟨h1,h2⟩,h3⟩:=hok
   cases x<;>simp[isB] at h1
   cases y<;>simp[isB] at h2
   rw[vr_bool hx,vr_bool hy]
   exact ⟨_,_,rfl,by simp[isAggT,hkk],run_equalIn_bool w d _ _ _ hkk,h3,by simp[flatK,hkk,eqCells,asB]⟩
  ·obtain ⟨⟨h1,h2⟩,h3⟩:=hok
   cases x<;>simp[isInt] at h1
   cases y<;>simp[isInt] at h2
   subst h1 h2
   rw[vr_int hx,vr_int hy]
   exact ⟨_,_,rfl,by simp[isAggT,hkk],by simp[Op.equalIn,run_underlying hkk];rfl,h3,by simp[flatK,hkk,eqCells,asInt]⟩
  ·obtain ⟨⟨h1,h2⟩,h3⟩:=hok
   cases x<;>simp[isStr] at h1
   cases y<;>simp[isStr] at h2
   rename_i s1 s2
   obtain ⟨b1,rfl,rfl⟩:=vr_str hx
   obtain ⟨b2,rfl,rfl⟩:=vr_str hy
   exact ⟨b1==b2,_,rfl,by simp[isAggT,hkk],by simp[Op.equalIn,run_underlying hkk],h3,by simp only[flatK,hkk,eqCells,asStr,str_beq]⟩
theorem fields_eq_run (vs us:Array Value) (d:Nat):∀(l:List Field) (i:Nat) (xs ys:List AV),flatL P l i=true→eqCellsOk (flatK P l) xs ys=true→i+xs.length≤vs.size→i+ys.length≤us.size→
  (∀j,j<xs.length→VR H μ w S (nth .junk xs j) (vs.getD (i+j) undef))→(∀j,j<ys.length→VR H μ w S (nth .junk ys j) (us.getD (i+j) undef))→
  (forIn (m:=Sem) l ((none:Option Bool),()) (eqBody vs us d)).run P w= .ok (if eqCells (flatK P l) xs ys then (none,()) else (some false,())) w
 |[],i,xs,ys,_,_,_,_,_,_=>by simp[flatK,eqCells]
 | f ::l,i,xs,ys,hf,hok,hv,hu,hx,hy=>by
  simp only[flatL,Bool.and_eq_true,beq_iff_eq] at hf
  obtain ⟨ho,hnm,hk,hf⟩:=hf
  cases xs with
  |nil=>simp[flatK,eqCellsOk] at hok
  | cons x xs=>
   cases ys with
   |nil=>simp[flatK,eqCellsOk] at hok
   | cons y ys=>
    have hnm':f.name≠ "_" :=by simpa using hnm
    simp only[List.length_cons] at hv hu hx hy
    have hx0:=hx 0 (by omega)
    have hy0:=hy 0 (by omega)
    simp only[nth,Nat.add_zero] at hx0 hy0
    obtain ⟨r,dd,hdd,ha,hrun,h2,he⟩:=cell_eq_run (d:=d) hx0 hy0 hok hk
    have ih:=fields_eq_run vs us d l (i+1) xs ys hf h2 (by omega) (by omega) (fun j hj=>by have:=hx (j+1) (by omega);rwa [show i+(j+1)=i+1+j by omega] at this)
     (fun j hj=>by have:=hy (j+1) (by omega);rwa [show i+(j+1)=i+1+j by omega] at this)
    subst ho
    rw[List.forIn_cons,Sem.run_bind,eqBody_run hnm' hdd ha (by omega) (by omega) hrun,he]
    cases r with
    |false=>simp
    |true=>simpa using ih
theorem agg_eq_run {t:TypeId} {xs ys:List AV} {vs us:Array Value} (hf:flatT P t=true) (hlv:xs.length=vs.size) (hv:∀i,i<xs.length→VR H μ w S (nth .junk xs i) (vs.getD i undef)) (hlu:ys.length=us.size)
  (hw:∀i,i<ys.length→VR H μ w S (nth .junk ys i) (us.getD i undef)) (hok:eqCellsOk (flatK P (fieldsOf P t)) xs ys=true):
  (Op.equal t (.agg vs) (.agg us)).run P w= .ok (eqCells (flatK P (fieldsOf P t)) xs ys) w:=by
 obtain ⟨fs,hu,hst,hfl,hfs⟩:=flat_spec hf
 rw[hfs] at hok⊢
 have hrun:=fields_eq_run (P:=P) (H:=H) (μ:=μ) (w:=w) (S:=S) vs us 9998 fs.toList 0 xs ys hfl hok (by omega) (by omega) (by simpa using hv) (by simpa using hw)
 unfold Op.equal Op.maxDepth Op.equalIn
 simp only[Sem.run_bind,run_underlying hu,Result.andThen_ok,run_program,hst,Bool.false_eq_true,if_false]
 rw[←Array.forIn_toList]
 refine (congrArg (fun z=>Result.andThen z _) hrun).trans ?_
 cases eqCells (flatK P fs.toList) xs ys<;>simp
theorem run_eql_nil {t e:TypeId} (hu:P.underlying t=some (.slice e)) {A:Option Addr} {n c:Nat}:(binOp .eql t (.slice A n c) (.slice none 0 0)).run P w= .ok (.bool (!A.isSome)) w:=by
 have h:(!A.isSome)=A.isNone:=by cases A<;>rfl
 simp only[binOp]
 rw[h]
 simp[run_equal_slice_nil w t e A n c hu]
theorem run_neq_nil {t e:TypeId} (hu:P.underlying t=some (.slice e)) {A:Option Addr} {n c:Nat}:(binOp .neq t (.slice A n c) (.slice none 0 0)).run P w= .ok (.bool A.isSome) w:=by
 have h:A.isSome= !A.isNone:=by cases A<;>rfl
 simp only[binOp]
 rw[h]
 simp[run_equal_slice_nil w t e A n c hu]
theorem binE_run {op:BinOp} {t:TypeId} {x y:AV} {px py:Operand} {v u:Value} (hx:VR H μ w S x v) (hy:VR H μ w S y u) (hc:(binE P op t x y).chk=true):
  ∃r,(do eqGuard op t px py v u;binOp op t v u:Sem Value).run P w= .ok r w∧VR H μ w S (binE P op t x y).val r:=by
 have g0:(∀cs,v≠ .agg cs)→v≠ .nilIface→∀r,(binOp op t v u).run P w= .ok r w→(do eqGuard op t px py v u;binOp op t v u:Sem Value).run P w= .ok r w:=fun h1 h2 r hr=>by
  rw[Sem.run_bind,eqGuard_int h1 h2];exact hr
 unfold binE at hc⊢
 cases x<;>(try simp only[Eff.bad] at hc⊢)<;>try (simp at hc;done)
 ·cases y<;>(try simp only[Eff.bad] at hc⊢)<;>try (simp at hc;done)
  rename_i a b
  rw[vr_bool hx,vr_bool hy] at g0⊢
  cases hu:P.underlying t with
  |none=>cases op<;>simp[hu,Eff.bad] at hc
  |some d=>
   cases op<;>cases d<;>simp[hu,Eff.bad,Eff.v] at hc⊢
   ·exact ⟨_,g0 (by simp) (by simp) _ (run_eql_bool w t a b hu), .pv (.bool _)⟩
   ·exact ⟨_,g0 (by simp) (by simp) _ (run_neq_bool w t a b hu), .pv (.bool _)⟩
 ·cases y<;>(try simp only[Eff.bad] at hc⊢)<;>try (simp at hc;done)
  rename_i k a k' b
  rw[vr_int hx,vr_int hy] at g0⊢
  cases hs:isShift op with
  |true=>
   cases op<;>simp[isShift] at hs<;>simp[Eff.v] at hc⊢
   ·refine ⟨_,g0 (by simp) (by simp) _ (by simp[binOp,Op.shift,shlI,shrI,show ¬b<0 by omega]), .pv (.int _ _)⟩
   ·refine ⟨_,g0 (by simp) (by simp) _ (by simp[binOp,Op.shift,shlI,shrI,show ¬b<0 by omega]), .pv (.int _ _)⟩
  |false=>
   have hc':decide (k=k')=true∧(intOp op k a b).chk=true:=by cases op<;>simp[isShift] at hs<;>simpa using hc
   obtain ⟨hk,hc2⟩:=hc'
   obtain rfl:k=k':=by simpa using hk
   obtain ⟨r,hr,hv⟩:=binInt_run (P:=P) (t:=t) (H:=H) (μ:=μ) (w:=w) (S:=S) hs hc2
   refine ⟨r,g0 (by simp) (by simp) _ hr,?_⟩
   cases op<;>simp[isShift] at hs<;>exact hv
 ·cases y<;>(try simp only[Eff.bad] at hc⊢)<;>try (simp at hc;done)
  rename_i a b
  obtain ⟨ba,rfl,rfl⟩:=vr_str hx
  obtain ⟨bb,rfl,rfl⟩:=vr_str hy
  cases op<;>simp only[Eff.bad,Eff.v,str_beq] at hc⊢ <;>try (simp at hc;done)
  ·have hle:=of_decide_eq_true hc
   refine ⟨.string (ba++bb),g0 (by simp) (by simp) _ ?_,?_⟩
   ·have hn:¬((ba.size+bb.size:Nat):Int)>IntKind.i64.max:=by
     have h1:ba.data.toList.length=ba.size:=by cases ba;exact Array.length_toList
     have h2:bb.data.toList.length=bb.size:=by cases bb;exact Array.length_toList
     have h3:IntKind.i64.max=9223372036854775807:=rfl
     rw[h3];omega
    simp only[binOp,Op.stringOp]
    rw[if_neg hn]
    rfl
   ·have e:ba.data.toList++bb.data.toList=(ba++bb).data.toList:=by simp
    rw[e]
    exact .pv (.str _)
  ·exact ⟨_,g0 (by simp) (by simp) _ (by simp only[←str_beq,←str_toList];simp[binOp,Op.stringOp]), .pv (.bool _)⟩
  ·exact ⟨_,g0 (by simp) (by simp) _ (by simp only[←str_beq,←str_toList];simp[binOp,Op.stringOp]), .pv (.bool _)⟩
 ·cases y<;>(try simp only[Eff.bad] at hc⊢)<;>try (simp at hc;done)
  rename_i nn k xs
  rw[vr_nils hy] at g0⊢
  cases hx with
  | pv h=>
   cases h with
   | rk _ _ A n c _=>
    cases hu:P.underlying t with
    |none=>cases op<;>simp[hu,Eff.bad] at hc
    |some d=>
     cases op<;>cases d<;>simp only[hu,Eff.bad,Eff.v] at hc⊢ <;>try (simp at hc;done)
     ·exact ⟨_,g0 (by simp) (by simp) _ (run_eql_nil hu), .pv (.bool _)⟩
     ·exact ⟨_,g0 (by simp) (by simp) _ (run_neq_nil hu), .pv (.bool _)⟩
 ·cases y<;>(try simp only[Eff.bad] at hc⊢)<;>try (simp at hc;done)
  rename_i a b
  obtain ⟨vs,rfl,hl1,h1⟩:=vr_agg hx
  obtain ⟨us,rfl,hl2,h2⟩:=vr_agg hy
  have gg:∀op',flatT P t=true→(eqGuard op' t px py (.agg vs) (.agg us)).run P w= .ok () w:=fun op' hf=>by
   have hq:P.eqGuardType P.depth t=false:=flat_eqGuard hf _
   unfold eqGuard
   cases op'<;>simp[hq]
  cases op<;>simp[Eff.bad,Eff.v] at hc⊢
  ·obtain ⟨hf,hok⟩:=hc
   refine ⟨_,?_, .pv (.bool _)⟩
   rw[gg _ hf]
   simp[binOp,agg_eq_run hf hl1 h1 hl2 h2 hok]
  ·obtain ⟨hf,hok⟩:=hc
   refine ⟨_,?_, .pv (.bool _)⟩
   rw[gg _ hf]
   simp[binOp,agg_eq_run hf hl1 h1 hl2 h2 hok]
theorem VR.asL {k:CK} {v:AV} {u:Value} (h:VR H μ w S v u) (hk:isRo k v=true):VR H μ w S (.ro k (Go.Abs.asL k v)) u:=by
 cases h with
 |pv h=>exact .pv (h.asL hk)
 |_=>simp[isRo] at hk
theorem VR.asM {ka va:Bool} {kk vk:CK} {v:AV} {u:Value} (h:VR H μ w S v u) (hk:isM ka va kk vk v=true):VR H μ w S (.rmap ka va kk vk (Go.Abs.asM kk vk v)) u:=by
 cases h with
 |pv h=>exact .pv (h.asM hk)
 |_=>simp[isM] at hk
theorem decV_sound:∀(k:CK) (cs:List AV) (u:Nat→Value),decOk k cs=true→(∀j,j<width k→VR H μ w S (nth .junk cs j) (u j))→∀j,j<width k→VR H μ w S (nth .junk (enc k (dec k cs)) j) (u j)
 | .bool,cs,u,hk,h,j,hj=>by
  obtain rfl:j=0:=by simp[width] at hj;exact hj
  have h0:=h 0 (by simp[width])
  simp only[decOk] at hk
  cases hv:nth .junk cs 0<;>simp[hv,isB] at hk
  simpa [enc,dec,nth,hv,asB] using hv▸h0
 | .int k,cs,u,hk,h,j,hj=>by
  obtain rfl:j=0:=by simp[width] at hj;exact hj
  have h0:=h 0 (by simp[width])
  simp only[decOk] at hk
  cases hv:nth .junk cs 0<;>simp[hv,isInt] at hk
  subst hk
  simpa [enc,dec,nth,hv,asInt] using hv▸h0
 | .str,cs,u,hk,h,j,hj=>by
  obtain rfl:j=0:=by simp[width] at hj;exact hj
  have h0:=h 0 (by simp[width])
  simp only[decOk] at hk
  cases hv:nth .junk cs 0<;>simp[hv,isStr] at hk
  simpa [enc,dec,nth,hv,asStr] using hv▸h0
 | .slice e k,cs,u,hk,h,j,hj=>by
  obtain rfl:j=0:=by simp[width] at hj;exact hj
  have h0:=h 0 (by simp[width])
  simp only[decOk] at hk
  simpa [enc,dec,nth] using h0.asL hk
 | .map ka va kk vk,cs,u,hk,h,j,hj=>by
  obtain rfl:j=0:=by simp[width] at hj;exact hj
  have h0:=h 0 (by simp[width])
  simp only[decOk] at hk
  simpa [enc,dec,nth] using h0.asM hk
 | .other,cs,u,hk,h,j,hj=>by
  obtain rfl:j=0:=by simp[width] at hj;exact hj
  exact .junk _
 | .pair a b,cs,u,hk,h,j,hj=>by
  simp only[decOk,Bool.and_eq_true] at hk
  simp only[width] at h hj
  simp only[enc,dec]
  rw[nth_append,enc_length]
  by_cases hja:j<width a
  ·rw[if_pos hja];exact decV_sound a cs u hk.1 (fun j hj=>h j (by omega)) j hja
  ·rw[if_neg hja]
   have:=decV_sound b (dropL cs (width a)) (fun j=>u (width a+j)) hk.2 (fun j hj=>by rw[dropL_eq,nth_drop];exact h _ (by omega)) (j-width a) (by omega)
   rwa [show width a+(j-width a)=j by omega] at this
theorem chunksV_sound (k:CK):∀(n:Nat) (cs:List AV) (u:Nat→Value),chunksOk k n cs=true→(∀q,q<n*width k→VR H μ w S (nth .junk cs q) (u q))→
  ∀i,i<n→∀j,j<width k→VR H μ w S (nth .junk (gt k (chunks k n cs) i) j) (u (i*width k+j))
 |0,_,_,_,_,i,hi,_,_=>by omega
 | n+1,cs,u,hk,h,i,hi,j,hj=>by
  simp only[chunksOk,Bool.and_eq_true] at hk
  have hmul:(n+1)*width k=n*width k+width k:=Nat.succ_mul _ _
  cases i with
  |zero=>
   have:=decV_sound k cs u hk.1 (fun j hj=>h j (by omega)) j hj
   simpa [gt,chunks,nth] using this
  |succ i=>
   have:=chunksV_sound k n (dropL cs (width k)) (fun q=>u (width k+q)) hk.2 (fun q hq=>by rw[dropL_eq,nth_drop];exact h _ (by omega)) i (by omega) j hj
   have e:width k+(i*width k+j)=(i+1)*width k+j:=by rw[Nat.succ_mul];omega
   rw[e] at this
   simpa [gt,chunks,nth] using this
theorem indexE_run {t:TypeId} {x ix:AV} {v vi:Value} (hv:VR H μ w S x v) (hvi:VR H μ w S ix vi) (hc:(indexE P t x ix).chk=true):
  ∃u,(Instr.index t v vi).run P w= .ok u w∧VR H μ w S (indexE P t x ix).val u:=by
 unfold indexE at hc⊢
 cases hu:P.underlying t with
 |none=>simp[hu,Eff.bad] at hc
 | some d=>
  cases d<;>simp only[hu,Eff.bad] at hc⊢ <;>try (simp at hc;done)
  ·cases x<;>(try simp only[Eff.bad] at hc⊢)<;>try (simp at hc;done)
   rename_i s
   cases ix<;>simp only[Eff.bad,Eff.v] at hc⊢ <;>try (simp at hc;done)
   rename_i k i
   simp only[Bool.and_eq_true,decide_eq_true_eq] at hc
   obtain ⟨h0,h1⟩:=hc
   obtain ⟨s,rfl,rfl⟩:=vr_str hv
   rw[vr_int hvi]
   rw[str_size] at h1
   have h2:i.toNat<s.size:=by omega
   refine ⟨.int .u8 (s[i.toNat]).toNat,by simp[Instr.index,asIntOf,run_underlying hu,h0,h2],?_⟩
   have e:nth 0 s.data.toList i.toNat=s[i.toNat]:=by
    have h3:i.toNat<s.data.toList.length:=by simpa using h2
    rw[nth_lt _ _ _ h3];rfl
   rw[e]
   exact .pv (.int _ _)
  ·rename_i n e
   cases x<;>(try simp only[Eff.bad] at hc⊢)<;>try (simp at hc;done)
   rename_i cs
   cases ix<;>simp only[Eff.bad,Eff.v] at hc⊢ <;>try (simp at hc;done)
   rename_i k i
   simp only[Bool.and_eq_true,decide_eq_true_eq,beq_iff_eq] at hc
   obtain ⟨hk,hl,h2,hok,h0,h1⟩:=hc
   obtain ⟨d,hd,h2⟩:=fitT_spec h2
   obtain ⟨inf,hinf⟩:=info_of_underlying hd
   obtain ⟨vs,rfl,hlv,hcs⟩:=vr_agg hv
   rw[vr_int hvi]
   have hfit:i.toNat*P.cellsOf e+P.cellsOf e≤vs.size:=by
    rw[←hlv,hl,←Nat.succ_mul]
    exact Nat.mul_le_mul_right _ (by omega)
   refine ⟨_,by
    simp only[Instr.index,asIntOf,Sem.run_bind,Sem.run_pure,Result.andThen_ok,run_underlying hu]
    rw[if_pos ⟨h0,h1⟩,Sem.run_bind,run_sizeOf hinf]
    exact run_part hd hfit h2,?_⟩
   refine pack_sound (by rw[gt_length,hk];simp;omega) (by rw[gt_length,hk];exact h2) fun q hq=> ?_
   rw[gt_length,hk] at hq
   have h3:=chunksV_sound (H:=H) (μ:=μ) (w:=w) (S:=S) (kE P e) n cs (fun p=>vs.getD p undef) hok (fun q hq=>hcs q (by rw[hl,←hk];exact hq)) i.toNat (by omega) q (by omega)
   have e1:(vs.extract (i.toNat*P.cellsOf e) (i.toNat*P.cellsOf e+P.cellsOf e)).getD q undef=vs.getD (i.toNat*P.cellsOf e+q) undef:=by
    rw[Array.getD_eq_getD_getElem?,Array.getD_eq_getD_getElem?,Array.getElem?_extract,if_pos (by omega)]
   rw[e1]
   rw[hk] at h3
   exact h3
theorem bnd_run {d:Nat} {x:Option AV} {v:Option Value} {y:Nat} {code:BoundsCode} (hx:∀xa,x=some xa→∃va,v=some va∧VR H μ w S xa va) (hn:x=none→v=none) (hok:bndOk x=true) (hy:bnd d x≤y):
  (match v with|some v=>Instr.sliceBound v y code|none=>pure d).run P w= .ok (bnd d x) w:=by
 cases x with
 |none=>rw[hn rfl];rfl
 |some xa=>
  obtain ⟨va,rfl,hv⟩:=hx xa rfl
  cases xa<;>simp[bndOk] at hok
  rename_i k n
  rw[vr_int hv]
  simp only[bnd] at hy⊢
  exact run_sliceBound w k n y code hok (by omega)
def OptV (H:List Blk) (μ:Nat→Value) (w:World) (S:Nat→Prop) (x:Option AV) (v:Option Value):Prop:=(∀xa,x=some xa→∃va,v=some va∧VR H μ w S xa va)∧(x=none→v=none)
theorem run_bounds {isSlice:Bool} {len cap:Nat} {lo hi:Option AV} {vlo vhi:Option Value} (hl:OptV H μ w S lo vlo) (hh:OptV H μ w S hi vhi) (o1:bndOk lo=true) (o2:bndOk hi=true) (h1:bnd len hi≤len) (hlc:len≤cap) (h2:bnd 0 lo≤bnd len hi):
  (Instr.sliceBounds isSlice len cap vlo vhi none).run P w= .ok (bnd 0 lo,bnd len hi,cap) w:=by
 have e1:=bnd_run (P:=P) (d:=len) (y:=cap) (code:=if isSlice then .sliceAcap else .sliceAlen) hh.1 hh.2 o2 (by omega)
 have e2:=bnd_run (P:=P) (d:=0) (y:=bnd len hi) (code:= .sliceB) hl.1 hl.2 o1 h2
 unfold Instr.sliceBounds
 cases vhi with
 | none=>
  have e1':len=bnd len hi:=by simpa using e1
  cases vlo with
  |none=>
   have e2':0=bnd 0 lo:=by simpa using e2
   simp[←e1',←e2']
  |some l=>
   simp only[Sem.run_bind,Sem.run_pure,Result.andThen_ok,Option.isSome_none,Bool.false_eq_true,if_false]
   rw[←e1'] at e2
   simp only at e2
   rw[e2,←e1']
   rfl
 | some h=>
  simp only at e1
  cases vlo with
  |none=>
   have e2':0=bnd 0 lo:=by simpa using e2
   simp only[Sem.run_bind,Sem.run_pure,Result.andThen_ok,Option.isSome_none,Bool.false_eq_true,if_false]
   rw[e1,←e2']
   rfl
  |some l=>
   simp only at e2
   simp only[Sem.run_bind,Sem.run_pure,Result.andThen_ok,Option.isSome_none,Bool.false_eq_true,if_false]
   rw[e1]
   simp only[Result.andThen_ok]
   rw[e2]
   rfl
theorem sliceL_eq {α:Type} {lo hi:Option AV} {xs:List α} (h:bnd xs.length hi≤xs.length):sliceL lo hi xs=(xs.drop (bnd 0 lo)).take (bnd xs.length hi-bnd 0 lo):=by
 cases lo with
 |none=>
  cases hi with
  |none=>simp[sliceL,bnd]
  |some b=>cases b<;>simp[sliceL,bnd]
 | some a=>
  cases hi with
  |none=>
   simp only[sliceL,bnd]
   rw[List.take_of_length_le (by simp)]
  |some b=>cases b<;>cases a<;>simp[sliceL,bnd]
theorem zI_val {a:AV} {v:Value} (h:zI a=true) (hv:VR H μ w S a v):∃k,v= .int k 0:=by
 cases a<;>simp[zI] at h
 rename_i k n
 subst h
 exact ⟨k,vr_int hv⟩
theorem slv_val {x:AV} {v:Value} (h:isSlv x=true) (hv:VR H μ w S x v):∃A n c,v= .slice A n c:=by
 cases x<;>simp[isSlv] at h
 ·exact ⟨_,_,_,vr_nils hv⟩
 ·cases hv with|pv h=>cases h;exact ⟨_,_,_,rfl⟩
 ·cases hv with
  |pv h=>cases h
  |sl _ _ _ _ len r A c=>exact ⟨_,_,_,rfl⟩
 ·obtain ⟨A,c,rfl,_⟩:=pv_ro_inv (vr_ro hv)
  exact ⟨_,_,_,rfl⟩
theorem sliceE3_run {t e:TypeId} {x m:AV} {v:Value} {lo hi:Option AV} {vlo vhi vmx:Option Value} (hu:P.underlying t=some (.slice e)) (hv:VR H μ w S x v) (hl:OptV H μ w S lo vlo) (hh:OptV H μ w S hi vhi) (hm:OptV H μ w S (some m) vmx) (hp:0<P.cellsOf e) (h1:isSlv x=true) (h2:zI m=true) (h3:hi.isSome=true) (h4:zO hi=true) (h5:zO lo=true):
  ∃u,(Instr.sliceAt t v vlo vhi vmx).run P w= .ok u w∧VR H μ w S .zc u:=by
 obtain ⟨inf,hinf⟩:=info_of_cells (P:=P) (t:=e) (by omega)
 obtain ⟨A,n,c,rfl⟩:=slv_val h1 hv
 obtain ⟨vm,rfl,hvm⟩:=hm.1 m rfl
 obtain ⟨km,rfl⟩:=zI_val h2 hvm
 cases hi with
 |none=>simp at h3
 | some h=>
  obtain ⟨vh,rfl,hvh⟩:=hh.1 h rfl
  obtain ⟨kh,rfl⟩:=zI_val h4 hvh
  refine ⟨.slice A 0 0,?_, .pv (.zc A)⟩
  have b0:∀(k:IntKind) (y:Nat) (code:BoundsCode),(Instr.sliceBound (.int k 0) y code).run P w= .ok 0 w:=fun k y code=>run_sliceBound w k 0 y code (by decide) (by omega)
  cases lo with
  |none=>
   rw[hl.2 rfl]
   simp only[Instr.sliceAt,Instr.slice,Instr.sliceBounds,Sem.run_bind,run_underlying hu,Result.andThen_ok,b0,Sem.run_pure,run_sizeOf hinf]
   simp
  |some l=>
   obtain ⟨vl,rfl,hvl⟩:=hl.1 l rfl
   obtain ⟨kl,rfl⟩:=zI_val h5 hvl
   simp only[Instr.sliceAt,Instr.slice,Instr.sliceBounds,Sem.run_bind,run_underlying hu,Result.andThen_ok,b0,Sem.run_pure,run_sizeOf hinf]
   simp
theorem sliceE_run {t:TypeId} {x:AV} {v:Value} {lo hi mx:Option AV} {vlo vhi vmx:Option Value} (hv:VR H μ w S x v) (hl:OptV H μ w S lo vlo) (hh:OptV H μ w S hi vhi) (hm:OptV H μ w S mx vmx) (hc:(sliceE P t H x lo hi mx).chk=true):
  ∃u,(Instr.sliceAt t v vlo vhi vmx).run P w= .ok u w∧VR H μ w S (sliceE P t H x lo hi mx).val u:=by
 unfold sliceE at hc⊢
 cases mx with
 | some m=>
  cases hu:P.underlying t with
  |none=>simp[hu,Eff.bad] at hc
  |some d=>
   cases d<;>simp only[hu,Eff.bad] at hc⊢ <;>try (simp at hc;done)
   simp only[Eff.v,Bool.and_eq_true,Nat.blt_eq] at hc⊢
   obtain ⟨c1,c2,c3,c4,c5,c6⟩:=hc
   exact sliceE3_run hu hv hl hh hm c1 c2 c3 c4 c5 c6
 | none =>
  rw[hm.2 rfl]
  cases hu:P.underlying t with
  |none=>simp[hu,Eff.bad] at hc
  | some d=>
   cases d<;>simp only[hu,Eff.bad] at hc⊢ <;>try (simp at hc;done)
   ·cases x<;>simp only[Eff.bad,Eff.v] at hc⊢ <;>try (simp at hc;done)
    rename_i s
    simp only[Bool.and_eq_true,decide_eq_true_eq] at hc
    obtain ⟨o1,o2,h1,h2⟩:=hc
    obtain ⟨s,rfl,rfl⟩:=vr_str hv
    rw[str_size] at h1 h2
    have e:sliceL lo hi s.data.toList=(s.extract (bnd 0 lo) (bnd s.size hi)).data.toList:=by
     rw[sliceL_eq (by rw[str_size];exact h1),str_size]
     simp[ByteArray.data_extract,Array.toList_extract,List.extract_eq_take_drop]
    rw[e]
    refine ⟨.string (s.extract (bnd 0 lo) (bnd s.size hi)),?_, .pv (.str _)⟩
    simp only[Instr.sliceAt,Instr.slice,Sem.run_bind,run_underlying hu,Result.andThen_ok,Option.isSome_none,Bool.false_eq_true,if_false]
    rw[run_bounds hl hh o1 o2 h1 (Nat.le_refl _) h2]
    rfl
   ·rename_i e
    cases x<;>simp only[Eff.bad,Eff.v] at hc⊢ <;>try (simp at hc;done)
    ·rename_i b ver off lw
     simp only[Bool.and_eq_true,decide_eq_true_eq,beq_iff_eq,Nat.blt_eq] at hc
     obtain ⟨hpos,hsz,hver,o1,o2,h1,h2⟩:=hc
     obtain ⟨inf,hinf⟩:=info_of_cells (P:=P) (t:=e) (by omega)
     cases hv with
     |pv h=>cases h
     | sl _ _ _ _ len r A c hr hle hlc hA hcur=>
      have hsz':r.sz=P.cellsOf e:=by simpa [szOf,hr] using hsz
      obtain ⟨hwn,hl1,hs⟩:=hcur (by simp[verOf,hr] at hver;exact hver.symm)
      have hnl:winN (nOf H b) off lw=len:=by simp only[nOf,hr];exact hwn.symm
      rw[hnl] at h1 h2
      have hsw:(sliceW lo hi off lw).1=off+bnd 0 lo∧(bnd len hi-bnd 0 lo=winN r.n (sliceW lo hi off lw).1 (sliceW lo hi off lw).2):=by
       have hoff:(sliceW lo hi off lw).1=off+bnd 0 lo:=by cases hi<;>simp[sliceW,addN_eq]
       refine ⟨hoff,?_⟩
       rw[hoff]
       cases hi with
       |some b=>cases b<;>simp[sliceW,winN,bnd]
       |none=>
        simp only[bnd,sliceW]
        cases lw with
        |none=>simp only[winN] at hwn⊢;omega
        |some l=>simp only[winN] at hwn⊢;omega
      refine ⟨_,by
       simp only[Instr.sliceAt,Sem.run_bind,run_underlying hu,Result.andThen_ok]
       simp only[Instr.slice,Sem.run_bind,run_underlying hu,Result.andThen_ok]
       rw[run_bounds hl hh o1 o2 h1 hlc h2]
       simp only[Result.andThen_ok,run_sizeOf hinf,Sem.run_pure]
       rfl,?_⟩
      generalize hL:bnd 0 lo=L at*
      generalize hN:bnd len hi=N at*
      refine .sl _ _ _ _ (N-L) r _ _ hr hle (by omega) (fun hp=> ?_) fun e'=> ?_
      ·obtain ⟨B,o,rfl⟩:=hA (by omega)
       split
       ·exact ⟨B,o,rfl⟩
       ·exact ⟨B,o+L*P.cellsOf e,by simp only[Option.map_some,Addr.add_lit]⟩
      ·refine ⟨hsw.2,by rw[hsw.1];omega,?_⟩
       rw[hsw.1]
       rcases hs with ⟨hm1,rfl,rfl,hv'⟩|⟨B,o0,cap,A',hm1,hfit,hv',hA'⟩
       ·simp only[Value.slice.injEq,true_and] at hv'
        obtain ⟨rfl,rfl⟩:=hv'
        obtain rfl:N=0:=by omega
        obtain rfl:L=0:=by omega
        exact .inl ⟨hm1,rfl,rfl,by simp⟩
       ·simp only[Value.slice.injEq,true_and] at hv'
        obtain ⟨rfl,rfl⟩:=hv'
        refine .inr ⟨B,o0,cap,if cap-off=L then A' else A'.add (L*P.cellsOf e),hm1,by omega,?_,fun hq=> ?_⟩
        ·have e3:cap-off-L=cap-(off+L):=by omega
         rw[e3]
         split<;>rfl
        ·by_cases hL0:L=0
         ·subst hL0
          have:=hA' (by omega)
          rw[this]
          simp[Addr.add]
         ·have h5:off+L<cap:=by omega
          rw[if_neg (by omega),hA' (.inr (by omega)),Addr.add_lit,hsz',Nat.add_mul,Nat.add_assoc]
    ·rename_i kk xs
     simp only[Bool.and_eq_true,decide_eq_true_eq,beq_iff_eq,Nat.blt_eq] at hc
     obtain ⟨hpos,hkw,o1,o2,h1,h2⟩:=hc
     obtain ⟨inf,hinf⟩:=info_of_cells (P:=P) (t:=e) (by omega)
     obtain ⟨A,c,rfl,hx⟩:=pv_ro_inv (vr_ro hv)
     have hnc:xs.length≤c:=by
      rcases Nat.eq_zero_or_pos xs.length with h0|h0
      ·omega
      ·exact (hx h0).1
     refine ⟨_,by
       simp only[Instr.sliceAt,Sem.run_bind,run_underlying hu,Result.andThen_ok]
       simp only[Instr.slice,Sem.run_bind,run_underlying hu,Result.andThen_ok]
       rw[run_bounds hl hh o1 o2 h1 hnc h2]
       simp only[Result.andThen_ok,run_sizeOf hinf,Sem.run_pure]
       rfl, .pv ?_⟩
     rw[sliceL_eq h1]
     have hlen:((xs.drop (bnd 0 lo)).take (bnd xs.length hi-bnd 0 lo)).length=bnd xs.length hi-bnd 0 lo:=by simp only[List.length_take,List.length_drop];omega
     generalize hL:bnd 0 lo=L at*
     generalize hN:bnd xs.length hi=N at*
     rcases Nat.eq_zero_or_pos (N-L) with h0|h0
     ·rw[h0,List.take_zero];exact .roNil _ _ _
     ·obtain ⟨_,B,o,u,rfl,hS,hcell,hp⟩:=hx (by omega)
      rw[if_neg (by omega)]
      simp only[Option.map_some,Addr.add_lit]
      refine .ro _ _ _ B _ _ (fun i j=>u (L+i) j) hlen hS (by omega) (fun i j hi hj=> ?_) (fun i j hi hj=>(hp _ _ (by omega) hj).2) fun i j hi hj=> ?_
      ·have e4:o+L*P.cellsOf e+(i*width kk+j)=o+((L+i)*width kk+j):=by rw[←hkw,Nat.add_mul];omega
       rw[e4]
       exact hcell _ _ (by omega) hj
      ·rw[gt_take hi,gt_drop]
       exact (hp _ _ (by omega) hj).1
   ·rename_i n e
    cases x<;>simp only[Eff.bad,Eff.v] at hc⊢ <;>try (simp at hc;done)
    rename_i b off
    simp only[Bool.and_eq_true,decide_eq_true_eq,beq_iff_eq,Nat.blt_eq] at hc
    obtain ⟨hpos,hn1,o1,o2,h1,h2,h3⟩:=hc
    obtain ⟨inf,hinf⟩:=info_of_cells (P:=P) (t:=e) (by omega)
    cases hv with
    |pv h=>cases h
    | ptr _ _ cs B hb hm=>
     refine ⟨_,by
      simp only[Instr.sliceAt,Sem.run_bind,run_underlying hu,Result.andThen_ok,Instr.sureAddr,Sem.run_pure]
      rw[run_bounds hl hh o1 o2 h1 (Nat.le_refl _) h2]
      simp only[Result.andThen_ok,run_sizeOf hinf,Sem.run_pure]
      rw[if_neg (show ¬n=bnd 0 lo by omega),Addr.add_lit],?_⟩
     exact .csl b _ _ cs B _ hb hm (by omega)
theorem arrayAt_run {t:TypeId} {x:AV} {v:Value} (hv:VR H μ w S x v) (hc:(arrayAtE P t x).chk=true):
  ∃u,(Instr.arrayAt t v).run P w= .ok u w∧VR H μ w S (arrayAtE P t x).val u:=by
 unfold arrayAtE at hc⊢
 cases hu:P.underlying t with
 |none=>simp[hu,Eff.bad] at hc
 | some d=>
  cases d<;>simp only[hu,Eff.bad] at hc⊢ <;>try (simp at hc;done)
  cases x<;>simp only[Eff.bad,Eff.v] at hc⊢ <;>try (simp at hc;done)
  rename_i n e b off len
  have hc':n≤len:=Nat.le_of_ble_eq_true hc
  cases hv with
  |pv h=>cases h
  |csl _ _ _ cs B c hb hm hnc=>
   refine ⟨.pointer (some ⟨B,off,none⟩),?_, .ptr b off cs B hb hm⟩
   simp only[Instr.arrayAt,Sem.run_bind,run_underlying hu,Result.andThen_ok]
   rw[if_neg (by omega)]
   simp
end
end Go.Abs
