/- A plain evaluator of the model's code over abstract values: no memory, no order, no capacity. Definitions alone. -/
import GoSem.Dispatch
set_option linter.all false
set_option linter.unusedVariables false
set_option linter.unusedSimpArgs false
namespace Go.Abs
inductive CK where
 |bool|int (k:IntKind)|str|slice (e:TypeId) (k:CK)|map (ka va:Bool) (kk vk:CK)|pair (a b:CK)|other
 deriving DecidableEq,Inhabited
def CT:CK→Type
 | .bool=>Bool
 | .int _=>Int
 | .str=>List UInt8
 | .slice _ k=>List (CT k)
 | .map _ _ kk vk=>List (CT kk×CT vk)
 | .pair a b=>CT a×CT b
 | .other=>Unit
abbrev Pth:=List (Nat×Nat)
inductive AV where
 |bool (b:Bool)|int (k:IntKind) (n:Int)|str (s:List UInt8)
 |nilp|nils|nilm|nilf|nili
 |zc
 |rk (nn:Bool) (k:CK) (xs:List (CT k))
 |agg (cs:List AV)|tup (vs:List AV)
 |ptr (b off:Nat)
 |mp (b:Nat)
 |rmap (ka va:Bool) (kk vk:CK) (m:List (CT kk×CT vk))
 |it (b:Nat)
 |csl (b off n:Nat)
 |tsl (b ver:Nat) (p:Pth)
 |tptr (b ver:Nat) (p:Pth) (i j:Nat)
 |eptr (b ver i j:Nat)
 |rptr (cs:List AV) (j:Nat)
 |sl (b ver off:Nat) (len:Option Nat)
 |ro (k:CK) (xs:List (CT k))
 |fn (f:Fn)
 |clo (f:FuncId×Bool) (caps:List AV)
 |iface (t:TypeId) (v:AV)
 |when (g:Bool) (v:AV)
 |junk
 deriving Inhabited
inductive Blk where
 |free
 |cells (cs:List AV)
 |row (ver:Nat) (e:TypeId) (k:CK) (xs:List (CT k))
 |fmap (ka va:Bool) (kk vk:CK) (m:List (CT kk×CT vk))
 |iter (ka va:Bool) (kk vk:CK) (rest cur:List (CT kk×CT vk))
 |map (ka va:Bool) (kk vk:CK) (m:List (CT kk×CT vk))
 |fro (ver:Nat) (e:TypeId) (k:CK) (xs:List (CT k))
 |tab (fz:Bool) (ver iv:Nat) (e:TypeId) (k:CK) (os:List TypeId) (xs:List (CT k)) (hole:Option Pth)
 deriving Inhabited
structure Res where
 ok:Bool
 val:AV
 heap:List Blk:=[]
def Res.bad:Res:=⟨false, .junk,[]⟩
structure St where
 T:List AV
 H:List Blk
 ok:Bool
inductive Ex where
 |normal|exit (id:Nat)|ret
structure Cx where
 P:Program
 C:FuncId→List AV→List Blk→Res
 mode:FuncId→List Bool
 fuel:Nat
 live:Nat→List Nat
 pin:Nat
 nx:Bool:=false
 os:List TypeId:=[]
 way:Nat:=0
 pick:Nat:=0
 K:FuncId→Option (List AV→List Blk→(Res→Res)→Res):=fun _=>none
def nth {α:Type} (d:α):List α→Nat→α
 |[],_=>d
 |a::_,0=>a
 |_::l,n+1=>nth d l n
def put {α:Type}:List α→Nat→α→List α
 |[],_,_=>[]
 |_::l,0,x=>x::l
 |a::l,n+1,x=>a::put l n x
def takeL {α:Type}:List α→Nat→List α
 |[],_=>[]
 |_::_,0=>[]
 |a::l,n+1=>a::takeL l n
def dropL {α:Type}:List α→Nat→List α
 |[],_=>[]
 |a::l,0=>a::l
 |_::l,n+1=>dropL l n
def imp (g c:Bool):Bool:=bif g then c else true
def asInt:AV→Int| .int _ n=>n|_=>0
def isInt (k:IntKind):AV→Bool| .int k' _=>decide (k=k')|_=>false
def asB:AV→Bool| .bool b=>b|_=>false
def isB:AV→Bool| .bool _=>true|_=>false
def asStr:AV→List UInt8| .str s=>s|_=>[]
def isTsl:AV→Bool| .tsl .. =>true|_=>false
def isStr:AV→Bool| .str _=>true|_=>false
def asL (k:CK):AV→List (CT k)
 | .ro k' xs=>if h:k'=k then h▸xs else []
 | .rk _ k' xs=>if h:k'=k then h▸xs else []
 |_=>[]
def isRo (k:CK):AV→Bool| .ro k' _=>decide (k'=k)| .nils=>true| .zc=>true| .rk _ k' _=>decide (k'=k)|_=>false
def asM (kk vk:CK):AV→List (CT kk×CT vk)
 | .rmap _ _ kk' vk' m=>if h:kk'=kk then (if h':vk'=vk then h▸h'▸m else []) else []
 |_=>[]
def isM (ka va:Bool) (kk vk:CK):AV→Bool
 | .rmap ka' va' kk' vk' _=>(ka'==ka)&&((va'==va)&&(decide (kk'=kk)&&decide (vk'=vk)))
 | .nilm=>true
 |_=>false
def addN:Nat→Nat→Nat
 |0,b=>b
 |a+1,b=>a+1+b
def width:CK→Nat
 | .pair a b=>width a+width b
 |_=>1
def dflt:(k:CK)→CT k
 | .bool=>false
 | .int _=>(0:Int)
 | .str=>([]:List UInt8)
 | .slice _ _=>[]
 | .map _ _ _ _=>[]
 | .pair a b=>(dflt a,dflt b)
 | .other=>()
def enc:(k:CK)→CT k→List AV
 | .bool,b=>[.bool b]
 | .int k,n=>[.int k n]
 | .str,s=>[.str s]
 | .slice _ k,xs=>[.ro k xs]
 | .map ka va kk vk,m=>[.rmap ka va kk vk m]
 | .pair a b,x=>enc a x.1++enc b x.2
 | .other,_=>[.junk]
def dec:(k:CK)→List AV→CT k
 | .bool,cs=>asB (nth .junk cs 0)
 | .int _,cs=>asInt (nth .junk cs 0)
 | .str,cs=>asStr (nth .junk cs 0)
 | .slice _ k,cs=>asL k (nth .junk cs 0)
 | .map _ _ kk vk,cs=>asM kk vk (nth .junk cs 0)
 | .pair a b,cs=>(dec a cs,dec b (dropL cs (width a)))
 | .other,_=>()
def decOk:CK→List AV→Bool
 | .bool,cs=>isB (nth .junk cs 0)
 | .int k,cs=>isInt k (nth .junk cs 0)
 | .str,cs=>isStr (nth .junk cs 0)
 | .slice _ k,cs=>isRo k (nth .junk cs 0)
 | .map ka va kk vk,cs=>isM ka va kk vk (nth .junk cs 0)
 | .pair a b,cs=>decOk a cs&&decOk b (dropL cs (width a))
 | .other,_=>true
def gt (k:CK) (xs:List (CT k)) (i:Nat):List AV:=enc k (nth (dflt k) xs i)
def chunks (k:CK):Nat→List AV→List (CT k)
 |0,_=>[]
 |n+1,cs=>dec k cs::chunks k n (dropL cs (width k))
def chunksOk (k:CK):Nat→List AV→Bool
 |0,_=>true
 |n+1,cs=>decOk k cs&&chunksOk k n (dropL cs (width k))
def win {α:Type} (off:Nat):Option Nat→List α→List α
 |none,xs=>xs.drop off
 |some n,xs=>(xs.drop off).take n
def endsAt (n off:Nat):Option Nat→Bool
 |none=>Nat.ble off n
 |some l=>off+l==n
def winN (n off:Nat):Option Nat→Nat
 |none=>n-off
 |some l=>l
def eqK:(k:CK)→CT k→CT k→Bool
 | .bool,a,b=> @BEq.beq Bool _ a b
 | .int _,a,b=> @decide ((a:Int)=b) (Int.instDecidableEq a b)
 | .str,a,b=> @BEq.beq (List UInt8) _ a b
 | .pair p q,a,b=>eqK p a.1 b.1&&eqK q a.2 b.2
 | .slice _ _,_,_=>false
 | .map _ _ _ _,_,_=>false
 | .other,_,_=>false
def hasM {V:Type} (kk:CK):List (CT kk×V)→CT kk→Bool
 |[],_=>false
 |p::m,k=>bif eqK kk k p.1 then true else hasM kk m k
def getM {V:Type} (kk:CK) (d:V):List (CT kk×V)→CT kk→V
 |[],_=>d
 |p::m,k=>bif eqK kk k p.1 then p.2 else getM kk d m k
def insM {V:Type} (kk:CK):List (CT kk×V)→CT kk→V→List (CT kk×V)
 |[],k,v=>[(k,v)]
 |p::m,k,v=>bif eqK kk k p.1 then (p.1,v)::m else p::insM kk m k v
def packB (agg:Bool) (cs:List AV):AV:=bif agg then .agg cs else nth .junk cs 0
def kPair:List CK→CK
 |[]=> .other
 |[k]=>k
 |k::ks=> .pair k (kPair ks)
def aggU (P:Program) (t:TypeId):Bool:=
 match P.underlying t with
 |some (.struct _)=>true
 |some (.array _ _)=>true
 |_=>false
mutual
def ckOf (P:Program):Nat→TypeId→List CK
 |0,_=>[]
 |d+1,t=>
  match P.underlying t with
  |some .bool=>[.bool]
  |some (.int k)=>[.int k]
  |some .string=>[.str]
  |some (.slice e)=>[.slice e (kPair (ckOf P d e))]
  |some (.struct fs)=>ckFields P d (fs.toList.map (·.type))
  |some (.array n e)=>ckRep n (ckOf P d e)
  |some (.map k e)=>[.map (aggU P k) (aggU P e) (kPair (ckOf P d k)) (kPair (ckOf P d e))]
  |_=>[.other]
def ckFields (P:Program):Nat→List TypeId→List CK
 |0,_=>[]
 |_,[]=>[]
 |d+1,t::ts=>ckOf P d t++ckFields P d ts
def ckRep:Nat→List CK→List CK
 |0,_=>[]
 |n+1,l=>l++ckRep n l
end
def cks (P:Program) (t:TypeId):List CK:=ckOf P 40 t
def kE (P:Program) (e:TypeId):CK:=kPair (cks P e)
def ofVs (f:Value→AV):List Value→List AV
 |[]=>[]
 |v::vs=>f v::ofVs f vs
def ofV:Nat→Value→AV
 |0,_=> .junk
 |d+1,v=>
  match v with
  | .bool b=> .bool b
  | .int k n=> .int k n
  | .string s=> .str s.data.toList
  | .pointer none=> .nilp
  | .slice none 0 0=> .nils
  | .map none=> .nilm
  | .nilFunc=> .nilf
  | .nilIface=> .nili
  | .agg cs=> .agg (ofVs (ofV d) cs.toList)
  |_=> .junk
def cellsA:AV→List AV
 | .agg cs=>cs
 |v=>[v]
def isV:AV→Bool
 | .junk| .when _ _| .tup _| .clo _ _=>false
 |_=>true
def isAggV:AV→Bool
 | .agg _=>true
 |_=>false
def isAggT (P:Program) (t:TypeId):Bool:=
 match P.underlying t with
 |some (.struct _)=>true
 |some (.array _ _)=>true
 |_=>false
def fitT (P:Program) (t:TypeId):Bool:=
 match P.underlying t with
 |none=>false
 |some _=>isAggT P t||P.cellsOf t==1
def pack (P:Program) (t:TypeId) (cs:List AV):AV:=bif isAggT P t then .agg cs else nth .junk cs 0
structure Rd where
 ver:Nat
 e:TypeId
 k:CK
 xs:List (CT k)
def Rd.sz (r:Rd):Nat:=width r.k
def Rd.n (r:Rd):Nat:=r.xs.length
def Rd.get (r:Rd):Nat→List AV:=gt r.k r.xs
def rdOf:Blk→Option Rd
 | .row ver e k xs=>some ⟨ver,e,k,xs⟩
 | .fro ver e k xs=>some ⟨ver,e,k,xs⟩
 |_=>none
structure TD where
 ver:Nat
 iv:Nat
 e:TypeId
 k:CK
 os:List TypeId
 xs:List (CT k)
 hole:Option Pth
def tabD:Blk→Option TD
 | .tab _ ver iv e k os xs hole=>some ⟨ver,iv,e,k,os,xs,hole⟩
 |_=>none
def ownC (os:List TypeId):CK→Nat→Option (TypeId×CK)
 | .pair a b,j=>bif Nat.blt j (width a) then ownC os a j else ownC os b (j-width a)
 | .slice e k,0=>bif os.contains e then some (e,k) else none
 |_,_=>none
def anyOwn (os:List TypeId):CK→Bool
 | .pair a b=>anyOwn os a||anyOwn os b
 | .slice e _=>os.contains e
 |_=>false
structure Nd where
 e:TypeId
 k:CK
 xs:List (CT k)
def nodeAt (os:List TypeId):Nd→Pth→Nd
 |d,[]=>d
 |d,(i,j)::p=>
  match ownC os d.k j with
  |some ek=>nodeAt os ⟨ek.1,ek.2,asL ek.2 (nth .junk (gt d.k d.xs i) j)⟩ p
  |none=>⟨d.e, .other,[]⟩
def TD.nd (d:TD) (p:Pth):Nd:=nodeAt d.os ⟨d.e,d.k,d.xs⟩ p
def TD.vp (d:TD):Pth→Nat
 |[]=>d.ver
 |_::_=>d.iv
structure MapD where
 ka:Bool
 va:Bool
 kk:CK
 vk:CK
 m:List (CT kk×CT vk)
def mapD:Blk→Option MapD
 | .map ka va kk vk m=>some ⟨ka,va,kk,vk,m⟩
 | .fmap ka va kk vk m=>some ⟨ka,va,kk,vk,m⟩
 |_=>none
def isMapB (x:Blk):Bool:=(mapD x).isSome
def isIterB:Blk→Bool
 | .iter .. =>true
 |_=>false
def view1 (H:List Blk):AV→AV
 | .nils=> .nils
 | .sl b ver off len=>
  match rdOf (nth .free H b) with
  |some r=>bif ver==r.ver then .ro r.k (win off len r.xs) else .junk
  |none=> .junk
 | .bool b=> .bool b
 | .int k n=> .int k n
 | .str s=> .str s
 | .ro k xs=> .ro k xs
 | .nilp=> .nilp
 | .nilf=> .nilf
 | .nili=> .nili
 | .nilm=> .nilm
 | .fn f=> .fn f
 | .zc=> .zc
 | .rk _ k xs=> .ro k xs
 | .mp b=>match mapD (nth .free H b) with|some d=> .rmap d.ka d.va d.kk d.vk d.m|none=> .junk
 | .rmap ka va kk vk m=> .rmap ka va kk vk m
 | .tsl b ver p=>match tabD (nth .free H b) with|some d=>bif (ver==d.vp p)&&d.hole.isNone then .ro (d.nd p).k (d.nd p).xs else .junk|none=> .junk
 |_=> .junk
def view (H:List Blk):AV→AV
 | .agg cs=> .agg (cs.map (view1 H))
 |v=>view1 H v
def pure1:AV→Bool
 | .bool _| .int _ _| .str _| .ro _ _| .nils| .nilp| .nilf| .nili| .nilm| .fn _| .zc| .rmap .. =>true
 |_=>false
def cell1:AV→Bool
 | .sl .. | .ptr .. | .mp _| .eptr .. | .rptr .. | .tsl .. =>true
 |v=>pure1 v
def pureC:AV→Bool
 | .rptr _ _=>true
 |v=>pure1 v
def pureA:AV→Bool
 | .agg cs=>cs.all pure1
 | .clo _ caps=>caps.all pureC
 | .rptr _ _=>true
 |v=>pure1 v
def isClo:AV→Bool
 | .clo _ _=>true
 | .ptr _ _=>true
 |_=>false
def cloArgs:Bool→List AV→List AV→List AV
 |true,args,caps=>caps++args
 |false,args,caps=>args++caps
def unclo:AV→AV
 | .clo _ _=> .junk
 |v=>v
def viewC (H:List Blk):AV→AV
 | .ptr b off=>
  match nth .free H b with
  | .cells cs=> .rptr (cs.map (view1 H)) off
  |_=> .junk
 |v=>view1 H v
def viewA (H:List Blk):AV→AV
 | .clo f caps=> .clo f (caps.map (viewC H))
 | .ptr b off=>viewC H (.ptr b off)
 | .rptr cs j=> .rptr cs j
 |v=>view H v
def refs1:AV→List Nat
 | .ptr b _=>[b]
 | .mp b=>[b]
 | .it b=>[b]
 | .csl b _ _=>[b]
 | .eptr b _ _ _=>[b]
 | .sl b _ _ _=>[b]
 | .tsl b _ _=>[b]
 | .tptr b _ _ _ _=>[b]
 |_=>[]
def refs:AV→List Nat
 | .agg cs=>cs.flatMap refs1
 |v=>refs1 v
def blkRefs:Blk→List Nat
 | .cells cs=>cs.flatMap refs
 |_=>[]
def deepC1 (H:List Blk):AV→List Nat
 | .ptr b _=>b::blkRefs (nth .free H b)
 |v=>refs v
def deepC (H:List Blk):AV→List Nat
 | .clo _ caps=>caps.flatMap (deepC1 H)
 | .ptr b off=>deepC1 H (.ptr b off)
 |_=>[]
def refsG:AV→List Nat
 | .clo _ caps=>caps.flatMap refs1
 |v=>refs v
def upTo:Nat→Nat→List Nat
 |0,_=>[]
 |n+1,b=>b::upTo n (b+1)
structure Eff where
 val:AV
 chk:Bool
 wr:List (Nat×Blk):=[]
def Eff.v (v:AV) (chk:Bool):Eff:={val:=v,chk:=chk}
def Eff.bad:Eff:={val:= .junk,chk:=false}
def sets (H:List Blk):List (Nat×Blk)→List Blk
 |[]=>H
 |(b,x)::l=>sets (put H b x) l
def rowA (os:List TypeId) (k:CK) (b:Nat):AV:=bif anyOwn os k then .tsl b 0 [] else .sl b 0 0 none
def rowK (os:List TypeId) (e:TypeId) (k:CK) (xs:List (CT k)):Blk:=bif anyOwn os k then .tab false 0 0 e k os xs none else .row 0 e k xs
def promo (os:List TypeId):List CK→List AV→Nat→List AV×List (Nat×Blk)
 |k::ks,c::cs,b=>
  match k,c with
  | .slice e k, .nils=>((rowA os k b::(promo os ks cs (b+1)).1),((b,rowK os e k [])::(promo os ks cs (b+1)).2))
  |_,_=>(c::(promo os ks cs b).1,(promo os ks cs b).2)
 |_,cs,_=>(cs,[])
def frozenB:List Blk→List Nat→List (Nat×Blk)
 |_,[]=>[]
 |H,b::l=>
  match nth .free H b with
  | .row ver e k xs=>(b, .fro ver e k xs)::frozenB H l
  | .map ka va kk vk m=>(b, .fmap ka va kk vk m)::frozenB H l
  | .tab false ver iv e k os xs hole=>(b, .tab true ver iv e k os xs hole)::frozenB H l
  |_=>frozenB H l
def ownCells (os:List TypeId) (k:CK) (b v:Nat) (p:Pth) (i:Nat):List AV→Nat→List AV
 |[],_=>[]
 |c::cs,j=>(match ownC os k j with|some _=> .tsl b v (p++[(i,j)])|none=>c)::ownCells os k b v p i cs (j+1)
def selA (c:Bool) (a b:AV):AV:=
 match a,b with
 | .int k n, .int k' m=>bif decide (k=k') then .int k (bif c then n else m) else bif c then .int k n else .int k' m
 | .bool p, .bool q=> .bool (bif c then p else q)
 |a,b=>bif c then a else b
def putS:List AV→Nat→Nat→AV→List AV
 |[],_,_,_=>[]
 |c::cs,j,off,v=>selA (Nat.beq off j) v c::putS cs (j+1) off v
def putC (cs:List AV) (off:Nat) (new:List AV) (n:Nat):List AV:=
 match new with
 |[v]=>bif Nat.beq n 1 then putS cs 0 off v else takeL cs off++[v]++dropL cs (off+n)
 |new=>takeL cs off++new++dropL cs (off+n)
def allI:List AV→Option (IntKind×List Int)
 |[]=>none
 |[.int k n]=>some (k,[n])
 | .int k n::r=>
  match allI r with
  |some p=>bif decide (k=p.1) then some (k,n::p.2) else none
  |none=>none
 |_=>none
def selN (cs:List AV) (off:Nat):AV:=
 match allI cs with
 |some p=> .int p.1 (nth 0 p.2 off)
 |none=>nth .junk cs off
def ldC (cs:List AV) (off n:Nat):List AV:=bif Nat.beq n 1 then [selN cs off] else takeL (dropL cs off) n
def loadE (P:Program) (t:TypeId) (H:List Blk):AV→Eff
 | .ptr b off=>
  match nth .free H b with
  | .cells cs=>Eff.v (pack P t (ldC cs off (P.cellsOf t))) (Nat.ble (off+P.cellsOf t) cs.length&&fitT P t)
  |_=> .bad
 | .eptr b ver i j=>
  match rdOf (nth .free H b) with
  |some r=>
   Eff.v (pack P t (takeL (dropL (r.get i) j) (P.cellsOf t))) ((ver==r.ver)&&(Nat.ble (j+P.cellsOf t) r.sz&&(fitT P t&&decide (i<r.n))))
  |none=> .bad
 | .tptr b ver p i j=>
  match tabD (nth .free H b) with
  |some d=>
   Eff.v (pack P t (takeL (dropL (ownCells d.os (d.nd p).k b d.iv p i (gt (d.nd p).k (d.nd p).xs i) 0) j) (P.cellsOf t))) ((ver==d.vp p)&&(Nat.ble (j+P.cellsOf t) (width (d.nd p).k)&&(fitT P t&&(decide (i<(d.nd p).xs.length)&&d.hole.isNone))))
  |none=> .bad
 | .rptr cs j=>Eff.v (pack P t (takeL (dropL cs j) (P.cellsOf t))) (fitT P t&&Nat.ble (j+P.cellsOf t) cs.length)
 |_=> .bad
def mend (old:List AV) (new:List AV) (j:Nat):Nat→Nat→List AV
 |_,0=>[]
 |k,n+1=>(bif Nat.ble j k&&Nat.blt k (j+new.length) then nth .junk new (k-j) else nth .junk old k)::mend old new j (k+1) n
def setC:(k:CK)→CT k→Nat→(k2:CK)→List (CT k2)→CT k
 | .pair a b,x,j,k2,ys=>bif Nat.blt j (width a) then (setC a x.1 j k2 ys,x.2) else (x.1,setC b x.2 (j-width a) k2 ys)
 | .slice _ k,_,_,k2,ys=>asL k (.ro k2 ys)
 |_,x,_,_,_=>x
def modAt (os:List TypeId) (f:(k:CK)→List (CT k)→List (CT k)):Pth→(k:CK)→List (CT k)→List (CT k)
 |[],k,xs=>f k xs
 |(i,j)::p,k,xs=>
  match ownC os k j with
  |some ek=>xs.set i (setC k (nth (dflt k) xs i) j ek.2 (modAt os f p ek.2 (asL ek.2 (nth .junk (gt k xs i) j))))
  |none=>xs
def rowV (H:List Blk) (os:List TypeId) (ek:TypeId×CK):AV→AV
 | .nils=> .ro ek.2 []
 | .sl c v off len=>
  match nth .free H c with
  | .row ver e k ys=>bif (v==ver&&(off==0&&len.isNone))&&((e==ek.1)&&(decide (k=ek.2)&& !anyOwn os k)) then .ro k ys else .junk
  |_=> .junk
 | .tsl c v p=>
  match nth .free H c with
  | .tab false ver _ e k os' ys hole=>bif (v==ver&&(p.isEmpty&&hole.isNone))&&((e==ek.1)&&(decide (k=ek.2)&&(os'==os))) then .ro k ys else .junk
  |_=> .junk
 |_=> .junk
def deadB (H:List Blk) (c:Nat):Nat×Blk:=
 match nth .free H c with
 | .row ver e k _=>(c, .row (ver+1) e k [])
 | .tab fz ver iv e k os _ _=>(c, .tab fz (ver+1) (iv+1) e k os [] none)
 |x=>(c,x)
def ownRange (os:List TypeId) (k:CK):Nat→Nat→Bool
 |_,0=>false
 |j,n+1=>(ownC os k j).isSome||ownRange os k (j+1) n
def holeOk (q:Pth):Option Pth→Bool
 |none=>true
 |some h=>h==q
def storeT (P:Program) (t:TypeId) (H:List Blk) (b ver:Nat) (p:Pth) (i j:Nat) (d:TD) (x:AV):Eff:=
 bif ownRange d.os (d.nd p).k j (P.cellsOf t) then
  match ownC d.os (d.nd p).k j with
  | some ek=>
   {val:= .junk,
    chk:=(ver==d.vp p)&&(P.cellsOf t==1&&(holeOk (p++[(i,j)]) d.hole&&(!(refs1 x).contains b&&(decide (i<(d.nd p).xs.length)&&isRo ek.2 (rowV H d.os ek x))))),
    wr:=(refs1 x).map (deadB H)++[(b, .tab false d.ver (d.iv+1) d.e d.k d.os (modAt d.os (fun k ys=>ys.set i (setC k (nth (dflt k) ys i) j ek.2 (asL ek.2 (rowV H d.os ek x)))) p d.k d.xs) none)]}
  |none=> .bad
 else
  {val:= .junk,
   chk:=isV x&&(!(refs x).contains b&&((ver==d.vp p&&d.hole.isNone)&&(Nat.blt 0 (P.cellsOf t)&&(Nat.ble (j+P.cellsOf t) (width (d.nd p).k)&&((cellsA (view H x)).length==P.cellsOf t&&((cellsA (view H x)).all pure1&&(decOk (d.nd p).k (mend (gt (d.nd p).k (d.nd p).xs i) (cellsA (view H x)) j 0 (width (d.nd p).k))&&decide (i<(d.nd p).xs.length)))))))),
   wr:=frozenB H (refs x)++[(b, .tab false d.ver d.iv d.e d.k d.os (modAt d.os (fun k ys=>ys.set i (dec k (mend (gt k ys i) (cellsA (view H x)) j 0 (width k)))) p d.k d.xs) none)]}
def storeE (P:Program) (os:List TypeId) (t:TypeId) (H:List Blk) (base:Nat) (a x:AV):Eff:=
 match a with
 | .ptr b off=>
  match nth .free H b with
  | .cells cs=>
   {val:= .junk,chk:=isV x&&(Nat.blt 0 (P.cellsOf t)&&Nat.ble (off+P.cellsOf t) cs.length&&((promo os (cks P t) (cellsA x) base).1.length==P.cellsOf t&&(promo os (cks P t) (cellsA x) base).1.all cell1&&Nat.ble (promo os (cks P t) (cellsA x) base).2.length 4)),
    wr:=(promo os (cks P t) (cellsA x) base).2++[(b, .cells (putC cs off (promo os (cks P t) (cellsA x) base).1 (P.cellsOf t)))]}
  |_=> .bad
 | .eptr b ver i j=>
  match nth .free H b with
  | .row ver' e k xs=>
   {val:= .junk,chk:=isV x&&(!(refs x).contains b&&((ver==ver')&&(Nat.blt 0 (P.cellsOf t)&&(Nat.ble (j+P.cellsOf t) (width k)&&((cellsA (view H x)).length==P.cellsOf t&&((cellsA (view H x)).all pure1&&(decOk k (mend (gt k xs i) (cellsA (view H x)) j 0 (width k))&&decide (i<xs.length)))))))),
    wr:=frozenB H (refs x)++[(b, .row ver' e k (xs.set i (dec k (mend (gt k xs i) (cellsA (view H x)) j 0 (width k)))))]}
  |_=> .bad
 | .tptr b ver p i j=>
  match nth .free H b with
  | .tab false v iv e k os' xs hole=>storeT P t H b ver p i j ⟨v,iv,e,k,os',xs,hole⟩ x
  |_=> .bad
 |_=> .bad
def eqCells:List CK→List AV→List AV→Bool
 |k::ks,a::as,b::bs=>
  (match k with
  | .int _=>asInt a==asInt b
  | .bool=>asB a==asB b
  | .str=>asStr a==asStr b
  |_=>false)&&eqCells ks as bs
 |_,_,_=>true
def eqCellsOk:List CK→List AV→List AV→Bool
 |[],[],[]=>true
 |k::ks,a::as,b::bs=>(match k with| .int q=>isInt q a&&isInt q b| .bool=>isB a&&isB b| .str=>isStr a&&isStr b|_=>false)&&eqCellsOk ks as bs
 |_,_,_=>false
def flatL (P:Program):List Field→Nat→Bool
 |[],_=>true
 |f::l,i=>f.offset==i&&(f.name != "_" &&((match P.underlying f.type with|some .bool=>true|some (.int _)=>true|some .string=>true|_=>false)&&flatL P l (i+1)))
def flatK (P:Program):List Field→List CK
 |[]=>[]
 |f::l=>(match P.underlying f.type with|some .bool=>CK.bool|some (.int k)=> .int k|some .string=> .str|_=> .other)::flatK P l
def fieldsOf (P:Program) (t:TypeId):List Field:=match P.underlying t with|some (.struct fs)=>fs.toList|_=>[]
def flatT (P:Program) (t:TypeId):Bool:=
 match P.underlying t with
 |some (.struct fs)=> !(P.stoodInHeld t)&&flatL P fs.toList 0
 |_=>false
def intCmp (op:BinOp) (x y:Int):Option Bool:=
 match op with
 | .eql=>some (x==y)
 | .neq=>some (x !=y)
 | .lss=>some (decide (x<y))
 | .leq=>some (decide (x≤y))
 | .gtr=>some (decide (x>y))
 | .geq=>some (decide (x≥y))
 |_=>none
def shlI (k:IntKind) (a b:Int):Int:=k.wrap (a*2^(min b.toNat k.bits))
def shrI (k:IntKind) (a b:Int):Int:=a.fdiv (2^(min b.toNat k.bits))
def andI (k:IntKind) (a b:Int):Int:=k.wrap ((BitVec.ofInt k.bits a&&& BitVec.ofInt k.bits b).toNat)
def orI (k:IntKind) (a b:Int):Int:=k.wrap ((BitVec.ofInt k.bits a|||BitVec.ofInt k.bits b).toNat)
def xorI (k:IntKind) (a b:Int):Int:=k.wrap ((BitVec.ofInt k.bits a^^^BitVec.ofInt k.bits b).toNat)
def andNotI (k:IntKind) (a b:Int):Int:=k.wrap ((BitVec.ofInt k.bits a&&& ~~~BitVec.ofInt k.bits b).toNat)
def intOp (op:BinOp) (k:IntKind) (a b:Int):Eff:=
 match op with
 | .add=> .v (.int k (k.wrap (a+b))) true
 | .sub=> .v (.int k (k.wrap (a-b))) true
 | .mul=> .v (.int k (k.wrap (a*b))) true
 | .quo=> .v (.int k (k.wrap (a.tdiv b))) (b !=0)
 | .rem=> .v (.int k (a.tmod b)) (b !=0)
 | .and=> .v (.int k (andI k a b)) true
 | .or=> .v (.int k (orI k a b)) true
 | .xor=> .v (.int k (xorI k a b)) true
 | .andNot=> .v (.int k (andNotI k a b)) true
 |op=>match intCmp op a b with
  |some r=> .v (.bool r) true
  |none=> .bad
def isShift:BinOp→Bool| .shl| .shr=>true|_=>false
def binE (P:Program) (op:BinOp) (t:TypeId) (x y:AV):Eff:=
 match x,y with
 | .int k a, .int k' b=>
  match op with
  | .shl=> .v (.int k (shlI k a b)) (decide (0≤b))
  | .shr=> .v (.int k (shrI k a b)) (decide (0≤b))
  |op=>{intOp op k a b with chk:=decide (k=k')&&(intOp op k a b).chk}
 | .bool a, .bool b=>
  match op,P.underlying t with
  | .eql,some .bool=> .v (.bool (a==b)) true
  | .neq,some .bool=> .v (.bool (!(a==b))) true
  |_,_=> .bad
 | .str a, .str b=>
  match op with
  | .add=> .v (.str (a++b)) (decide (a.length+b.length≤9223372036854775807))
  | .eql=> .v (.bool (a==b)) true
  | .neq=> .v (.bool (!(a==b))) true
  |_=> .bad
 | .rk nn _ _, .nils=>
  match op,P.underlying t with
  | .eql,some (.slice _)=> .v (.bool (!nn)) true
  | .neq,some (.slice _)=> .v (.bool nn) true
  |_,_=> .bad
 | .agg a, .agg b=>
  match op with
  | .eql=> .v (.bool (eqCells (flatK P (fieldsOf P t)) a b)) (flatT P t&&eqCellsOk (flatK P (fieldsOf P t)) a b)
  | .neq=> .v (.bool (!(eqCells (flatK P (fieldsOf P t)) a b))) (flatT P t&&eqCellsOk (flatK P (fieldsOf P t)) a b)
  |_=> .bad
 |_,_=> .bad
def unE (op:UnOp) (x:AV):Eff:=
 match op,x with
 | .not, .bool b=> .v (.bool (!b)) true
 | .neg, .int k n=> .v (.int k (k.wrap (0-n))) true
 |_,_=> .bad
def runeB (n:Int):List UInt8:=(Utf8.encode n).data.toList
def convE (P:Program) (src dst:TypeId) (x:AV):Eff:=
 match P.underlying src,P.underlying dst,x with
 |some _,some (.int k), .int _ n=> .v (.int k (k.wrap n)) true
 |some _,some .string, .int _ n=> .v (.str (runeB n)) true
 |some _,some .string, .str s=> .v (.str s) true
 |_,_,_=> .bad
def fieldOf (P:Program) (t:TypeId) (f:Nat):Option (Nat×TypeId):=
 match P.underlying t with
 |some (.struct fs)=>match nth none (fs.toList.map some) f with
  |some fd=>some (fd.offset,fd.type)
  |none=>none
 |_=>none
def fieldAddrE (P:Program) (t:TypeId) (x:AV) (f:Nat):Eff:=
 match fieldOf P t f with
 |none=> .bad
 |some p=>
  match x with
  | .ptr b off=> .v (.ptr b (off+p.1)) (P.cellsOf p.2 !=0)
  | .eptr b ver i j=> .v (.eptr b ver i (j+p.1)) (P.cellsOf p.2 !=0)
  | .tptr b ver q i j=> .v (.tptr b ver q i (j+p.1)) (P.cellsOf p.2 !=0)
  | .rptr cs j=> .v (.rptr cs (j+p.1)) (P.cellsOf p.2 !=0)
  |_=> .bad
def fieldE (P:Program) (t:TypeId) (x:AV) (f:Nat):Eff:=
 match fieldOf P t f with
 |none=> .bad
 |some p=>
  match x with
  | .agg cs=> .v (pack P p.2 (takeL (dropL cs p.1) (P.cellsOf p.2))) (Nat.ble (p.1+P.cellsOf p.2) cs.length&&fitT P p.2)
  |_=> .bad
def elemT (P:Program) (t:TypeId):Option TypeId:=match P.underlying t with|some (.slice e)=>some e|_=>none
def szOf (H:List Blk) (b:Nat):Nat:=match rdOf (nth .free H b) with|some r=>r.sz|none=>0
def nOf (H:List Blk) (b:Nat):Nat:=match rdOf (nth .free H b) with|some r=>r.n|none=>0
def verOf (H:List Blk) (b:Nat):Nat:=match rdOf (nth .free H b) with|some r=>r.ver|none=>(match tabD (nth .free H b) with|some d=>d.ver|none=>0)
def tabN (H:List Blk) (b:Nat) (p:Pth):Nat:=match tabD (nth .free H b) with|some d=>(d.nd p).xs.length|none=>0
def tabSz (H:List Blk) (b:Nat) (p:Pth):Nat:=match tabD (nth .free H b) with|some d=>width (d.nd p).k|none=>0
def vpOf (H:List Blk) (b:Nat) (p:Pth):Nat:=match tabD (nth .free H b) with|some d=>d.vp p|none=>0
def ivOf (H:List Blk) (b:Nat):Nat:=match tabD (nth .free H b) with|some d=>d.iv|none=>0
def tabVer (H:List Blk) (b ver:Nat) (p:Pth):Bool:=match tabD (nth .free H b) with|some d=>d.vp p==ver|none=>false
def indexAddrE (P:Program) (t:TypeId) (H:List Blk) (x ix:AV):Eff:=
 match P.underlying t,x,ix with
 |some (.slice e), .ro k xs, .int _ i=> .v (.rptr (gt k xs i.toNat) 0) (Nat.blt 0 (P.cellsOf e)&&(width k==P.cellsOf e&&(decide (0≤i)&&decide (i<xs.length))))
 |some (.slice e), .sl b ver off len, .int _ i=> .v (.eptr b ver (addN off i.toNat) 0) (Nat.blt 0 (P.cellsOf e)&&(szOf H b==P.cellsOf e&&(verOf H b==ver&&(decide (0≤i)&&decide (i<winN (nOf H b) off len)))))
 |some (.slice e), .tsl b ver p, .int _ i=> .v (.tptr b ver p i.toNat 0) (Nat.blt 0 (P.cellsOf e)&&(tabSz H b p==P.cellsOf e&&(tabVer H b ver p&&(decide (0≤i)&&decide (i<tabN H b p)))))
 |some (.slice e), .csl b off n, .int _ i=> .v (.ptr b (off+i.toNat*P.cellsOf e)) (Nat.blt 0 (P.cellsOf e)&&(decide (0≤i)&&decide (i<n)))
 |some (.array n e), .ptr b off, .int _ i=> .v (.ptr b (off+i.toNat*P.cellsOf e)) (Nat.blt 1 n&&(Nat.blt 0 (P.cellsOf e)&&(decide (0≤i)&&decide (i<n))))
 |some (.array n e), .rptr cs j, .int _ i=>
  .v (.rptr (gt (kE P e) (chunks (kE P e) n cs) i.toNat) 0) ((j==0)&&(Nat.blt 0 (P.cellsOf e)&&(width (kE P e)==P.cellsOf e&&(cs.length==n*P.cellsOf e&&(chunksOk (kE P e) n cs&&(decide (0≤i)&&decide (i<n)))))))
 |_,_,_=> .bad
def indexE (P:Program) (t:TypeId) (x ix:AV):Eff:=
 match P.underlying t,x,ix with
 |some (.array n e), .agg cs, .int _ i=>
  .v (pack P e (gt (kE P e) (chunks (kE P e) n cs) i.toNat)) (width (kE P e)==P.cellsOf e&&(cs.length==n*P.cellsOf e&&(fitT P e&&(chunksOk (kE P e) n cs&&(decide (0≤i)&&decide (i<n))))))
 |some .string, .str s, .int _ i=> .v (.int .u8 (nth 0 s i.toNat).toNat) (decide (0≤i)&&decide (i<s.length))
 |_,_,_=> .bad
def bnd (d:Nat):Option AV→Nat
 |none=>d
 |some (.int _ n)=>n.toNat
 |some _=>0
def bndOk:Option AV→Bool
 |none=>true
 |some (.int _ n)=>decide (0≤n)
 |some _=>false
def sliceL {α:Type} (lo hi:Option AV) (xs:List α):List α:=
 match lo,hi with
 |none,none=>xs
 |some a,none=>xs.drop (bnd 0 (some a))
 |none,some b=>xs.take (bnd 0 (some b))
 |some a,some b=>(xs.drop (bnd 0 (some a))).take (bnd 0 (some b)-bnd 0 (some a))
def sliceW (lo hi:Option AV) (off:Nat) (len:Option Nat):Nat×Option Nat:=
 match hi with
 |some b=>(addN off (bnd 0 lo),some (bnd 0 (some b)-bnd 0 lo))
 |none=>(addN off (bnd 0 lo),match len with|none=>none|some l=>some (l-bnd 0 lo))
def zI:AV→Bool| .int _ n=>decide (n=0)|_=>false
def zO:Option AV→Bool|none=>true|some v=>zI v
def isSlv:AV→Bool| .ro _ _| .sl .. | .nils| .zc=>true|_=>false
def sliceE (P:Program) (t:TypeId) (H:List Blk) (x:AV) (lo hi mx:Option AV):Eff:=
 match mx,P.underlying t,x with
 |none,some (.slice e), .ro k xs=>
  .v (.ro k (sliceL lo hi xs)) (Nat.blt 0 (P.cellsOf e)&&(width k==P.cellsOf e&&(bndOk lo&&(bndOk hi&&(decide (bnd xs.length hi≤xs.length)&&decide (bnd 0 lo≤bnd xs.length hi))))))
 |none,some (.slice e), .sl b ver off len=>
  .v (.sl b ver (sliceW lo hi off len).1 (sliceW lo hi off len).2) (Nat.blt 0 (P.cellsOf e)&&(szOf H b==P.cellsOf e&&(verOf H b==ver&&(bndOk lo&&(bndOk hi&&(decide (bnd (winN (nOf H b) off len) hi≤winN (nOf H b) off len)&&decide (bnd 0 lo≤bnd (winN (nOf H b) off len) hi)))))))
 |some m,some (.slice e),x=>
  .v .zc (Nat.blt 0 (P.cellsOf e)&&(isSlv x&&(zI m&&(hi.isSome&&(zO hi&&zO lo)))))
 |none,some (.array n e), .ptr b off=>
  .v (.csl b (off+bnd 0 lo*P.cellsOf e) (bnd n hi-bnd 0 lo)) (Nat.blt 0 (P.cellsOf e)&&(Nat.blt 1 n&&(bndOk lo&&(bndOk hi&&(decide (bnd n hi≤n)&&(decide (bnd 0 lo≤bnd n hi)&&decide (bnd 0 lo<n)))))))
 |none,some .string, .str s=>
  .v (.str (sliceL lo hi s)) (bndOk lo&&(bndOk hi&&(decide (bnd s.length hi≤s.length)&&decide (bnd 0 lo≤bnd s.length hi))))
 |_,_,_=> .bad
def arrayAtE (P:Program) (t:TypeId) (x:AV):Eff:=
 match P.underlying t,x with
 |some (.array n _), .csl b off len=> .v (.ptr b off) (Nat.ble n len)
 |_,_=> .bad
def zeroA (P:Program) (t:TypeId):AV:=
 match (P.info? t).bind (·.zero) with
 |some z=>ofV 4 z
 |none=> .junk
def fillA (place:Nat→Option (Nat×Nat)) (cells:List AV):List (Nat×AV)→Option (List AV)
 |[]=>some cells
 | (i,v)::rest=>
  match place i with
  |none=>none
  |some p=>
   bif isV v&&((cellsA v).length==p.2&&Nat.ble (p.1+p.2) cells.length) then fillA place (takeL cells p.1++cellsA v++dropL cells (p.1+p.2)) rest else none
def placeOf (P:Program) (t:TypeId) (i:Nat):Option (Nat×Nat):=
 match P.underlying t with
 |some (.struct _)=>match fieldOf P t i with|some p=>some (p.1,P.cellsOf p.2)|none=>none
 |some (.array _ e)=>some (i*P.cellsOf e,P.cellsOf e)
 |_=>none
def buildOk (P:Program) (t:TypeId):Bool:=
 match P.underlying t with
 |some (.struct fs)=>fs.toList.all fun f=>(P.info? f.type).isSome
 |some (.array _ e)=>(P.info? e).isSome
 |_=>false
def buildE (P:Program) (t:TypeId) (parts:List (Nat×AV)):Eff:=
 match fillA (placeOf P t) (cellsA (zeroA P t)) parts with
 |some cs=> .v (.agg cs) (buildOk P t&&isV (zeroA P t))
 |none=> .bad
def reps {α:Type}:Nat→List α→List α
 |0,_=>[]
 |n+1,l=>l++reps n l
def buildCslE (P:Program) (e:TypeId) (base len:Nat) (parts:List (Nat×AV)):Eff:=
 match fillA (fun i=>some (i*P.cellsOf e,P.cellsOf e)) (reps len (cellsA (zeroA P e))) parts with
 |some cs=>{val:= .csl base 0 len,chk:=Nat.blt 0 (P.cellsOf e)&&((cellsA (zeroA P e)).length==P.cellsOf e&&(isV (zeroA P e)&&(parts.all (fun p=>isV p.2)&&Nat.ble (len*P.cellsOf e) 16777216))),wr:=[(base, .cells cs)]}
 |none=> .bad
def takeCells (H:List Blk) (os:List TypeId) (k:CK):List AV→Nat→List AV
 |[],_=>[]
 |c::cs,j=>(match ownC os k j with|some ek=>rowV H os ek c|none=>view1 H c)::takeCells H os k cs (j+1)
def takenB (os:List TypeId) (k:CK):List AV→Nat→List Nat
 |[],_=>[]
 |c::cs,j=>(match ownC os k j with|some _=>refs1 c|none=>[])++takenB os k cs (j+1)
def leftB (os:List TypeId) (k:CK):List AV→Nat→List Nat
 |[],_=>[]
 |c::cs,j=>(match ownC os k j with|some _=>[]|none=>refs1 c)++leftB os k cs (j+1)
def distinct:List Nat→Bool
 |[]=>true
 |x::l=> !l.contains x&&distinct l
def buildT (P:Program) (os:List TypeId) (e:TypeId) (H:List Blk) (base:Nat) (x:AV):Eff:=
 {val:= .tsl base 0 [],
  chk:=(Nat.blt 0 (P.cellsOf e)&&Nat.ble (P.cellsOf e) 16777216)&&(width (kE P e)==P.cellsOf e&&(isV x&&((isV (zeroA P e)&&(cellsA (zeroA P e)).length==P.cellsOf e)&&((cellsA x).length==P.cellsOf e&&((takeCells H os (kE P e) (cellsA x) 0).all pure1&&(decOk (kE P e) (takeCells H os (kE P e) (cellsA x) 0)&&
   (distinct (takenB os (kE P e) (cellsA x) 0)&&(takenB os (kE P e) (cellsA x) 0).all (fun c=> !(leftB os (kE P e) (cellsA x) 0).contains c)))))))),
  wr:=frozenB H (leftB os (kE P e) (cellsA x) 0)++((takenB os (kE P e) (cellsA x) 0).map (deadB H)++[(base, .tab false 0 0 e (kE P e) os [dec (kE P e) (takeCells H os (kE P e) (cellsA x) 0)] none)])}
def bears (H:List Blk) (parts:List (Nat×AV)):Bool:=parts.any fun p=> !pureA (view H p.2)
def buildSliceE (P:Program) (os:List TypeId) (t:TypeId) (H:List Blk) (base len:Nat) (parts:List (Nat×AV)):Eff:=
 match elemT P t with
 |none=> .bad
 | some e=>
  bif anyOwn os (kE P e) then
   (match len,parts with
   |1,[(0,x)]=>buildT P os e H base x
   |_,_=> .bad)
  else bif bears H parts then buildCslE P e base len parts else
  match fillA (fun i=>some (i*P.cellsOf e,P.cellsOf e)) (reps len (cellsA (zeroA P e))) (parts.map fun p=>(p.1,view H p.2)) with
  |some cs=>{val:= .sl base 0 0 none,chk:=Nat.blt 0 (P.cellsOf e)&&(width (kE P e)==P.cellsOf e&&((cellsA (zeroA P e)).length==P.cellsOf e&&(cs.all pure1&&(chunksOk (kE P e) len cs&&(isV (zeroA P e)&&(parts.all (fun p=>isV p.2)&&Nat.ble (len*P.cellsOf e) 16777216)))))),wr:=frozenB H (parts.flatMap fun p=>refs p.2)++[(base, .row 0 e (kE P e) (chunks (kE P e) len cs))]}
  |none=> .bad
def nilOwn (os:List TypeId) (k:CK):List AV→Nat→Bool
 |[],_=>true
 |c::cs,j=>(match ownC os k j with|some _=>(match c with| .nils=>true|_=>false)|none=>true)&&nilOwn os k cs (j+1)
def makeSliceE (P:Program) (os:List TypeId) (t:TypeId) (base:Nat) (l c:AV):Eff:=
 match elemT P t,l,c with
 | some e, .int _ n, .int _ m=>
  {val:=rowA os (kE P e) base,chk:=nilOwn os (kE P e) (cellsA (zeroA P e)) 0&&(Nat.blt 0 (P.cellsOf e)&&(width (kE P e)==P.cellsOf e&&((cellsA (zeroA P e)).length==P.cellsOf e&&(isV (zeroA P e)&&((cellsA (zeroA P e)).all pure1&&(decOk (kE P e) (cellsA (zeroA P e))&&(decide (0≤n)&&(decide (n≤m)&&(decide (m*P.bytesOf e≤140737488355328)&&decide (m≤4611686018427387904)))))))))),
   wr:=[(base,rowK os e (kE P e) (List.replicate n.toNat (dec (kE P e) (cellsA (zeroA P e)))))]}
 |_,_,_=> .bad
def byteI (b:UInt8):CT (.int .u8):=((b.toNat:Nat):Int)
def bytesI:List UInt8→List (CT (.int .u8))
 |[]=>[]
 |b::s=>byteI b::bytesI s
def srcA:AV→AV
 | .str s=> .ro (.int .u8) (bytesI s)
 |v=>v
def srcOk (H:List Blk):AV→Bool
 | .tsl b _ p=>(match tabD (nth .free H b) with|some d=> !anyOwn d.os (d.nd p).k|none=>false)
 |_=>true
def appendS (P:Program) (e:TypeId) (blk:Blk) (xv:AV) (b ver off:Nat) (len:Option Nat):Eff:=
 match blk with
   | .row ver' e' k xs=>
    {val:= .sl b (ver+1) 0 none,chk:=(ver==ver')&&((e'==e&&width k==P.cellsOf e)&&(Nat.blt 0 (width k)&&(Nat.blt 0 (P.bytesOf e)&&((isV (zeroA P e)&&(cellsA (zeroA P e)).length==P.cellsOf e)&&(isRo k (xv)&&((off==0||(decide (off<xs.length)||decide (0<(asL k (xv)).length)))&&((endsAt xs.length off len)&&decide ((winN xs.length off len+(asL k (xv)).length)*P.bytesOf e≤140737488355328)))))))),
     wr:=[(b, .row (ver+1) e k (xs.drop off++asL k (xv)))]}
   |_=> .bad
def appendE0 (P:Program) (t:TypeId) (H:List Blk) (base:Nat) (s x:AV):Eff:=
 match elemT P t with
 |none=> .bad
 |some e=>
  match s with
  | .nils=>{val:= .sl base 0 0 none,chk:=Nat.blt 0 (P.cellsOf e)&&(Nat.blt 0 (P.bytesOf e)&&((isV (zeroA P e)&&(cellsA (zeroA P e)).length==P.cellsOf e)&&(width (kE P e)==P.cellsOf e&&(isRo (kE P e) (view1 H x)&&decide ((asL (kE P e) (view1 H x)).length*P.bytesOf e≤140737488355328))))),wr:=[(base, .row 0 e (kE P e) (asL (kE P e) (view1 H x)))]}
  | .zc=> .v (.ro (kE P e) (asL (kE P e) (view1 H x))) (Nat.blt 0 (P.cellsOf e)&&(Nat.blt 0 (P.bytesOf e)&&((isV (zeroA P e)&&(cellsA (zeroA P e)).length==P.cellsOf e)&&(width (kE P e)==P.cellsOf e&&(isRo (kE P e) (view1 H x)&&decide ((asL (kE P e) (view1 H x)).length*P.bytesOf e≤140737488355328))))))
  | .sl b ver off len=>appendS P e (nth .free H b) (view1 H x) b ver off len
  |_=> .bad
def elemOk (P:Program) (e:TypeId) (k:CK) (n:Nat):Bool:=(width k==P.cellsOf e&&Nat.blt 0 (width k))&&(Nat.blt 0 (P.bytesOf e)&&((isV (zeroA P e)&&(cellsA (zeroA P e)).length==P.cellsOf e)&&decide (n*P.bytesOf e≤140737488355328)))
def refBlk (H:List Blk):AV→Blk
 | .tsl c _ _=>nth .free H c
 |_=> .free
def appendTTb (P:Program) (t:TypeId) (rb rc:Blk) (b ver:Nat) (x:AV):Eff:=
 match rb,x with
 | .tab false bv iv e k os xs hole, .tsl c cv p=>
  match rc with
  | .tab false cv' civ e' k' os' ys hole'=>
   {val:= .tsl b (bv+1) [],
    chk:=((ver==bv&&hole.isNone)&&(cv==cv'&&(p.isEmpty&&hole'.isNone)))&&(!(b==c)&&(decide (k'=k)&&(os'==os&&(decide (elemT P t=some e)&&elemOk P e k (xs.length+ys.length))))),
    wr:=[(c, .tab false (cv'+1) (civ+1) e' k' os' [] none),(b, .tab false (bv+1) (iv+1) e k os (xs++asL k (.ro k' ys)) none)]}
  |_=> .bad
 |_,_=> .bad
def appendTT (P:Program) (t:TypeId) (H:List Blk) (b ver:Nat) (x:AV):Eff:=appendTTb P t (nth .free H b) (refBlk H x) b ver x
def appendNT (P:Program) (t:TypeId) (H:List Blk) (base:Nat) (x:AV):Eff:=
 match x with
 | .tsl c cv p=>
  match nth .free H c with
  | .tab false cv' civ e k os ys hole'=>
   {val:= .tsl base 0 [],
    chk:=(cv==cv'&&(p.isEmpty&&hole'.isNone))&&(decide (elemT P t=some e)&&elemOk P e k ys.length),
    wr:=[(c, .tab false (cv'+1) (civ+1) e k os [] none),(base, .tab false 0 0 e k os ys none)]}
  |_=> .bad
 |_=> .bad
def openW (b base:Nat) (p:Pth) (d:TD):List (Nat×Blk):=[(b, .tab false d.ver d.iv d.e d.k d.os d.xs (some p)),(base,rowK d.os (d.nd p).e (d.nd p).k (d.nd p).xs)]
def appendIn (P:Program) (t:TypeId) (H:List Blk) (base b ver:Nat) (p:Pth) (x:AV):Eff:=
 match nth .free H b with
 | .tab false bv iv e k os xs hole=>
  bif (ver==iv&&hole.isNone)&&(!(refs1 x).contains b&& !(refs1 x).contains base) then
   (bif anyOwn os ((TD.mk bv iv e k os xs hole).nd p).k then
    {appendTTb P t (rowK os ((TD.mk bv iv e k os xs hole).nd p).e ((TD.mk bv iv e k os xs hole).nd p).k ((TD.mk bv iv e k os xs hole).nd p).xs) (refBlk H x) base 0 x with
     wr:=openW b base p ⟨bv,iv,e,k,os,xs,hole⟩++(appendTTb P t (rowK os ((TD.mk bv iv e k os xs hole).nd p).e ((TD.mk bv iv e k os xs hole).nd p).k ((TD.mk bv iv e k os xs hole).nd p).xs) (refBlk H x) base 0 x).wr}
   else
    match elemT P t with
    |none=> .bad
    | some el=>
     {appendS P el (rowK os ((TD.mk bv iv e k os xs hole).nd p).e ((TD.mk bv iv e k os xs hole).nd p).k ((TD.mk bv iv e k os xs hole).nd p).xs) (view1 H x) base 0 0 none with
      chk:=srcOk H x&&(appendS P el (rowK os ((TD.mk bv iv e k os xs hole).nd p).e ((TD.mk bv iv e k os xs hole).nd p).k ((TD.mk bv iv e k os xs hole).nd p).xs) (view1 H x) base 0 0 none).chk,
      wr:=openW b base p ⟨bv,iv,e,k,os,xs,hole⟩++(appendS P el (rowK os ((TD.mk bv iv e k os xs hole).nd p).e ((TD.mk bv iv e k os xs hole).nd p).k ((TD.mk bv iv e k os xs hole).nd p).xs) (view1 H x) base 0 0 none).wr})
  else .bad
 |_=> .bad
def isTab0 (H:List Blk):AV→Bool
 | .tsl b _ p=>p.isEmpty&&(match nth .free H b with| .tab false _ _ _ k os _ _=>anyOwn os k|_=>false)
 |_=>false
def isNilsA:AV→Bool| .nils=>true|_=>false
def appendE (P:Program) (t:TypeId) (H:List Blk) (base:Nat) (s x:AV):Eff:=
 match s with
 | .tsl b ver []=>appendTT P t H b ver x
 | .tsl b ver (q::p)=>appendIn P t H base b ver (q::p) x
 |s=>bif isNilsA s&&isTab0 H x then appendNT P t H base x else {appendE0 P t H base s x with chk:=srcOk H x&&(appendE0 P t H base s x).chk}
def isRoX (k:CK):AV→Bool| .ro k' _=>decide (k'=k)|_=>false
def copyW {α:Type} (ys xs:List α):List α:=ys.take xs.length++xs.drop ys.length
def copyE (P:Program) (t t':TypeId) (H:List Blk) (s x:AV):Eff:=
 match s with
 | .sl b ver off len=>
  match nth .free H b with
  | .row bv e k xs=>
   {val:= .int .i64 ((Nat.min (asL k x).length xs.length:Nat):Int),
    chk:=((ver==bv)&&((off==0)&&len.isNone))&&(decide (elemT P t=some e)&&((t==t')&&(decide ((P.info? e).map (·.size)=some 1)&&(width k==1&&isRoX k x)))),
    wr:=[(b, .row bv e k (copyW (asL k x) xs))]}
  |_=> .bad
 |_=> .bad
def isSlT (P:Program) (t:TypeId):Bool:=match P.underlying t with|some (.slice _)=>true|_=>false
def isStrT (P:Program) (t:TypeId):Bool:=match P.underlying t with|some .string=>true|_=>false
def bytesS:List (CT (.int .u8))→List UInt8
 |[]=>[]
 |n::s=>UInt8.ofNat (Int.toNat n)::bytesS s
def isU8 (P:Program) (t:TypeId):Bool:=match elemT P t with|some e=>(match P.underlying e with|some (.int .u8)=>true|_=>false)|none=>false
def bytesE (P:Program) (s d:TypeId) (H:List Blk) (x:AV):Eff:= .v (.str (bytesS (asL (.int .u8) (view1 H x)))) (isU8 P s&&(isStrT P d&&(isRo (.int .u8) (view1 H x)&& !isTsl x)))
def convHE (P:Program) (s d:TypeId) (H:List Blk) (x:AV):Eff:=bif isSlT P s then bytesE P s d H x else convE P s d x
def isMapT (P:Program) (t:TypeId):Bool:=match P.underlying t with|some (.map _ _)=>true|_=>false
def lenE (P:Program) (t:TypeId) (H:List Blk) (x:AV):Eff:=
 match x with
 | .mp b=>(match mapD (nth .free H b) with|some d=> .v (.int .i64 d.m.length) (isMapT P t)|none=> .bad)
 | .rmap _ _ _ _ m=> .v (.int .i64 m.length) (isMapT P t)
 | .ro _ xs=> .v (.int .i64 xs.length) (isSlT P t)
 | .csl _ _ n=> .v (.int .i64 n) (isSlT P t)
 | .sl b ver off len=> .v (.int .i64 (winN (nOf H b) off len)) (isSlT P t&&verOf H b==ver)
 | .tsl b ver p=> .v (.int .i64 (tabN H b p)) (isSlT P t&&tabVer H b ver p)
 | .nils=> .v (.int .i64 0) (isSlT P t)
 | .zc=> .v (.int .i64 0) (isSlT P t)
 | .str s=> .v (.int .i64 s.length) (isStrT P t)
 |_=> .bad
def reach (H:List Blk):Nat→List Nat→List Nat→List Nat
 |0,_,seen=>seen
 |_+1,[],seen=>seen
 |d+1,b::todo,seen=>bif seen.contains b then reach H d todo seen else reach H d (todo++blkRefs (nth .free H b)) (seen++[b])
def idx (b:Nat):List Nat→Nat→Option Nat
 |[],_=>none
 |x::l,n=>bif x==b then some n else idx b l (n+1)
def nv (q:Bool) (ver:Nat):Nat:=bif q then (bif ver==0 then 0 else 1) else 0
def ren1 (pin:Nat) (H:List Blk) (ord:List Nat):AV→AV
 | .mp b=>match idx b ord 0 with|some c=> .mp c|none=> .junk
 | .it b=>match idx b ord 0 with|some c=> .it c|none=> .junk
 | .rmap ka va kk vk m=> .rmap ka va kk vk m
 | .csl b off n=>match idx b ord 0 with|some c=> .csl c off n|none=> .junk
 | .ptr b off=>match idx b ord 0 with|some c=> .ptr c off|none=> .junk
 | .eptr b ver i j=>match idx b ord 0 with|some c=>bif ver==verOf H b then .eptr c (nv (Nat.blt c pin) ver) i j else .junk|none=> .junk
 | .sl b ver o l=>match idx b ord 0 with|some c=>bif ver==verOf H b then .sl c (nv (Nat.blt c pin) ver) o l else .junk|none=> .junk
 | .tsl b ver p=>match idx b ord 0 with|some c=>bif ver==vpOf H b p then .tsl c (nv (Nat.blt c pin) ver) p else .junk|none=> .junk
 | .tptr b ver p i j=>match idx b ord 0 with|some c=>bif ver==vpOf H b p then .tptr c (nv (Nat.blt c pin) ver) p i j else .junk|none=> .junk
 | .bool b=> .bool b
 | .int k n=> .int k n
 | .str s=> .str s
 | .ro k xs=> .ro k xs
 | .rptr cs j=> .rptr cs j
 | .nilp=> .nilp| .nilm=> .nilm| .nilf=> .nilf| .nili=> .nili| .nils=> .nils| .fn f=> .fn f| .zc=> .zc
 |_=> .junk
def ren (pin:Nat) (H:List Blk) (ord:List Nat):AV→AV
 | .agg cs=> .agg (cs.map (ren1 pin H ord))
 | .clo f caps=> .clo f (caps.map (ren1 pin H ord))
 |v=>ren1 pin H ord v
def renB (pin c:Nat) (H:List Blk) (ord:List Nat):Blk→Blk
 | .cells cs=> .cells (cs.map (ren pin H ord))
 | .row ver e k xs=> .row (nv (Nat.blt c pin) ver) e k xs
 | .fro ver e k xs=> .fro (nv (Nat.blt c pin) ver) e k xs
 | .map ka va kk vk m=> .map ka va kk vk m
 | .fmap ka va kk vk m=> .fmap ka va kk vk m
 | .iter ka va kk vk rest cur=> .iter ka va kk vk rest cur
 | .tab fz ver iv e k os xs hole=> .tab fz (nv (Nat.blt c pin) ver) (nv (Nat.blt c pin) iv) e k os xs hole
 | .free=> .free
def bare1:AV→Bool
 | .bool _| .int _ _| .str _=>true
 |_=>false
def bare:AV→Bool
 | .tup vs=>vs.all bare1
 |v=>bare1 v
def anyRef (ms:List Bool):Bool:=ms.any fun m=>m
def byRef:List Bool→List AV→List AV
 |true::ms,x::xs=>x::byRef ms xs
 |false::ms,_::xs=>byRef ms xs
 |_,_=>[]
def byView:List Bool→List AV→List AV
 |true::ms,_::xs=>byView ms xs
 |false::ms,x::xs=>x::byView ms xs
 |[],xs=>xs
 |_,[]=>[]
def passA (H:List Blk) (ord:List Nat):List Bool→List AV→List AV
 |true::ms,x::xs=>ren 0 H ord x::passA H ord ms xs
 |false::ms,x::xs=>viewA H x::passA H ord ms xs
 |[],xs=>xs.map (viewA H)
 |_,[]=>[]
def renHs (pin:Nat) (H:List Blk) (ord:List Nat):List Nat→Nat→List Blk
 |[],_=>[]
 |b::l,c=>renB pin c H ord (nth .free H b)::renHs pin H ord l (c+1)
def renH (pin:Nat) (H:List Blk) (ord:List Nat):List Blk:=renHs pin H ord ord 0
def ordA (H:List Blk) (ms:List Bool) (args:List AV):List Nat:=reach H 300 ((byRef ms args).flatMap refsG) []
def callR (cx:Cx) (H:List Blk) (f:FuncId) (args:List AV):Res:=cx.C f (passA H (ordA H (cx.mode f) args) (cx.mode f) args) (renH 0 H (ordA H (cx.mode f) args))
def tauP (t:Nat×Nat):Pth→Nat
 |[]=>t.1
 |_::_=>t.2
def mv1 (ρ:Nat→Nat) (τ:Nat→Nat×Nat):AV→AV
 | .mp b=> .mp (ρ b)
 | .it b=> .it (ρ b)
 | .rmap ka va kk vk m=> .rmap ka va kk vk m
 | .csl b off n=> .csl (ρ b) off n
 | .ptr b off=> .ptr (ρ b) off
 | .eptr b ver i j=> .eptr (ρ b) (ver+(τ b).1) i j
 | .sl b ver off len=> .sl (ρ b) (ver+(τ b).1) off len
 | .tsl b ver p=> .tsl (ρ b) (ver+tauP (τ b) p) p
 | .tptr b ver p i j=> .tptr (ρ b) (ver+tauP (τ b) p) p i j
 | .bool b=> .bool b
 | .int k n=> .int k n
 | .str s=> .str s
 | .ro k xs=> .ro k xs
 | .rptr cs j=> .rptr cs j
 | .nilp=> .nilp| .nilm=> .nilm| .nilf=> .nilf| .nili=> .nili| .nils=> .nils| .fn f=> .fn f| .zc=> .zc
 |_=> .junk
def mv2 (ρ:Nat→Nat) (τ:Nat→Nat×Nat):AV→AV
 | .agg cs=> .agg (cs.map (mv1 ρ τ))
 | .clo f caps=> .clo f (caps.map (mv1 ρ τ))
 |v=>mv1 ρ τ v
def mv (ρ:Nat→Nat) (τ:Nat→Nat×Nat):AV→AV
 | .tup vs=> .tup (vs.map (mv2 ρ τ))
 |v=>mv2 ρ τ v
def mvB (ρ:Nat→Nat) (τ:Nat→Nat×Nat) (c:Nat):Blk→Blk
 | .cells cs=> .cells (cs.map (mv2 ρ τ))
 | .row ver e k xs=> .row (ver+(τ c).1) e k xs
 | .fro ver e k xs=> .fro (ver+(τ c).1) e k xs
 | .map ka va kk vk m=> .map ka va kk vk m
 | .fmap ka va kk vk m=> .fmap ka va kk vk m
 | .iter ka va kk vk rest cur=> .iter ka va kk vk rest cur
 | .tab fz ver iv e k os xs hole=> .tab fz (ver+(τ c).1) (iv+(τ c).2) e k os xs hole
 | .free=> .free
def rho (ord:List Nat) (base:Nat) (c:Nat):Nat:=bif Nat.blt c ord.length then nth 0 ord c else base+(c-ord.length)
def tau (H:List Blk) (ord:List Nat) (c:Nat):Nat×Nat:=(bif Nat.blt c ord.length then verOf H (nth 0 ord c) else 0,bif Nat.blt c ord.length then ivOf H (nth 0 ord c) else 0)
def backs (ρ:Nat→Nat) (τ:Nat→Nat×Nat):List Blk→Nat→List (Nat×Blk)
 |[],_=>[]
 |x::l,c=>(ρ c,mvB ρ τ c x)::backs ρ τ l (c+1)
def isFree:Blk→Bool
 | .free=>true
 |_=>false
def callAt (cx:Cx) (H:List Blk) (frz:List (Nat×Blk)) (base:Nat) (f:FuncId) (args:List AV):Eff:=
 {val:=mv (rho (ordA H (cx.mode f) args) base) (tau H (ordA H (cx.mode f) args)) (callR cx H f args).val,
  chk:=(byView (cx.mode f) args).all (fun x=>pureA (viewA H x))&&((ordA H (cx.mode f) args).all (fun b=> !isFree (nth .free H b))&&(Nat.ble (ordA H (cx.mode f) args).length (callR cx H f args).heap.length&&
   (Nat.ble (callR cx H f args).heap.length ((ordA H (cx.mode f) args).length+8)&&(callR cx H f args).ok))),
  wr:=frz++backs (rho (ordA H (cx.mode f) args) base) (tau H (ordA H (cx.mode f) args)) (callR cx H f args).heap 0}
def frzA (H:List Blk) (ms:List Bool) (args:List AV):List (Nat×Blk):=frozenB H ((byView ms args).flatMap refs)
def bareR (r:Res):Bool:=bare r.val&&r.heap.isEmpty
def callE (cx:Cx) (H:List Blk) (base:Nat) (f:FuncId) (args:List AV):Eff:=
 bif !(anyRef (cx.mode f))&&bareR (callR cx H f args) then callAt cx H [] base f args
 else {callAt cx (sets H (frzA H (cx.mode f) args)) (frzA H (cx.mode f) args) base f args with
  chk:= !((byView (cx.mode f) args).any isClo)&&(callAt cx (sets H (frzA H (cx.mode f) args)) (frzA H (cx.mode f) args) base f args).chk}
def keyC:CK→Bool
 | .bool=>true
 | .int _=>true
 | .str=>true
 | .pair a b=>keyC a&&keyC b
 |_=>false
def scalT (P:Program) (t:TypeId):Bool:=match P.underlying t with|some .bool=>true|some (.int _)=>true|some .string=>true|_=>false
def arrF:Nat→TypeId→List Field
 |0,_=>[]
 |n+1,e=>{name:= "",type:=e,offset:=0,embedded:=false,tag:= "",pkgPath:= "",byteOffset:=0}::arrF n e
def keyKs (P:Program) (t:TypeId):Option (List CK):=
 match P.underlying t with
 |some .bool=>some [.bool]
 |some (.int k)=>some [.int k]
 |some .string=>some [.str]
 |some (.struct _)=>bif flatT P t then some (flatK P (fieldsOf P t)) else none
 |some (.array n e)=>bif scalT P e&&(P.cellsOf e==1) then some (flatK P (arrF n e)) else none
 |_=>none
def keyOk (P:Program) (t:TypeId):Bool:=
 match keyKs P t with
 |some ks=>decide (kE P t=kPair ks)&&(!ks.isEmpty&&(ks.all keyC&&(isAggT P t||ks.length==1)))
 |none=>false
def mapT (P:Program) (t:TypeId):Option (TypeId×TypeId):=
 match P.underlying t with
 |some (.map k e)=>some (k,e)
 |_=>none
def makeMapE (P:Program) (t:TypeId) (base:Nat):Eff:=
 match mapT P t with
 |some ke=>{val:= .mp base,chk:=keyOk P ke.1,wr:=[(base, .map (isAggT P ke.1) (isAggT P ke.2) (kE P ke.1) (kE P ke.2) [])]}
 |none=> .bad
def asK (P:Program) (t:TypeId) (x:AV):Bool:=isV x&&(isAggV x==isAggT P t&&((cellsA x).length==width (kE P t)&&decOk (kE P t) (cellsA x)))
def mapV (H:List Blk):AV→Option MapD
 | .mp b=>mapD (nth .free H b)
 | .rmap ka va kk vk m=>some ⟨ka,va,kk,vk,m⟩
 |_=>none
def lookV (P:Program) (ke:TypeId×TypeId) (ix:AV) (ok:Bool) (d:MapD):Eff:=
 {val:=bif ok then .tup [packB d.va (enc d.vk (getM d.kk (dec d.vk (cellsA (zeroA P ke.2))) d.m (dec d.kk (cellsA ix)))), .bool (hasM d.kk d.m (dec d.kk (cellsA ix)))] else packB d.va (enc d.vk (getM d.kk (dec d.vk (cellsA (zeroA P ke.2))) d.m (dec d.kk (cellsA ix)))),
  chk:=keyOk P ke.1&&(decide (d.kk=kE P ke.1)&&(decide (d.vk=kE P ke.2)&&(d.ka==isAggT P ke.1&&(d.va==isAggT P ke.2&&(asK P ke.1 ix&&(pureA (zeroA P ke.2)&&asK P ke.2 (zeroA P ke.2)))))))}
def lookupE (P:Program) (t:TypeId) (H:List Blk) (x ix:AV) (ok:Bool):Eff:=
 match mapT P t with
 |none=> .bad
 |some ke=>
  match mapV H x with
  |some d=>lookV P ke ix ok d
  |none=> .bad
def updateE (P:Program) (t:TypeId) (H:List Blk) (x ix v:AV):Eff:=
 match mapT P t with
 |none=> .bad
 | some ke=>
  match x with
  | .mp b=>
   match nth .free H b with
   | .map ka va kk vk m=>
    {val:= .junk,
     chk:=keyOk P ke.1&&(decide (kk=kE P ke.1)&&(decide (vk=kE P ke.2)&&(ka==isAggT P ke.1&&(va==isAggT P ke.2&&(asK P ke.1 ix&&(asK P ke.2 (view H v)&&(pureA (view H v)&& !(refs v).contains b))))))),
     wr:=frozenB H (refs v)++[(b, .map ka va kk vk (insM kk m (dec kk (cellsA ix)) (dec vk (cellsA (view H v)))))]}
   |_=> .bad
  |_=> .bad
def isMpB:AV→Bool
 | .mp _=>true
 |_=>false
def rangeE (P:Program) (t:TypeId) (H:List Blk) (base:Nat) (x:AV):Eff:=
 match mapT P t with
 |none=> .bad
 |some _=>
  match mapV H x with
  |some d=>{val:= .it base,chk:=(bif isMpB x then true else !d.m.isEmpty),wr:=frozenB H (refs x)++[(base, .iter d.ka d.va d.kk d.vk d.m [])]}
  |none=> .bad
def nextE (cx:Cx) (H:List Blk) (x:AV) (isStr:Bool):Eff:=
 match isStr,x with
 | false, .it b=>
  match nth .free H b with
  | .iter ka va kk vk rest cur=>
   match cx.way with
   |1=>{val:= .tup [.bool false],chk:=rest.isEmpty}
   |2=>⟨.tup [.bool true,packB ka (enc kk (nth (dflt kk,dflt vk) rest cx.pick).1),packB va (enc vk (nth (dflt kk,dflt vk) rest cx.pick).2)],decide (cx.pick<rest.length),[(b, .iter ka va kk vk (rest.eraseIdx cx.pick) [nth (dflt kk,dflt vk) rest cx.pick])]⟩
   |_=> .bad
  |_=> .bad
 |_,_=> .bad
def entryE (H:List Blk) (x:AV):Eff:=
 match x with
 | .it b=>
  match nth .free H b with
  | .iter ka va kk vk _ (p::_)=> .v (.tup [packB ka (enc kk p.1),packB va (enc vk p.2)]) true
  |_=> .bad
 |_=> .bad
class Globs where
 gl:List (Nat×List AV)
def findG:List (Nat×List AV)→Nat→AV
 |[],_=> .junk
 |p::l,g=>bif p.1==g then .rptr p.2 0 else findG l g
variable [Globs]
def unw:AV→AV| .when _ v=>v|v=>v
def grd:AV→Bool| .when g _=>g|_=>true
def ev (T:List AV):Operand→AV
 | .tmp t=>nth .junk T t
 | .const v=>ofV 4 v
 | .global g=>findG Globs.gl g
 | .func f=> .fn (.func f)
def evs (T:List AV):List Operand→List AV
 |[]=>[]
 |x::xs=>unw (ev T x)::evs T xs
def grds (T:List AV):List Operand→Bool
 |[]=>true
 |x::xs=>grd (ev T x)&&grds T xs
def slots (o:Oper):Nat:=
 match o.op with
 | .alloc _=>6| .makeMap .. =>1| .box .. =>1| .buildSlice .. =>1| .makeSlice .. =>1| .assign _=>4| .store .. =>4| .range .. =>1
 | .call c=>(match c.callee with| .builtin .append=>1| .value _=>8|_=>0)
 |_=>0
def pickB (c:Bool) (a b:AV):AV:=
 match a,b with
 | .bool x, .bool y=> .bool (bif c then x else y)
 | .bool x,_=>bif c then .bool x else .junk
 |_, .bool y=>bif c then .junk else .bool y
 |_,_=> .junk
def pickV (c a b:AV):AV:=
 match unw c with
 | .bool c=>pickB c (unw a) (unw b)
 |_=> .junk
def pickOk (c a b:AV):Bool:=
 match unw c with
 | .bool c'=>grd c&&(isB (pickB c' (unw a) (unw b))&&(bif c' then grd a else grd b))
 |_=>false
def minE:List AV→Eff
 |[.int k x, .int k' y]=> .v (.int k (bif decide (y<x) then y else x)) (decide (k=k'))
 |_=> .bad
def maxE:List AV→Eff
 |[.int k x, .int k' y]=> .v (.int k (bif decide (y>x) then y else x)) (decide (k=k'))
 |_=> .bad
def asClo:AV→AV
 | .fn (.func f)=> .clo (f,false) []
 |v=>v
def callOpE (cx:Cx) (T:List AV) (H:List Blk) (base:Nat) (c:Call):Eff:=
 match c.callee with
 | .builtin .len=>match evs T c.args.toList,c.argTypes.toList with
  |[x],[t]=>lenE cx.P t H x
  |_,_=> .bad
 | .builtin .append=>match evs T c.args.toList,c.argTypes.toList with
  |[s,x],[t,t']=>{appendE cx.P t H base s (srcA x) with chk:=(elemT cx.P t).isSome&&((bif isStr x then isStrT cx.P t' else t==t')&&(appendE cx.P t H base s (srcA x)).chk)}
  |_,_=> .bad
 | .builtin .copy=>match evs T c.args.toList,c.argTypes.toList with
  |[s,x],[t,t']=>copyE cx.P t t' H s x
  |_,_=> .bad
 | .builtin .min=>minE (evs T c.args.toList)
 | .builtin .max=>maxE (evs T c.args.toList)
 | .value (.func f)=>callE cx H base f (evs T c.args.toList)
 | .value (.tmp t)=>
  match asClo (unw (ev T (.tmp t))) with
  | .clo f caps=>callE cx H base f.1 (cloArgs f.2 (evs T c.args.toList) (caps.map unclo))
  |_=> .bad
 |_=> .bad
def opE0 (cx:Cx) (T:List AV) (H:List Blk) (base:Nat) (o:Oper):Eff:=
 match o.op with
 | .move x=> .v (unw (ev T x)) true
 | .assign x=>
  match unw (ev T x),cks cx.P o.type with
  | .nils,[.slice e k]=>{val:=rowA cx.os k base,chk:=true,wr:=[(base,rowK cx.os e k [])]}
  |v,_=> .v v true
 | .pick c a b=> .v (pickV (ev T c) (ev T a) (ev T b)) (pickOk (ev T c) (ev T a) (ev T b))
 | .alloc t=>
  {val:= .ptr base 0,chk:=isV (zeroA cx.P t)&&Nat.ble (promo cx.os (cks cx.P t) (cellsA (zeroA cx.P t)) (base+1)).2.length 5,
   wr:=(promo cx.os (cks cx.P t) (cellsA (zeroA cx.P t)) (base+1)).2++[(base, .cells (promo cx.os (cks cx.P t) (cellsA (zeroA cx.P t)) (base+1)).1)]}
 | .box t x=>{val:= .ptr base 0,chk:=isV (unw (ev T x))&&(cellsA (unw (ev T x))).length==cx.P.cellsOf t,wr:=[(base, .cells (cellsA (unw (ev T x))))]}
 | .build t parts=>buildE cx.P t (parts.toList.map fun p=>(p.1,unw (ev T p.2)))
 | .buildSlice t len parts=>buildSliceE cx.P cx.os t H base len (parts.toList.map fun p=>(p.1,unw (ev T p.2)))
 | .load t a=>loadE cx.P t H (unw (ev T a))
 | .store t a x=>storeE cx.P cx.os t H base (unw (ev T a)) (unw (ev T x))
 | .nilCheck x=>
  match unw (ev T x) with
  | .ptr b off=> .v (.ptr b off) true
  | .eptr b ver i j=> .v (.eptr b ver i j) true
  | .tptr b ver p i j=> .v (.tptr b ver p i j) true
  | .rptr cs j=> .v (.rptr cs j) true
  |_=> .bad
 | .binOp op t x y _=>binE cx.P op t (unw (ev T x)) (unw (ev T y))
 | .unOp op _ x=>unE op (unw (ev T x))
 | .convert s d x=>convHE cx.P s d H (unw (ev T x))
 | .makeSlice t l c=>makeSliceE cx.P cx.os t base (unw (ev T l)) (unw (ev T c))
 | .sliceToArrayPointer t x=>arrayAtE cx.P t (unw (ev T x))
 | .slice t x lo hi mx=>sliceE cx.P t H (unw (ev T x)) (lo.map fun y=>unw (ev T y)) (hi.map fun y=>unw (ev T y)) (mx.map fun y=>unw (ev T y))
 | .fieldAddr s x f=>fieldAddrE cx.P s (unw (ev T x)) f
 | .field s x f=>fieldE cx.P s (unw (ev T x)) f
 | .indexAddr t x ix=>indexAddrE cx.P t H (unw (ev T x)) (unw (ev T ix))
 | .index t x ix=>indexE cx.P t (unw (ev T x)) (unw (ev T ix))
 | .extract t ix=>match unw (ev T t) with
  | .tup vs=> .v (nth .junk vs ix) (Nat.blt ix vs.length)
  |_=> .bad
 | .call c=>callOpE cx T H base c
 | .makeMap t none=>makeMapE cx.P t base
 | .lookup t x ix ok=>lookupE cx.P t H (unw (ev T x)) (unw (ev T ix)) ok
 | .range t x=>rangeE cx.P t H base (unw (ev T x))
 | .next x s=>nextE cx H (unw (ev T x)) s
 | .entry x=>entryE H (unw (ev T x))
 | .mapUpdate t m k x=>updateE cx.P t H (unw (ev T m)) (unw (ev T k)) (unw (ev T x))
 | .insert t m k x=>updateE cx.P t H (unw (ev T m)) (unw (ev T k)) (unw (ev T x))
 | .makeFunc (.func f) first caps=>bif first.isEmpty then .v (.clo (f,false) (evs T caps.toList)) ((evs T caps.toList).all fun c=>cell1 c) else .v (.clo (f,true) (evs T first.toList)) (caps.isEmpty&&(evs T first.toList).all fun c=>cell1 c)
 |_=> .bad
def opG (T:List AV) (o:Oper):Bool:=
 match o.op with
 | .pick .. =>true
 |op=>grds T op.operands.toList
def guardD (ops:List Oper):Option (Nat×Bool)→Option Nat
 |none=>none
 |some (j,_)=>(nth none (ops.map some) j).bind (·.dst)
def guardB (ops:List Oper) (T:List AV):Option (Nat×Bool)→Option Bool
 |none=>some true
 | some (j,want)=>
  match (nth none (ops.map some) j).bind (·.dst) with
  |none=>none
  |some d=>match unw (nth .junk T d) with
   | .bool b=>some (grd (nth .junk T d)&&(bif want then b else !b))
   |_=>bif grd (nth .junk T d) then none else some false
def opE (cx:Cx) (ops:List Oper) (T:List AV) (H:List Blk) (base:Nat) (o:Oper):Eff:=
 bif (guardB ops T o.guard).getD true then opE0 cx T H base o else {val:= .junk,chk:=true}
def valG (g:Option (Nat×Bool)) (b:Bool) (v:AV):AV:=match g with|none=>v|some _=> .when b v
def putD (T:List AV) (d:Option Tmp) (v:AV):List AV:=match d with|some d=>put T d v|none=>T
def stepOp (cx:Cx) (ops:List Oper) (base:Nat) (o:Oper) (st:St):St:=
 match guardB ops st.T o.guard with
 |none=>{st with ok:=false}
 | some g=>
  {T:=putD st.T o.dst (valG o.guard g (opE cx ops st.T st.H base o).val),H:=sets st.H (opE cx ops st.T st.H base o).wr,
   ok:=st.ok&&imp g (opG st.T o&&(opE cx ops st.T st.H base o).chk)}
def callRd (cx:Cx) (T:List AV) (H:List Blk):Op→List Nat
 | .call c=>
  match c.callee with
  | .value (.func f)=>ordA H (cx.mode f) (evs T c.args.toList)
  | .value (.tmp t)=>
   match asClo (unw (ev T (.tmp t))) with
   | .clo f caps=>ordA H (cx.mode f.1) (cloArgs f.2 (evs T c.args.toList) (caps.map unclo))
   |_=>[]
  |_=>[]
 |_=>[]
def readsH:Op→Bool
 | .load .. | .store .. | .convert .. | .indexAddr .. | .slice .. | .buildSlice .. | .call _| .lookup .. | .mapUpdate .. | .insert .. | .range .. | .next .. | .entry .. =>true
 |_=>false
def isCall:Op→Bool
 | .call _=>true
 |_=>false
def opRd (cx:Cx) (T:List AV) (H:List Blk) (o:Oper):List Nat:=
 bif readsH o.op then (evs T o.op.operands.toList).flatMap refs++((bif isCall o.op then (evs T o.op.operands.toList).flatMap (deepC H) else [])++callRd cx T H o.op) else []
def tmpsOf:List Operand→List Nat
 |[]=>[]
 | .tmp t::l=>t::tmpsOf l
 |_::l=>tmpsOf l
structure Foot where
 rd:List Nat
 wr:List Nat
 use:List Nat
 dst:List Nat
def footOf (cx:Cx) (ops:List Oper) (base:Nat) (o:Oper) (st:St):Foot:=
 {rd:=opRd cx st.T st.H o,wr:=(opE cx ops st.T st.H base o).wr.map (·.1)++upTo (slots o) base,use:=tmpsOf o.op.operands.toList++(guardD ops o.guard).toList,dst:=o.dst.toList}
def meets (a b:List Nat):Bool:=a.any fun x=>b.contains x
def clash (a b:Foot):Bool:=meets a.wr (b.wr++b.rd)||meets b.wr a.rd||meets a.dst (b.dst++b.use)||meets b.dst a.use
def runOps (cx:Cx) (all:List Oper):List Oper→Nat→St→St
 |[],_,st=>st
 |o::rest,base,st=>runOps cx all rest (base+slots o) (stepOp cx all base o st)
def feet (cx:Cx) (all:List Oper):List Oper→Nat→St→List Foot
 |[],_,_=>[]
 |o::rest,base,st=>footOf cx all base o st::feet cx all rest (base+slots o) (stepOp cx all base o st)
def slotsAll:List Oper→Nat
 |[]=>0
 |o::r=>slots o+slotsAll r
def frees:Nat→List Blk
 |0=>[]
 |n+1=> .free::frees n
def edgeBits (acc:List Nat):List Edge→Nat
 |[]=>0
 |e::l=>bif Region.binds .any e then edgeBits acc l|||(2^e.on|||nth 0 acc e.on) else edgeBits acc l
def befs:List Oper→List Nat→List Nat
 |[],acc=>acc
 |o::l,acc=>befs l (acc++[edgeBits acc o.after.toList])
def edgesOk:List Oper→Nat→Bool
 |[],_=>true
 |o::l,j=>o.after.toList.all (fun e=> !Region.binds .any e||Nat.blt e.on j)&&edgesOk l (j+1)
def drawRow (bj:Nat) (f:Foot):List Foot→Nat→Bool
 |[],_=>true
 |g::l,i=>(bj.testBit i|| !clash g f)&&drawRow bj f l (i+1)
def drawOk (bs:List Nat):List Foot→List Foot→Nat→Bool
 |_,[],_=>true
 |done,f::l,j=>drawRow (nth 0 bs j) f done 0&&drawOk bs (done++[f]) l (j+1)
def runRegion (cx:Cx) (ops:Array Oper) (draw:Bool) (st:St):St:=
 match draw with
 |false=>runOps cx ops.toList ops.toList st.H.length {st with H:=st.H++frees (slotsAll ops.toList)}
 | true=>{runOps cx ops.toList ops.toList st.H.length {st with H:=st.H++frees (slotsAll ops.toList)} with
   ok:=edgesOk ops.toList 0&&drawOk (befs ops.toList []) [] (feet cx ops.toList ops.toList st.H.length {st with H:=st.H++frees (slotsAll ops.toList)}) 0&&(runOps cx ops.toList ops.toList st.H.length {st with H:=st.H++frees (slotsAll ops.toList)}).ok}
def keep (live:List Nat):List AV→Nat→List AV
 |[],_=>[]
 |v::l,n=>(bif live.contains n then unw v else .junk)::keep live l (n+1)
def grdL (live:List Nat):List AV→Nat→Bool
 |[],_=>true
 |v::l,n=>(bif live.contains n then grd v else true)&&grdL live l (n+1)
def pinOk:Nat→List Nat→Nat→Bool
 |0,_,_=>true
 |n+1,b::l,k=>b==k&&pinOk n l (k+1)
 |_+1,[],_=>false
def gcOrd (pin:Nat) (H:List Blk) (T:List AV):List Nat:=reach H 300 (upTo pin 0++T.flatMap refsG) []
def gc (pin:Nat) (live:List Nat) (st:St):St:=
 {T:=(keep live st.T 0).map (ren pin st.H (gcOrd pin st.H (keep live st.T 0))),H:=renH pin st.H (gcOrd pin st.H (keep live st.T 0)),
  ok:=pinOk pin (gcOrd pin st.H (keep live st.T 0)) 0&&(grdL live st.T 0&&st.ok)}
def firstRegion:Code→Nat
 | .region id _ _=>id
 | .seq a b=>match a with| .skip=>firstRegion b|_=>firstRegion a
 | .cond _ a _=>firstRegion a
 | .block _ c=>firstRegion c
 | .loop c=>firstRegion c
 | .scope c=>firstRegion c
 |_=>100000
def reG:AV→Bool→AV
 | .when g _,b=> .when g (.bool b)
 |_,b=> .bool b
def setB (st:St) (d:Nat) (b:Bool):St:={st with T:=put st.T d (reG (nth .junk st.T d) b)}
def splitQ (ops:List Oper) (o:Oper) (st:St) (F:St→Res):Res:=
 match guardD ops o.guard with
 |none=>F st
 |some d=>
  match unw (nth .junk st.T d) with
  | .bool b=>bif b then F (setB st d true) else F (setB st d false)
  |_=>F st
def earlyQ (st:St) (F:St→Res):Res:=bif st.ok then F {st with ok:=true} else .bad
def callTo (T:List AV) (c:Call):Option (FuncId×List AV):=
 match c.callee with
 | .value (.func f)=>some (f,evs T c.args.toList)
 | .value (.tmp t)=>
  match asClo (unw (ev T (.tmp t))) with
  | .clo f caps=>some (f.1,cloArgs f.2 (evs T c.args.toList) (caps.map unclo))
  |_=>none
 |_=>none
def callH (cx:Cx) (H:List Blk) (f:FuncId) (args:List AV):List Blk:=bif anyRef (cx.mode f) then sets H (frzA H (cx.mode f) args) else H
def callQ (cx:Cx) (all:List Oper) (o:Oper) (st:St) (F:Cx→Res):Res:=
 match o.op with
 | .call c=>
  match callTo st.T c with
  |none=>F cx
  | some fa=>
   match cx.K fa.1 with
   |none=>F cx
   | some k=>
    match guardB all st.T o.guard with
    |some true=>
     k (passA (callH cx st.H fa.1 fa.2) (ordA (callH cx st.H fa.1 fa.2) (cx.mode fa.1) fa.2) (cx.mode fa.1) fa.2) (renH 0 (callH cx st.H fa.1 fa.2) (ordA (callH cx st.H fa.1 fa.2) (cx.mode fa.1) fa.2)) fun r=>F {cx with C:=fun _ _ _=>r}
    |_=>F cx
 |_=>F cx
noncomputable def anyN (n:Nat) (f:Nat→Res):Res:= @ite _ (∀i,i<n→f i=f 0) (Classical.propDecidable _) (f 0) .bad
def opsQ (cx:Cx) (all:List Oper):List Oper→Nat→St→(St→Res)→Res
 |[],_,st,F=>F st
 |o::r,base,st,F=>splitQ all o st fun st=>callQ cx all o st fun cx'=>earlyQ (stepOp cx' all base o st) fun st=>opsQ cx all r (base+slots o) st F
def opsD (cx:Cx) (all:List Oper) (bs:List Nat):List Oper→Nat→Nat→List Foot→St→(St→Res)→Res
 |[],_,_,_,st,F=>F st
 | o::r,base,j,done,st,F=>
  splitQ all o st fun st=>callQ cx all o st fun cx'=>
   bif drawRow (nth 0 bs j) (footOf cx' all base o st) done 0 then
    earlyQ (stepOp cx' all base o st) fun st'=>opsD cx all bs r (base+slots o) (j+1) (done++[footOf cx' all base o st]) st' F
   else .bad
def regionQ (cx:Cx) (ops:Array Oper) (draw:Bool) (st:St) (F:St→Res):Res:=
 match draw with
 |false=>opsQ cx ops.toList ops.toList st.H.length {st with H:=st.H++frees (slotsAll ops.toList)} F
 |true=>
  bif edgesOk ops.toList 0 then opsD cx ops.toList (befs ops.toList []) ops.toList st.H.length 0 [] {st with H:=st.H++frees (slotsAll ops.toList)} F else .bad
def isNextO (o:Oper):Bool:=
 match o.op with
 | .next .. =>true
 |_=>false
def hasNext (ops:Array Oper):Bool:=ops.toList.any isNextO
noncomputable def nextR (cx:Cx) (ops:Array Oper) (draw:Bool) (st:St) (F:St→Res):Res:=
 match draw,ops.toList with
 | false,o::l=>
  match o.op,o.guard with
  | .next x false,none=>
   bif cx.nx&&(grd (ev st.T x)&& !(l.any isNextO)) then
    match unw (ev st.T x) with
    | .it b=>
     match nth .free st.H b with
     | .iter _ _ _ _ rest _=>bif rest.isEmpty then regionQ {cx with way:=1} ops false st F else anyN rest.length fun i=>regionQ {cx with way:=2,pick:=i} ops false st F
     |_=> .bad
    |_=> .bad
   else .bad
  |_,_=> .bad
 |_,_=> .bad
def cutG (cx:Cx) (c:Code) (st:St):St:=
 match cx.live (1000000+firstRegion c) with
 |[]=>st
 |x::l=>gc cx.pin (x::l) st
def backK (loop:St→Res) (gcf:St→St) (k:Ex→St→Res):Ex→St→Res
 | .normal,st=>loop (gcf st)
 | .exit i,st=>k (.exit i) st
 | .ret,st=>k .ret st
def loopK (body:St→(Ex→St→Res)→Res) (gcf:St→St) (k:Ex→St→Res):Nat→St→Res
 |0,_=> .bad
 |n+1,st=>body st (backK (loopK body gcf k n) gcf k)
def seqK (b:St→(Ex→St→Res)→Res) (k:Ex→St→Res):Ex→St→Res
 | .normal,st=>b st k
 | .exit i,st=>k (.exit i) st
 | .ret,st=>k .ret st
def blockK (id:Nat) (k:Ex→St→Res):Ex→St→Res
 | .normal,st=>k .normal st
 | .exit i,st=>bif i==id then k .normal st else k (.exit i) st
 | .ret,st=>k .ret st
noncomputable def runK (cx:Cx):Code→St→(Ex→St→Res)→Res
 | .skip,st,k=>k .normal st
 | .region _ ops draw,st,k=>bif hasNext ops then nextR cx ops draw st (k .normal) else regionQ cx ops draw st (k .normal)
 | .seq a b,st,k=>runK cx a st (seqK (fun st k=>runK cx b (cutG cx b st) k) k)
 | .cond c x y,st,k=>
  match unw (ev st.T c) with
  | .bool b=>bif b then runK cx x {st with ok:=grd (ev st.T c)&&st.ok} k else runK cx y {st with ok:=grd (ev st.T c)&&st.ok} k
  |_=> .bad
 | .block id c,st,k=>runK cx c st (blockK id k)
 | .loop c,st,k=>loopK (runK cx c) (gc cx.pin (cx.live (firstRegion c))) k cx.fuel (gc cx.pin (cx.live (firstRegion c)) st)
 | .scope c,st,k=>runK cx c st k
 | .exit id,st,k=>k (.exit id) st
 | .label _,st,k=>k .normal st
 | .ret,st,k=>k .ret st
 |_,_,_=> .bad
def resV (P:Program) (st:St):ResultVar→AV
 | .tmp t=>unw (nth .junk st.T t)
 | .cell a t=>(loadE P t st.H (unw (nth .junk st.T a))).val
def resOk (P:Program) (st:St):ResultVar→Bool
 | .tmp t=>grd (nth .junk st.T t)
 | .cell a t=>grd (nth .junk st.T a)&&(loadE P t st.H (unw (nth .junk st.T a))).chk
def one (vs:List AV):AV:=match vs with|[v]=>v|vs=> .tup vs
def endRes (cx:Cx) (H:List Blk) (vs:List AV) (ok:Bool):Res:=
 ⟨pinOk cx.pin (gcOrd cx.pin H vs) 0&&ok,one (vs.map (ren cx.pin H (gcOrd cx.pin H vs))),renH cx.pin H (gcOrd cx.pin H vs)⟩
def endK (cx:Cx) (fn:Func):Ex→St→Res
 | .exit _,_=> .bad
 |_,st=>endRes cx st.H (fn.results.toList.map (resV cx.P st)) (fn.results.toList.all (resOk cx.P st)&&st.ok)
def rep {α:Type} (x:α):Nat→List α
 |0=>[]
 |n+1=>x::rep x n
noncomputable def runF (cx:Cx) (fn:Func) (args:List AV) (H:List Blk):Res:=
 match fn.body with
 |some c=>runK cx c {T:=args++rep .junk (fn.ntmps-args.length),H:=H,ok:=true} (endK cx fn)
 |none=> .bad
noncomputable def runFK (cx:Cx) (fn:Func) (args:List AV) (H:List Blk) (κ:Res→Res):Res:=
 match fn.body with
 |some c=>runK cx c {T:=args++rep .junk (fn.ntmps-args.length),H:=H,ok:=true} (fun ex st=>κ (endK cx fn ex st))
 |none=> .bad
end Go.Abs
