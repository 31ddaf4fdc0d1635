/- The document's cells, leaks and out word of an organ. -/
import Derived.Test.YtiglikocfjhkcaaDoorSP1
set_option linter.all false
set_option linter.unusedVariables false
set_option linter.unusedSimpArgs false
open Go Go.Abs Go.Proofs
namespace Go.Proofs.YtiglikocfjhkcaaDoor
def mG (w h:Int) (m:Mo):Bool:=outerOk m&&mIn w h m
def orgG (k w h:Int) (cells:List Int) (ms:List Mo):Bool:=decide ((1≤w∧w≤24)∧(1≤h∧h≤24)∧(cells.length:Int)=w*h∧(k=0∨k=1)∧ms.length<1000)&&ms.all (mG w h)
theorem orgG_spec {k w h:Int} {cells:List Int} {ms:List Mo} (g:orgG k w h cells ms=true):(1≤w∧w≤24)∧(1≤h∧h≤24)∧(cells.length:Int)=w*h∧(k=0∨k=1)∧ms.length<1000∧ms.all (fun m=>outerOk m)=true∧ms.all (mIn w h)=true:=by
 simp only[orgG,Bool.and_eq_true,decide_eq_true_eq] at g
 obtain ⟨⟨a,b,c,d,e⟩,f⟩:=g
 have q:=List.all_eq_true.1 f
 refine ⟨a,b,c,d,e,List.all_eq_true.2 fun m hm=> ?_,List.all_eq_true.2 fun m hm=> ?_⟩
 ·have:=q m hm;simp only[mG,Bool.and_eq_true] at this;exact this.1
 ·have:=q m hm;simp only[mG,Bool.and_eq_true] at this;exact this.2
def atV (w h:Int) (cells:List Int) (ms:List Mo) (word x y:Int):Int:=bif inR w h x y then nth 0 cells (y*w+x).toNat else meetsL word x y ms 0
abbrev LkZ:=Int×Int×Int×List Int×List Mo×Int×Int×Int×Int
def leakOf (k out d s:Int):Bool:=bif decide (out=0) then sideN k [] out d s !=0 else !leadsM (sideN k [] out d s,(rIsOrdM out).1)
def leaksM:LkZ→Bool:=fun (k,w,h,cells,ms,word,x,y,d)=>leakOf k (meetsL word (x+dX d) (y+dY d) ms 0) d (nth 0 cells (y*w+x).toNat)
def orgV (k w h:Int) (cells:List Int) (ms:List Mo):AV:=AV.agg [AV.int .i64 k,AV.int .i64 w,AV.int .i64 h,AV.ro KI cells,AV.ro MoK ms]
theorem rIs_cIs (s:Int):rIsOrdM s=cIsOrdM s:=(rIsOrd_isOrd s).trans (cIsOrd_isOrd s).symm
def nxV (k w h:Int) (cells:List Int) (ms:List Mo) (word x y:Int):Int:=
 cNextM (k,[],atV w h cells ms word x y,atV w h cells ms word (x+1) y,atV w h cells ms word x (y-1),atV w h cells ms word (x-1) y,atV w h cells ms word x (y+1))
def lkD (k w h:Int) (cells:List Int) (ms:List Mo) (word x y d:Int):Bool:= !inR w h (x+dX d) (y+dY d)&&leaksM (k,w,h,cells,ms,word,x,y,d)
def lkAt (k w h:Int) (cells:List Int) (ms:List Mo) (word x y:Int):Bool:=lkD k w h cells ms word x y 0||lkD k w h cells ms word x y 1||lkD k w h cells ms word x y 2||lkD k w h cells ms word x y 3
def lkI (k w h:Int) (cells:List Int) (ms:List Mo) (word:Int) (i:Nat):Bool:=lkAt k w h cells ms word ((i % w.toNat:Nat):Int) ((i / w.toNat:Nat):Int)
theorem anyAll_congr {f g:Nat→Bool}:∀(j i:Nat) (b:Bool),(∀q,i≤q→q<i+j→f q=g q)→anyAll f j i b=anyAll g j i b
 |0,_,_,_=>rfl
 |j+1,i,b,h=>by rw[anyAll,anyAll,h i (by omega) (by omega)];exact anyAll_congr j (i+1) _ fun q h1 h2=>h q (by omega) (by omega)
def resB (b:Bool):Res:={ok:=true,val:=AV.bool b}
abbrev LyZ:=Int×Int×Int×List Int×List Mo×Int
def leakyM:LyZ→Bool:=fun (k,w,h,cells,ms,word)=>anyAll (lkI k w h cells ms word) cells.length 0 false
def nxI (k w h:Int) (cells:List Int) (ms:List Mo) (word:Int) (i:Nat):Int:=nxV k w h cells ms word ((i % w.toNat:Nat):Int) ((i / w.toNat:Nat):Int)
def upTo (f:Nat→Int) (n:Nat):List Int:=(List.range n).map f
theorem upTo_succ (f:Nat→Int) (n:Nat):upTo f (n+1)=upTo f n++[f n]:=by simp[upTo,List.range_succ]
theorem upTo_len (f:Nat→Int) (n:Nat):(upTo f n).length=n:=by simp[upTo]
theorem upTo_congr {f g:Nat→Int} {n:Nat} (h:∀i,i<n→f i=g i):upTo f n=upTo g n:=List.map_congr_left fun i hi=>h i (List.mem_range.1 hi)
theorem setAll_upTo (f:Nat→Int):∀(j i:Nat),setAll f j i (upTo f i++List.replicate j 0)=upTo f (i+j)
 |0,i=>by simp[setAll]
 | j+1,i=>by
  have hs:(upTo f i++List.replicate (j+1) 0).set i (f i)=upTo f (i+1)++List.replicate j 0:=by
   rw[upTo_succ,List.set_append_right _ _ (by rw[upTo_len];omega),upTo_len,Nat.sub_self,List.replicate_succ,List.set_cons_zero,List.append_assoc];rfl
  rw[setAll,hs,setAll_upTo f j (i+1),show i+1+j=i+(j+1) by omega]
theorem afterM_upTo (w h rk:Int) (m:MM) (l:List Int) (word:Int):afterM w h rk m l word=upTo (cellI w h rk [] m l word) l.length:=by
 have:=setAll_upTo (cellI w h rk [] m l word) l.length 0
 rw[Nat.zero_add] at this
 exact this
abbrev OrgB:=Int×Int×Int×List Int×List Mo×Bool
def steppedM:LyZ→OrgB:=fun (k,w,h,cells,ms,word)=>
 bif leakyM (k,w,h,cells,ms,word) then (0,0,0,[],[],false) else bif badL w (upTo (nxI k w h cells ms word) cells.length) ms then (0,0,0,[],[],false) else (k,w,h,upTo (nxI k w h cells ms word) cells.length,ms,true)
def fineB (bits a:Int):Bool:=decide (0≤a)&&decide (a<shlI .i64 1 bits)
end Go.Proofs.YtiglikocfjhkcaaDoor
