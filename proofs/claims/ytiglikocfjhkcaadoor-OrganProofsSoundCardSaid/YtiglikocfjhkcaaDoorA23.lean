/- More words for laws. -/
import Derived.Test.YtiglikocfjhkcaaDoorA22
set_option linter.all false
set_option linter.unusedVariables false
set_option linter.unusedSimpArgs false
namespace Go.Abs
theorem ltF {i n:Nat} (h:n≤i):decide ((i:Int)<(n:Int))=false:=by simp;omega
abbrev big:Nat:=9223372036854775807
theorem resB (b:Bool) (x y:Bool):(bif b then (⟨true, .bool x,[]⟩:Res) else ⟨true, .bool y,[]⟩)=⟨true, .bool (bif b then x else y),[]⟩:=by cases b<;>rfl
theorem resI (b:Bool) (k:IntKind) (x y:Int):(bif b then (⟨true, .int k x,[]⟩:Res) else ⟨true, .int k y,[]⟩)=⟨true, .int k (bif b then x else y),[]⟩:=by cases b<;>rfl
end Go.Abs
namespace Go.Abs
theorem wrapS {i:Nat} (h:i<big):IntKind.wrap IntKind.i64 ((i:Int)+1)=((i+1:Nat):Int):=wrap_succ h
end Go.Abs
namespace Go.Abs
theorem wf_len {P:Program} {e:TypeId} {k:CK} {xs:List (CT k)} (h:wfT P (.slice e k) xs) (hb:Nat.blt 0 (P.bytesOf e)=true):List.length (α:=CT k) xs<big:=by
 have h1:List.length (α:=CT k) xs*P.bytesOf e≤140737488351232:=h.1
 have:=Nat.le_mul_of_pos_right (List.length (α:=CT k) xs) (show 0<P.bytesOf e by simpa [Nat.blt_eq] using hb)
 simp only[big]
 omega
theorem wf_mem {P:Program} {e:TypeId} {k:CK} {xs:List (CT k)} (h:wfT P (.slice e k) xs) {x:CT k} (hx: @Membership.mem (CT k) (List (CT k)) _ xs x):wfT P k x:=h.2.2 x hx
end Go.Abs
namespace Go.Abs
theorem Ret.row {e e':TypeId} {k:CK} {xs:List (CT k)}:Ret [none] (.slice e k) ⟨true, .sl 0 0 0 none,[.row 0 e' k xs]⟩ xs:=by
 have h:roVs ⟨true, .sl 0 0 0 none,[.row 0 e' k xs]⟩=[.ro k xs]:=by simp[roVs,valsOf,view,view1,nth,rdOf,win]
 refine ⟨rfl,rfl,?_,?_,?_,?_,fun _ h=>by cases h⟩
 ·rw[h];rfl
 ·rw[h];rfl
 ·rw[h];simp[flatA,cellsA,decOk,nth,isRo]
 ·rw[h];exact asL_ro k xs
theorem Ret.nils {e:TypeId} {k:CK}:Ret [none] (.slice e k) ⟨true, .nils,[]⟩ []:=⟨rfl,rfl,rfl,rfl,rfl,rfl,fun _ h=>by cases h⟩
theorem Ret.ro {e:TypeId} {k:CK} {xs:List (CT k)}:Ret [none] (.slice e k) ⟨true, .ro k xs,[]⟩ xs:=by
 have h:roVs ⟨true, .ro k xs,[]⟩=[.ro k xs]:=rfl
 refine ⟨rfl,rfl,?_,?_,?_,?_,fun _ h=>by cases h⟩
 ·rw[h];rfl
 ·rw[h];rfl
 ·rw[h];simp[flatA,cellsA,decOk,nth,isRo]
 ·rw[h];exact asL_ro k xs
end Go.Abs
namespace Go.Abs
end Go.Abs
