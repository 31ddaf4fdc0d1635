/- OrganBreaksLeast: the card of the statement, for every input; no conditions but what the card itself lists. -/
import Derived.Test.YtiglikocfjhkcaaDoorVCL
import Derived.Test.YtiglikocfjhkcaaDoorCards
import Derived.Test.YtiglikocfjhkcaaDoorTie
import Derived.WalkKit
import Derived.ProofKit
import Derived.OpenShut
import Derived.Deep.DeepHandedRow
import Derived.Lib.LaidTab
import Derived.KernelRfl
set_option linter.all false
set_option linter.unusedVariables false
set_option linter.unusedSimpArgs false
open Go Go.Abs Go.Proofs
open Go.ChangeShapes Go.WideShapes Go.ChangeAt Go.RowKit
namespace Go.Proofs.YtiglikocfjhkcaaDoor
theorem own:ownKnob Tryd.prog.godebug=none:=by kernel_rfl
theorem laidOut:laidOutB Tryd.prog=true:=by kernel_rfl
theorem globL:GlobL Tryd.prog YtiglikocfjhkcaaDoor.Rows.organBreaksLeastRow.laid globsI.gl:=⟨⟨by kernel_rfl,⟨143,by kernel_rfl,by kernel_rfl⟩,rfl⟩,⟨⟨by kernel_rfl,⟨145,by kernel_rfl,by kernel_rfl⟩,rfl⟩,trivial⟩⟩
set_option maxRecDepth 100000 in
theorem contract (H:Type) (enc:TypeId×Value→H) (W:World) (base:Nat) (args:Array Value) (ds gs:List (DataW H)) (before:List MemPlace)
  (hval0:∀(j:Nat) t v,Tryd.f3.params[j]?=some t→args[j]?=some v→Value.okWide Tryd.prog W .any base t v)
  (hW:DataW.Whole enc Tryd.prog Tryd.f3.params.toList YtiglikocfjhkcaaDoor.Rows.organBreaksLeastSpec.vars false W args.toList ds gs before)
  (hsz0:(DataW.weightsEach Tryd.prog (Tryd.f3.params.toList++[]) (ds++gs)).all (· ≤reachBytes)=true) (hL:laidMetH Tryd.prog YtiglikocfjhkcaaDoor.Rows.organBreaksLeastRow.laid W):
  Calls Tryd.prog 3 args W fun e W'=>∃v,e= .returned v∧YtiglikocfjhkcaaDoor.Rows.organBreaksLeastSpec.post enc Tryd.prog Tryd.f3 false true false false W args v W':=by
 have hW':=hW
 obtain ⟨p,q,hA,hV,rfl,hfz,hnd⟩:=hW
 obtain ⟨rfl,rfl⟩:=trodVars_none hV
 have hsz:=hsz0
 rw[List.append_nil,List.append_nil] at hsz
 have hts:Tryd.f3.params.toList.length=3:=by kernel_rfl
 have hlen:=trodAll_len hA
 rw[hts] at hlen
 refine (lawCalls tabVC (f:=3) (fn:=Tryd.f3) (ts:=Tryd.f3.params.toList) (KK:=lawLeast_K) (sh:=lawLeast_sh) Tryd.func3 (by kernel_rfl) (by kernel_rfl) (by kernel_rfl) (by kernel_rfl) (by kernel_rfl) laidOut lawLeast_fin (fun j t v h1 h2=>hval0 j t v (by simpa using h1) h2) hA hsz (glob_of hL globL)).mono fun e W' ⟨he,bel,back⟩=> ?_
 subst he
 match ds,hlen with
 |[d0,d1,d2],_=>exact ⟨_,rfl,_,_,_,[],_,[],hW',trodAll_mk1 (shut_bool (t:=4) (by kernel_rfl) _),back,rfl,bel.frame _,fun h=>by cases h⟩
noncomputable def laidWorld (os:Os):World:=
 {World.holding Tryd.prog os ⟨#[], #[],[]⟩ with heap:=(((World.holding Tryd.prog os ⟨#[], #[],[]⟩).heap.modify 0 fun| .cells _ t frozen=> .cells #[.string ⟨#[]⟩, .string ⟨#[48]⟩, .string ⟨#[49]⟩, .string ⟨#[48,48]⟩, .string ⟨#[48,49]⟩, .string ⟨#[49,48]⟩, .string ⟨#[49,49]⟩, .string ⟨#[48,48,48]⟩] t frozen|o=>o).modify 1 fun| .cells _ t frozen=> .cells #[.string ⟨#[48,48,48,48]⟩, .int .i64 9, .string ⟨#[48,48,48,49]⟩, .int .i64 10, .string ⟨#[48,48,49]⟩, .int .i64 11, .string ⟨#[48,49,48]⟩, .int .i64 12, .string ⟨#[48,49,49]⟩, .int .i64 17, .string ⟨#[49,48,48]⟩, .int .i64 18, .string ⟨#[49,48,49]⟩, .int .i64 19, .string ⟨#[49,49,48]⟩, .int .i64 20, .string ⟨#[49,49,49]⟩, .int .i64 25] t frozen|o=>o)}
theorem laid_met (os:Os):laidMet Tryd.prog YtiglikocfjhkcaaDoor.Rows.organBreaksLeastRow.laid ((laidWorld os).forCall (fun _ _=>0) ⟨#[], #[.agg #[.int .i64 0, .int .i64 0, .int .i64 0, .slice none 0 0, .slice none 0 0], .agg #[.int .i64 0, .int .i64 0, .int .i64 0, .slice none 0 0, .slice none 0 0, .slice none 0 0], .slice none 0 0],[]⟩).memory:=
 laidMet_of_run' 8 (by kernel_rfl) (by kernel_rfl)
theorem reads (os:Os) {H:Type} (enc:TypeId×Value→H):(DataW.whole enc Tryd.prog ((laidWorld os).forCall (fun _ _=>0) ⟨#[], #[.agg #[.int .i64 0, .int .i64 0, .int .i64 0, .slice none 0 0, .slice none 0 0], .agg #[.int .i64 0, .int .i64 0, .int .i64 0, .slice none 0 0, .slice none 0 0, .slice none 0 0], .slice none 0 0],[]⟩).memory Tryd.f3.params.toList YtiglikocfjhkcaaDoor.Rows.organBreaksLeastSpec.vars false (#[.agg #[.int .i64 0, .int .i64 0, .int .i64 0, .slice none 0 0, .slice none 0 0], .agg #[.int .i64 0, .int .i64 0, .int .i64 0, .slice none 0 0, .slice none 0 0, .slice none 0 0], .slice none 0 0]:Array Value).toList 8).isSome=true:=by kernel_rfl
set_option maxRecDepth 100000 in
theorem lifted (os:Os) (started:os.Started) (H:Type) (enc:TypeId×Value→H) (F:Stop.Interp):
  ReturnsInHanded {} Tryd.checked os 3 .any ((OpenSpec.ofChange YtiglikocfjhkcaaDoor.Rows.organBreaksLeastSpec).preRow enc Tryd.prog Tryd.f3 YtiglikocfjhkcaaDoor.Rows.organBreaksLeastRow.domain false YtiglikocfjhkcaaDoor.Rows.organBreaksLeastRow.laid) (((OpenSpec.ofChange YtiglikocfjhkcaaDoor.Rows.organBreaksLeastSpec).at F).post enc Tryd.prog Tryd.f3 false true false false):=by
 obtain ⟨x,hx⟩:=Option.isSome_iff_exists.1 (reads os enc)
 refine returnsInHanded_of_row (C:=Tryd.checked) (s:=OpenSpec.ofChange YtiglikocfjhkcaaDoor.Rows.organBreaksLeastSpec) own started (by kernel_rfl) Tryd.func3
  (witness_row_at (enc:=enc) (C:=Tryd.checked) false (laidWorld os) #[.agg #[.int .i64 0, .int .i64 0, .int .i64 0, .slice none 0 0, .slice none 0 0], .agg #[.int .i64 0, .int .i64 0, .int .i64 0, .slice none 0 0, .slice none 0 0, .slice none 0 0], .slice none 0 0] rfl (by kernel_rfl) (by kernel_rfl) (by kernel_rfl)
   (OpenSpec.preRow_of_cond 8 hx rfl (fun k hk=>by cases hk) (by kernel_rfl) (laid_met os))) ?_
 intro W base args ds gs before hval hW _ _ hsz hL _ _
 exact contract H enc W base args ds gs before hval hW hsz hL
theorem said:YtiglikocfjhkcaaDoor.Rows.OrganBreaksLeastSaid:=
 OpenClaim.holds_of_cond 3 Tryd.f3 rfl rfl rfl rfl rfl rfl rfl ⟨rfl,rfl,rfl,rfl,rfl⟩ rfl rfl rfl rfl rfl (by kernel_rfl) Tryd.func3 (by kernel_rfl)
  (of_decide_eq_true (by kernel_rfl)) (by unfold Func.isWrapper;first|(rw[if_pos (by decide+kernel)];kernel_rfl)|(rw[if_neg (by decide+kernel)];exact ⟨rfl,rfl⟩))
  (fun os started H enc _ F=>by rw[OpenClaim.pre_eq_preRow];exact lifted os started H enc F)
theorem plainP:(Tryd.f3.params.toList.all fun t=> !Tryd.prog.wantsStandIn t)=true:=by kernel_rfl
theorem plain (f:FuncId) (fn:Func) (hf:YtiglikocfjhkcaaDoor.Tryd.pinned.checked.prog.funcNamed "ramet/rametlaw05.OrganBreaksLeast" =some f) (hfn:YtiglikocfjhkcaaDoor.Tryd.pinned.checked.prog.funcs[f]?=some fn):
  false=YtiglikocfjhkcaaDoor.Tryd.pinned.checked.prog.looks []∧∀(j:Nat) t,fn.params[j]?=some t→YtiglikocfjhkcaaDoor.Tryd.pinned.checked.prog.wantsStandIn t=false:=by
 obtain rfl:f=3:=Option.some.inj ((show Tryd.prog.funcNamed "ramet/rametlaw05.OrganBreaksLeast" =some 3 by kernel_rfl).symm.trans hf) |>.symm
 obtain rfl:fn=Tryd.f3:=(Option.some.inj (Tryd.func3.symm.trans hfn)).symm
 refine ⟨by kernel_rfl,fun j t ht=> ?_⟩
 have hm:t∈Tryd.f3.params.toList:=Array.mem_toList_iff.2 (Array.mem_of_getElem? ht)
 have:=List.all_eq_true.1 plainP t hm
 have h2:Tryd.prog.wantsStandIn t=false:=by simpa using this
 exact h2
theorem proved:YtiglikocfjhkcaaDoor.Rows.OrganBreaksLeastCardSaid:=
 Claim7.holds_tied_plain_at .later [] _ _ _ _ said (fun _ h=>by cases h) (by kernel_rfl) (fun _ h=>by cases h) YtiglikocfjhkcaaDoor.organBreaksLeast_row_tie rfl ⟨rfl,rfl⟩ (by kernel_rfl) rfl plain (by kernel_rfl)
end Go.Proofs.YtiglikocfjhkcaaDoor
