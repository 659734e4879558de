/- ScratchSame: true for every input. No condition beyond each theorem's own. -/
import Derived.Test.YtdkieabmeiojjaaGreatDoorPTM
set_option linter.unusedSimpArgs false
set_option linter.unusedVariables false
set_option linter.unusedSectionVars false
set_option maxHeartbeats 64000000
set_option maxRecDepth 100000
namespace Go.Proofs.YtdkieabmeiojjaaGreatDoor
open Go Go.Ab Go.ChangeShapes Go.WideShapes Go.ChangeAt Go.RowKit
open Classical
theorem PS:ownKnob Tryz.prog.godebug=none:=by kernel_rfl
theorem XO (H:Type) (enc:TypeId × Value->H) (W:World) (base:Nat) (args:Array Value) (ds gs:List (DataW H)) (before:List MemPlace)
  (hval:∀(j:Nat) t v,Tryz.f3.params[j]?=some t->args[j]?=some v->Value.okWide Tryz.prog W .any base t v)
  (hW:DataW.Whole enc Tryz.prog Tryz.f3.params.toList Rows.scratchSameSpec.vars false W args.toList ds gs before) (hsh:W.ShapedOpen Tryz.prog) (hL:laidMetH Tryz.prog Rows.scratchSameRow.laid W) :
  Calls Tryz.prog 3 args W fun e W'=>∃v,e=.returned v/\Rows.scratchSameSpec.post enc Tryz.prog Tryz.f3 false true false false W args v W':=by
 letI:Sel:=⟨fun n=>n == "internal/strconv.uint64pow10" || n == "internal/bytealg.MaxLen"⟩
 haveI:SelPow:=⟨rfl⟩
 haveI:SelMax:=⟨rfl⟩
 refine zlR laid (s:=Rows.scratchSameSpec) rfl (tb:=4) rfl Tryz.underlying4 (n:=10) (by kernel_rfl) hval hW (zoZ hL hsh (by kernel_rfl) (by kernel_rfl) (by kernel_rfl) rfl) ?_ ?_
 ·intro h
  match ds,h with
  | [a,b],_=>rfl
 ·intro h hw
  match ds,h with
  | [a,b],_ =>
   obtain⟨x,e1,h1⟩:=zjD (hw 0 26 a rfl rfl)
   obtain⟨y,e2,h2⟩:=zjD (hw 1 26 b rfl rfl)
   have:=D5 x y h1 h2
   have ep:Tryz.f3.params.toList=[26,26]:=rfl
   rw[ep]
   simp only[zcT,e1,e2,zp9]at this |-
   exact this
def scratchSame_args:Array Value:=#[Value.agg #[.slice none 0 0,.slice none 0 0,.slice none 0 0,.slice none 0 0],Value.agg #[.slice none 0 0,.slice none 0 0,.slice none 0 0,.slice none 0 0]]
theorem PO (os:Os):laidMet Tryz.prog Rows.scratchSameRow.laid ((World.laidAll Tryz.prog os Rows.scratchSameRow.laid).forCall (fun _ _=>0) ⟨#[],scratchSame_args,[]⟩).memory :=
 laidMet_laidAll scratchSame_args (by kernel_rfl) (by kernel_rfl)
theorem gX (os:Os) {H:Type} (enc:TypeId × Value->H):∃x,DataW.whole enc Tryz.prog ((World.laidAll Tryz.prog os Rows.scratchSameRow.laid).forCall (fun _ _=>0) ⟨#[],scratchSame_args,[]⟩).memory Tryz.f3.params.toList Rows.scratchSameSpec.vars false scratchSame_args.toList 8=some x :=
 Option.isSome_iff_exists.1 (by kernel_rfl)
theorem vZ (os:Os) (started:os.Started) (H:Type) (enc:TypeId × Value->H) (F:Stop.Interp) :
  ReturnsInHanded {} Tryz.checked os 3 .any ((OpenSpec.ofChange Rows.scratchSameSpec).preRow enc Tryz.prog Tryz.f3 Rows.scratchSameRow.domain false Rows.scratchSameRow.laid) (((OpenSpec.ofChange Rows.scratchSameSpec).at F).post enc Tryz.prog Tryz.f3 false true false false):=by
 obtain⟨x,hx⟩:=gX os enc
 refine returnsInHanded_of_row (C:=Tryz.checked) (s:=OpenSpec.ofChange Rows.scratchSameSpec) PS started (by kernel_rfl) Tryz.func3
  (witness_row_at (enc:=enc) (C:=Tryz.checked) false (World.laidAll Tryz.prog os Rows.scratchSameRow.laid) scratchSame_args (World.laidAll_os _ _ _) (by kernel_rfl) (by kernel_rfl) (by kernel_rfl)
   (OpenSpec.preRow_of_cond 8 hx rfl (fun k hk=>by cases hk) (by kernel_rfl) (PO os))) ?_
 intro W base args ds gs before hval hW _ _ _ hL hsh _
 exact XO H enc W base args ds gs before hval hW hsh hL
theorem vG:joinedFacts Tryz.pinned.checked.prog 3 Tryz.f3 (OpenSpec.ofChange Rows.scratchSameSpec).bare Rows.scratchSameRow=true:=by
 unfold joinedFacts
 simp only[Bool.and_eq_true]
 and_intros
 all_goals (as_aux_lemma=>kernel_rfl)
theorem GU:Rows.ScratchSameSaid :=
 OpenClaim.holds_of_cond 3 Tryz.f3 rfl rfl rfl rfl rfl rfl rfl ⟨rfl,rfl,rfl,rfl,rfl⟩ rfl rfl rfl rfl rfl (by kernel_rfl) Tryz.func3 vG
  (of_decide_eq_true (by kernel_rfl)) (by unfold Func.isWrapper;first|(rw[if_pos (by decide +kernel)];kernel_rfl)|(rw[if_neg (by decide +kernel)];exact⟨rfl,rfl⟩))
  (fun os started H enc _ F=>by rw[OpenClaim.pre_eq_preRow];exact vZ os started H enc F)
theorem gE (f:FuncId) (fn:Func) (hf:Tryz.pinned.checked.prog.funcNamed "bloomery/bloomerylaw29.ScratchSame" = some f) (hfn:Tryz.pinned.checked.prog.funcs[f]?=some fn) :
  false=Tryz.pinned.checked.prog.looks []/\∀(j:Nat) t,fn.params[j]?=some t->Tryz.pinned.checked.prog.wantsStandIn t=false:=by
 obtain rfl:f=3:=Option.some.inj ((show Tryz.prog.funcNamed "bloomery/bloomerylaw29.ScratchSame" = some 3 by kernel_rfl).symm.trans hf) |>.symm
 obtain rfl:fn=Tryz.f3:=(Option.some.inj (Tryz.func3.symm.trans hfn)).symm
 refine⟨by kernel_rfl,fun j t ht=>?_⟩
 have ep:Tryz.f3.params.toList=[26,26]:=rfl
 have hm:t∈Tryz.f3.params.toList:=(Array.mem_of_getElem? ht).val
 rw[ep]at hm
 have hall:[26,26].all (fun t=>!(Tryz.prog.wantsStandIn t))=true:=by kernel_rfl
 have:=List.all_eq_true.1 hall t hm
 exact(by simpa using this:Tryz.prog.wantsStandIn t=false)
theorem scratchSame_card:Rows.ScratchSameCardSaid :=
 Claim7.holds_tied_plain_at .later [] _ _ _ _ GU (fun _ h=>by cases h) (by kernel_rfl) (fun _ h=>by cases h) scratchSame_row_tie rfl ⟨rfl,rfl⟩ (by kernel_rfl) rfl gE (by kernel_rfl)
#print axioms scratchSame_card
end Go.Proofs.YtdkieabmeiojjaaGreatDoor
