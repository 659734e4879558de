/- ScratchEnded: true for every input of bulk at most 1048576. No condition beyond each theorem's own. -/
import Derived.Test.YtdkieabmeiojjaaGreatDoorBPDaToSW0
import Derived.Test.YtdkieabmeiojjaaGreatDoorPTM
set_option linter.unusedSimpArgs false
set_option linter.unusedVariables false
set_option linter.unusedSectionVars false
set_option maxHeartbeats 64000000
set_option maxRecDepth 100000
namespace Go.Proofs.YtdkieabmeiojjaaGreatDoor
open Go Go.Ab Go.ChangeShapes Go.WideShapes Go.ChangeAt Go.RowKit
open Classical
theorem zrb:ownKnob Tryz.prog.godebug=none:=by kernel_rfl
theorem zqX (H:Type) (enc:TypeId × Value->H) (W:World) (base:Nat) (args:Array Value) (ds gs:List (DataW H)) (before:List MemPlace)
  (hval:∀(j:Nat) t v,Tryz.f4.params[j]?=some t->args[j]?=some v->Value.okWide Tryz.prog W .any base t v)
  (hW:DataW.Whole enc Tryz.prog Tryz.f4.params.toList Rows.scratchEndedSpec.vars false W args.toList ds gs before) (hB:Rows.uptoBulkAll ds<=1048576) (hsh:W.ShapedOpen Tryz.prog) (hL:laidMetH Tryz.prog Rows.scratchEndedUptoRow.laid W) :
  Calls Tryz.prog 4 args W fun e W'=>∃v,e=.returned v/\Rows.scratchEndedSpec.post enc Tryz.prog Tryz.f4 false true false false W args v W':=by
 letI:Sel:=⟨fun n=>n == "internal/strconv.uint64pow10" || n == "internal/bytealg.MaxLen"⟩
 haveI:SelPow:=⟨rfl⟩
 haveI:SelMax:=⟨rfl⟩
 refine zlR laid (s:=Rows.scratchEndedSpec) rfl (tb:=4) rfl Tryz.underlying4 (n:=10) (by kernel_rfl) hval hW (zoZ hL hsh (by kernel_rfl) (by kernel_rfl) (by kernel_rfl) rfl) ?_ ?_
 ·intro h
  match ds,h with
  | [a],_=>rfl
 ·intro h hw
  match ds,h with
  | [a],_ =>
   obtain⟨x,e1⟩:=zt5 (hw 0 37 a rfl rfl)
   have hb1:=zlB a
   rw[e1]at hb1
   have hB':Rows.uptoBulk a<=1048576:=by simpa[Rows.uptoBulkAll]using hB
   have hk:=zsw x
   have hkb:WP (yV x)<=1048576:=by omega
   have:=zrn x (hk.b hkb) (hk.c hkb)
   have ep:Tryz.f4.params.toList=[37]:=rfl
   rw[ep]
   simp only[zcT,e1,ztx]at this |-
   exact this
def scratchEnded_args:Array Value:=#[Value.agg #[.slice none 0 0,.slice none 0 0,.slice none 0 0,.bool false]]
theorem zrg (os:Os):laidMet Tryz.prog Rows.scratchEndedUptoRow.laid ((World.laidAll Tryz.prog os Rows.scratchEndedUptoRow.laid).forCall (fun _ _=>0) ⟨#[],scratchEnded_args,[]⟩).memory :=
 laidMet_laidAll scratchEnded_args (by kernel_rfl) (by kernel_rfl)
theorem zr6 (os:Os) {H:Type} (enc:TypeId × Value->H):∃x,DataW.whole enc Tryz.prog ((World.laidAll Tryz.prog os Rows.scratchEndedUptoRow.laid).forCall (fun _ _=>0) ⟨#[],scratchEnded_args,[]⟩).memory Tryz.f4.params.toList Rows.scratchEndedSpec.vars false scratchEnded_args.toList 8=some x/\Rows.uptoSmall H (x.1++x.2.1)=true:=by
 have h:(match DataW.whole enc Tryz.prog ((World.laidAll Tryz.prog os Rows.scratchEndedUptoRow.laid).forCall (fun _ _=>0) ⟨#[],scratchEnded_args,[]⟩).memory Tryz.f4.params.toList Rows.scratchEndedSpec.vars false scratchEnded_args.toList 8 with|some x=>Rows.uptoSmall H (x.1++x.2.1)|none=>false)=true:=by kernel_rfl
 split at h
 ·rename_i x hx;exact⟨x,hx,h⟩
 ·cases h
theorem zr3 (os:Os) (started:os.Started) (H:Type) (enc:TypeId × Value->H) (F:Stop.Interp) :
  ReturnsInHanded {} Tryz.checked os 4 .any ((Rows.OpenSpec.upto Rows.scratchEndedSpec).preRow enc Tryz.prog Tryz.f4 Rows.scratchEndedUptoRow.domain false Rows.scratchEndedUptoRow.laid) (((Rows.OpenSpec.upto Rows.scratchEndedSpec).at F).post enc Tryz.prog Tryz.f4 false true false false):=by
 obtain⟨x,hx,hsm⟩:=zr6 os enc
 refine returnsInHanded_of_row (C:=Tryz.checked) (s:=Rows.OpenSpec.upto Rows.scratchEndedSpec) zrb started (by kernel_rfl) Tryz.func4
  (witness_row_at (enc:=enc) (C:=Tryz.checked) false (World.laidAll Tryz.prog os Rows.scratchEndedUptoRow.laid) scratchEnded_args (World.laidAll_os _ _ _) (by kernel_rfl) (by kernel_rfl) (by kernel_rfl)
   (OpenSpec.preRow_of_cond 8 hx rfl (fun k hk=>by cases hk;exact hsm) (by kernel_rfl) (zrg os))) ?_
 intro W base args ds gs before hval hW _ hcond _ hL hsh _
 have hB:Rows.uptoBulkAll (ds++gs)<=1048576:=of_decide_eq_true (hcond _ rfl)
 rw[zs0]at hB
 exact zqX H enc W base args ds gs before hval hW (by omega) hsh hL
theorem zr4:joinedFacts Tryz.pinned.checked.prog 4 Tryz.f4 (Rows.OpenSpec.upto Rows.scratchEndedSpec).bare Rows.scratchEndedUptoRow=true:=by
 unfold joinedFacts
 simp only[Bool.and_eq_true]
 and_intros
 all_goals (as_aux_lemma=>kernel_rfl)
theorem zr9:Rows.ScratchEndedUptoSaid :=
 OpenClaim.holds_of_cond 4 Tryz.f4 rfl rfl rfl rfl rfl rfl rfl ⟨rfl,rfl,rfl,rfl,rfl⟩ rfl rfl rfl rfl rfl (by kernel_rfl) Tryz.func4 zr4
  (of_decide_eq_true (by kernel_rfl)) (by unfold Func.isWrapper;first|(rw[if_pos (by decide +kernel)];kernel_rfl)|(rw[if_neg (by decide +kernel)];exact⟨rfl,rfl⟩))
  (fun os started H enc _ F=>by rw[OpenClaim.pre_eq_preRow];exact zr3 os started H enc F)
theorem zr8 (f:FuncId) (fn:Func) (hf:Tryz.pinned.checked.prog.funcNamed "bloomery/bloomerylaw29.ScratchEnded" = some f) (hfn:Tryz.pinned.checked.prog.funcs[f]?=some fn) :
  false=Tryz.pinned.checked.prog.looks []/\∀(j:Nat) t,fn.params[j]?=some t->Tryz.pinned.checked.prog.wantsStandIn t=false:=by
 obtain rfl:f=4:=Option.some.inj ((show Tryz.prog.funcNamed "bloomery/bloomerylaw29.ScratchEnded" = some 4 by kernel_rfl).symm.trans hf) |>.symm
 obtain rfl:fn=Tryz.f4:=(Option.some.inj (Tryz.func4.symm.trans hfn)).symm
 refine⟨by kernel_rfl,fun j t ht=>?_⟩
 have ep:Tryz.f4.params.toList=[37]:=rfl
 have hm:t∈Tryz.f4.params.toList:=(Array.mem_of_getElem? ht).val
 rw[ep]at hm
 have hall:[37].all (fun t=>!(Tryz.prog.wantsStandIn t))=true:=by kernel_rfl
 have:=List.all_eq_true.1 hall t hm
 exact(by simpa using this:Tryz.prog.wantsStandIn t=false)
theorem scratchEnded_card:Rows.ScratchEndedUptoCardSaid :=
 Claim7.holds_tied_plain_at .later [] _ _ _ _ zr9 (fun _ h=>by cases h) (by kernel_rfl) (fun _ h=>by cases h) scratchEndedUpto_row_tie rfl ⟨rfl,rfl⟩ (by kernel_rfl) rfl zr8 (by kernel_rfl)
#print axioms scratchEnded_card
end Go.Proofs.YtdkieabmeiojjaaGreatDoor
