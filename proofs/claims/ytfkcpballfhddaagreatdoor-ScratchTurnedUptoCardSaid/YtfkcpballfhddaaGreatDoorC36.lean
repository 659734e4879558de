/- ScratchTurned: true for every input of bulk at most 1048576. No condition beyond each theorem's own. -/
import Derived.Test.YtfkcpballfhddaaGreatDoorSN1
import Derived.Test.YtfkcpballfhddaaGreatDoorBPDaToSW0
import Derived.Test.YtfkcpballfhddaaGreatDoorPTM
set_option linter.unusedSimpArgs false
set_option linter.unusedVariables false
set_option linter.unusedSectionVars false
set_option maxHeartbeats 64000000
set_option maxRecDepth 100000
namespace Go.Proofs.YtfkcpballfhddaaGreatDoor
open Go Go.Ab Go.ChangeShapes Go.WideShapes Go.ChangeAt Go.RowKit
open Classical
theorem PI:ownKnob Tryz.prog.godebug=none:=by kernel_rfl
theorem uJ (H:Type) (enc:TypeId × Value->H) (W:World) (base:Nat) (args:Array Value) (ds gs:List (DataW H)) (before:List MemPlace)
  (hval:∀(j:Nat) t v,Tryz.f3.params[j]?=some t->args[j]?=some v->Value.okWide Tryz.prog W .any base t v)
  (hW:DataW.Whole enc Tryz.prog Tryz.f3.params.toList Rows.scratchTurnedSpec.vars false W args.toList ds gs before) (hB:Rows.uptoBulkAll ds<=1048576) (hsh:W.ShapedOpen Tryz.prog) (hL:laidMetH Tryz.prog Rows.scratchTurnedUptoRow.laid W) :
  Calls Tryz.prog 3 args W fun e W'=>∃v,e=.returned v/\Rows.scratchTurnedSpec.post enc Tryz.prog Tryz.f3 false true false false W args v W':=by
 letI:Sel:=⟨fun n=>n == "internal/strconv.uint64pow10" || n == "internal/bytealg.MaxLen"⟩
 haveI:SelPow:=⟨rfl⟩
 haveI:SelMax:=⟨rfl⟩
 refine P1 laid (s:=Rows.scratchTurnedSpec) rfl (tb:=4) rfl Tryz.underlying4 (n:=10) (by kernel_rfl) hval hW (zjk hL hsh (by kernel_rfl) (by kernel_rfl) (by kernel_rfl) rfl) ?_ ?_
 ·intro h
  match ds,h with
  | [a],_=>rfl
 ·intro h hw
  match ds,h with
  | [a],_ =>
   obtain⟨x,e1⟩:=za7 (hw 0 26 a rfl rfl)
   have hb1:=u5 a
   rw[e1]at hb1
   have hB':Rows.uptoBulk a<=1048576:=by simpa[Rows.uptoBulkAll]using hB
   have hk:=VN x
   have hkb:yD (j7 x)<=1048576:=by omega
   have:=DV x (hk.b hkb) (hk.c hkb)
   have ep:Tryz.f3.params.toList=[26]:=rfl
   rw[ep]
   simp only[GJ,e1,zmz]at this |-
   exact this
def scratchTurned_args:Array Value:=#[Value.agg #[.slice none 0 0,.slice none 0 0,.slice none 0 0,.bool false]]
theorem P8 (os:Os):laidMet Tryz.prog Rows.scratchTurnedUptoRow.laid ((World.laidAll Tryz.prog os Rows.scratchTurnedUptoRow.laid).forCall (fun _ _=>0) ⟨#[],scratchTurned_args,[]⟩).memory :=
 laidMet_laidAll scratchTurned_args (by kernel_rfl) (by kernel_rfl)
theorem gG (os:Os) {H:Type} (enc:TypeId × Value->H):∃x,DataW.whole enc Tryz.prog ((World.laidAll Tryz.prog os Rows.scratchTurnedUptoRow.laid).forCall (fun _ _=>0) ⟨#[],scratchTurned_args,[]⟩).memory Tryz.f3.params.toList Rows.scratchTurnedSpec.vars false scratchTurned_args.toList 8=some x/\Rows.uptoSmall H (x.1++x.2.1)=true:=by
 have h:(match DataW.whole enc Tryz.prog ((World.laidAll Tryz.prog os Rows.scratchTurnedUptoRow.laid).forCall (fun _ _=>0) ⟨#[],scratchTurned_args,[]⟩).memory Tryz.f3.params.toList Rows.scratchTurnedSpec.vars false scratchTurned_args.toList 8 with|some x=>Rows.uptoSmall H (x.1++x.2.1)|none=>false)=true:=by kernel_rfl
 split at h
 ·rename_i x hx;exact⟨x,hx,h⟩
 ·cases h
theorem UX (os:Os) (started:os.Started) (H:Type) (enc:TypeId × Value->H) (F:Stop.Interp) :
  ReturnsInHanded {} Tryz.checked os 3 .any ((Rows.OpenSpec.upto Rows.scratchTurnedSpec).preRow enc Tryz.prog Tryz.f3 Rows.scratchTurnedUptoRow.domain false Rows.scratchTurnedUptoRow.laid) (((Rows.OpenSpec.upto Rows.scratchTurnedSpec).at F).post enc Tryz.prog Tryz.f3 false true false false):=by
 obtain⟨x,hx,hsm⟩:=gG os enc
 refine returnsInHanded_of_row (C:=Tryz.checked) (s:=Rows.OpenSpec.upto Rows.scratchTurnedSpec) PI started (by kernel_rfl) Tryz.func3
  (witness_row_at (enc:=enc) (C:=Tryz.checked) false (World.laidAll Tryz.prog os Rows.scratchTurnedUptoRow.laid) scratchTurned_args (World.laidAll_os _ _ _) (by kernel_rfl) (by kernel_rfl) (by kernel_rfl)
   (OpenSpec.preRow_of_cond 8 hx rfl (fun k hk=>by cases hk;exact hsm) (by kernel_rfl) (P8 os))) ?_
 intro W base args ds gs before hval hW _ hcond _ hL hsh _
 have hB:Rows.uptoBulkAll (ds++gs)<=1048576:=of_decide_eq_true (hcond _ rfl)
 rw[UO]at hB
 exact uJ H enc W base args ds gs before hval hW (by omega) hsh hL
theorem UN:joinedFacts Tryz.pinned.checked.prog 3 Tryz.f3 (Rows.OpenSpec.upto Rows.scratchTurnedSpec).bare Rows.scratchTurnedUptoRow=true:=by
 unfold joinedFacts
 simp only[Bool.and_eq_true]
 and_intros
 all_goals (as_aux_lemma=>kernel_rfl)
theorem p7:Rows.ScratchTurnedUptoSaid :=
 OpenClaim.holds_of_cond 3 Tryz.f3 rfl rfl rfl rfl rfl rfl rfl ⟨rfl,rfl,rfl,rfl,rfl⟩ rfl rfl rfl rfl rfl (by kernel_rfl) Tryz.func3 UN
  (of_decide_eq_true (by kernel_rfl)) (by unfold Func.isWrapper;first|(rw[if_pos (by decide +kernel)];kernel_rfl)|(rw[if_neg (by decide +kernel)];exact⟨rfl,rfl⟩))
  (fun os started H enc _ F=>by rw[OpenClaim.pre_eq_preRow];exact UX os started H enc F)
theorem gH (f:FuncId) (fn:Func) (hf:Tryz.pinned.checked.prog.funcNamed "bloomery/bloomerylaw29.ScratchTurned" = some f) (hfn:Tryz.pinned.checked.prog.funcs[f]?=some fn) :
  false=Tryz.pinned.checked.prog.looks []/\∀(j:Nat) t,fn.params[j]?=some t->Tryz.pinned.checked.prog.wantsStandIn t=false:=by
 obtain rfl:f=3:=Option.some.inj ((show Tryz.prog.funcNamed "bloomery/bloomerylaw29.ScratchTurned" = some 3 by kernel_rfl).symm.trans hf) |>.symm
 obtain rfl:fn=Tryz.f3:=(Option.some.inj (Tryz.func3.symm.trans hfn)).symm
 refine⟨by kernel_rfl,fun j t ht=>?_⟩
 have ep:Tryz.f3.params.toList=[26]:=rfl
 have hm:t∈Tryz.f3.params.toList:=(Array.mem_of_getElem? ht).val
 rw[ep]at hm
 have hall:[26].all (fun t=>!(Tryz.prog.wantsStandIn t))=true:=by kernel_rfl
 have:=List.all_eq_true.1 hall t hm
 exact(by simpa using this:Tryz.prog.wantsStandIn t=false)
theorem scratchTurned_card:Rows.ScratchTurnedUptoCardSaid :=
 Claim7.holds_tied_plain_at .later [] _ _ _ _ p7 (fun _ h=>by cases h) (by kernel_rfl) (fun _ h=>by cases h) scratchTurnedUpto_row_tie rfl ⟨rfl,rfl⟩ (by kernel_rfl) rfl gH (by kernel_rfl)
#print axioms scratchTurned_card
end Go.Proofs.YtfkcpballfhddaaGreatDoor
