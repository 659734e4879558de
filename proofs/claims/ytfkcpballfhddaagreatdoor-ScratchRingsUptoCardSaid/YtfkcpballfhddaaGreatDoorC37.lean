/- ScratchRings: true for every input of bulk at most 1048576. No condition beyond each theorem's own. -/
import Derived.Test.YtfkcpballfhddaaGreatDoorSM0ToSN0
import Derived.Test.YtfkcpballfhddaaGreatDoorBPDaToSW0
import Derived.Test.YtfkcpballfhddaaGreatDoorPTM
set_option linter.unusedSimpArgs false
set_option linter.unusedVariables false
set_option linter.unusedSectionVars false
set_option maxHeartbeats 64000000
set_option maxRecDepth 100000
namespace Go.Proofs.YtfkcpballfhddaaGreatDoor
open Go Go.Ab Go.ChangeShapes Go.WideShapes Go.ChangeAt Go.RowKit
open Classical
theorem DO:ownKnob Tryz.prog.godebug=none:=by kernel_rfl
theorem UI (H:Type) (enc:TypeId × Value->H) (W:World) (base:Nat) (args:Array Value) (ds gs:List (DataW H)) (before:List MemPlace)
  (hval:∀(j:Nat) t v,Tryz.f4.params[j]?=some t->args[j]?=some v->Value.okWide Tryz.prog W .any base t v)
  (hW:DataW.Whole enc Tryz.prog Tryz.f4.params.toList Rows.scratchRingsSpec.vars false W args.toList ds gs before) (hB:Rows.uptoBulkAll ds<=1048576) (hsh:W.ShapedOpen Tryz.prog) (hL:laidMetH Tryz.prog Rows.scratchRingsUptoRow.laid W) :
  Calls Tryz.prog 4 args W fun e W'=>∃v,e=.returned v/\Rows.scratchRingsSpec.post enc Tryz.prog Tryz.f4 false true false false W args v W':=by
 letI:Sel:=⟨fun n=>n == "internal/strconv.uint64pow10" || n == "internal/bytealg.MaxLen"⟩
 haveI:SelPow:=⟨rfl⟩
 haveI:SelMax:=⟨rfl⟩
 refine P1 laid (s:=Rows.scratchRingsSpec) rfl (tb:=4) rfl Tryz.underlying4 (n:=10) (by kernel_rfl) hval hW (zjk hL hsh (by kernel_rfl) (by kernel_rfl) (by kernel_rfl) rfl) ?_ ?_
 ·intro h
  match ds,h with
  | [a],_=>rfl
 ·intro h hw
  match ds,h with
  | [a],_ =>
   obtain⟨x,e1⟩:=za7 (hw 0 26 a rfl rfl)
   have hb1:=u5 a
   rw[e1]at hb1
   have hB':Rows.uptoBulk a<=1048576:=by simpa[Rows.uptoBulkAll]using hB
   have hk:=VN x
   have hkb:yD (j7 x)<=1048576:=by omega
   have:=CI x (hk.b hkb) (hk.c hkb)
   have ep:Tryz.f4.params.toList=[26]:=rfl
   rw[ep]
   simp only[GJ,e1,zmz]at this |-
   exact this
def scratchRings_args:Array Value:=#[Value.agg #[.slice none 0 0,.slice none 0 0,.slice none 0 0,.bool false]]
theorem DT (os:Os):laidMet Tryz.prog Rows.scratchRingsUptoRow.laid ((World.laidAll Tryz.prog os Rows.scratchRingsUptoRow.laid).forCall (fun _ _=>0) ⟨#[],scratchRings_args,[]⟩).memory :=
 laidMet_laidAll scratchRings_args (by kernel_rfl) (by kernel_rfl)
theorem GZ (os:Os) {H:Type} (enc:TypeId × Value->H):∃x,DataW.whole enc Tryz.prog ((World.laidAll Tryz.prog os Rows.scratchRingsUptoRow.laid).forCall (fun _ _=>0) ⟨#[],scratchRings_args,[]⟩).memory Tryz.f4.params.toList Rows.scratchRingsSpec.vars false scratchRings_args.toList 8=some x/\Rows.uptoSmall H (x.1++x.2.1)=true:=by
 have h:(match DataW.whole enc Tryz.prog ((World.laidAll Tryz.prog os Rows.scratchRingsUptoRow.laid).forCall (fun _ _=>0) ⟨#[],scratchRings_args,[]⟩).memory Tryz.f4.params.toList Rows.scratchRingsSpec.vars false scratchRings_args.toList 8 with|some x=>Rows.uptoSmall H (x.1++x.2.1)|none=>false)=true:=by kernel_rfl
 split at h
 ·rename_i x hx;exact⟨x,hx,h⟩
 ·cases h
theorem VW (os:Os) (started:os.Started) (H:Type) (enc:TypeId × Value->H) (F:Stop.Interp) :
  ReturnsInHanded {} Tryz.checked os 4 .any ((Rows.OpenSpec.upto Rows.scratchRingsSpec).preRow enc Tryz.prog Tryz.f4 Rows.scratchRingsUptoRow.domain false Rows.scratchRingsUptoRow.laid) (((Rows.OpenSpec.upto Rows.scratchRingsSpec).at F).post enc Tryz.prog Tryz.f4 false true false false):=by
 obtain⟨x,hx,hsm⟩:=GZ os enc
 refine returnsInHanded_of_row (C:=Tryz.checked) (s:=Rows.OpenSpec.upto Rows.scratchRingsSpec) DO started (by kernel_rfl) Tryz.func4
  (witness_row_at (enc:=enc) (C:=Tryz.checked) false (World.laidAll Tryz.prog os Rows.scratchRingsUptoRow.laid) scratchRings_args (World.laidAll_os _ _ _) (by kernel_rfl) (by kernel_rfl) (by kernel_rfl)
   (OpenSpec.preRow_of_cond 8 hx rfl (fun k hk=>by cases hk;exact hsm) (by kernel_rfl) (DT os))) ?_
 intro W base args ds gs before hval hW _ hcond _ hL hsh _
 have hB:Rows.uptoBulkAll (ds++gs)<=1048576:=of_decide_eq_true (hcond _ rfl)
 rw[UO]at hB
 exact UI H enc W base args ds gs before hval hW (by omega) hsh hL
theorem gM:joinedFacts Tryz.pinned.checked.prog 4 Tryz.f4 (Rows.OpenSpec.upto Rows.scratchRingsSpec).bare Rows.scratchRingsUptoRow=true:=by
 unfold joinedFacts
 simp only[Bool.and_eq_true]
 and_intros
 all_goals (as_aux_lemma=>kernel_rfl)
theorem pK:Rows.ScratchRingsUptoSaid :=
 OpenClaim.holds_of_cond 4 Tryz.f4 rfl rfl rfl rfl rfl rfl rfl ⟨rfl,rfl,rfl,rfl,rfl⟩ rfl rfl rfl rfl rfl (by kernel_rfl) Tryz.func4 gM
  (of_decide_eq_true (by kernel_rfl)) (by unfold Func.isWrapper;first|(rw[if_pos (by decide +kernel)];kernel_rfl)|(rw[if_neg (by decide +kernel)];exact⟨rfl,rfl⟩))
  (fun os started H enc _ F=>by rw[OpenClaim.pre_eq_preRow];exact VW os started H enc F)
theorem GL (f:FuncId) (fn:Func) (hf:Tryz.pinned.checked.prog.funcNamed "bloomery/bloomerylaw29.ScratchRings" = some f) (hfn:Tryz.pinned.checked.prog.funcs[f]?=some fn) :
  false=Tryz.pinned.checked.prog.looks []/\∀(j:Nat) t,fn.params[j]?=some t->Tryz.pinned.checked.prog.wantsStandIn t=false:=by
 obtain rfl:f=4:=Option.some.inj ((show Tryz.prog.funcNamed "bloomery/bloomerylaw29.ScratchRings" = some 4 by kernel_rfl).symm.trans hf) |>.symm
 obtain rfl:fn=Tryz.f4:=(Option.some.inj (Tryz.func4.symm.trans hfn)).symm
 refine⟨by kernel_rfl,fun j t ht=>?_⟩
 have ep:Tryz.f4.params.toList=[26]:=rfl
 have hm:t∈Tryz.f4.params.toList:=(Array.mem_of_getElem? ht).val
 rw[ep]at hm
 have hall:[26].all (fun t=>!(Tryz.prog.wantsStandIn t))=true:=by kernel_rfl
 have:=List.all_eq_true.1 hall t hm
 exact(by simpa using this:Tryz.prog.wantsStandIn t=false)
theorem scratchRings_card:Rows.ScratchRingsUptoCardSaid :=
 Claim7.holds_tied_plain_at .later [] _ _ _ _ pK (fun _ h=>by cases h) (by kernel_rfl) (fun _ h=>by cases h) scratchRingsUpto_row_tie rfl ⟨rfl,rfl⟩ (by kernel_rfl) rfl GL (by kernel_rfl)
#print axioms scratchRings_card
end Go.Proofs.YtfkcpballfhddaaGreatDoor
