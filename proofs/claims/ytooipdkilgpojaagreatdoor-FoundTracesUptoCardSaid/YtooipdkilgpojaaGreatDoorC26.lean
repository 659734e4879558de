/- FoundTraces: true for every input of bulk at most 1048576. No condition beyond each theorem's own. -/
import Derived.Test.YtooipdkilgpojaaGreatDoorP34ToFPD
import Derived.Test.YtooipdkilgpojaaGreatDoorPTM
set_option linter.unusedSimpArgs false
set_option linter.unusedVariables false
set_option linter.unusedSectionVars false
set_option maxRecDepth 100000
/-! FoundTraces: true for every input of bulk at most 1048576. -/
namespace Go.Proofs.YtooipdkilgpojaaGreatDoor
open Go Go.Ab Go.ChangeShapes Go.WideShapes Go.ChangeAt Go.RowKit
open Classical


theorem zDl:ownKnob Tryz.prog.godebug=none:=by kernel_rfl
theorem zD5 (H:Type) (enc:TypeId × Value→H) (W:World) (base:Nat) (args:Array Value) (ds gs:List (DataW H)) (before:List MemPlace)
  (hval:∀(j:Nat) t v,Tryz.f5.params[j]?=some t→args[j]?=some v→Value.okWide Tryz.prog W .any base t v)
  (hW:DataW.Whole enc Tryz.prog Tryz.f5.params.toList Rows.foundTracesSpec.vars false W args.toList ds gs before) (hB:Rows.uptoBulkAll ds≤1048576) (hsh:W.ShapedOpen Tryz.prog) (hL:laidMetH Tryz.prog Rows.foundTracesUptoRow.laid W) :
  Calls Tryz.prog 5 args W fun e W'=>∃v,e=.returned v∧Rows.foundTracesSpec.post enc Tryz.prog Tryz.f5 false true false false W args v W':=by
 letI:Sel:=⟨fun n=>n == "internal/strconv.uint64pow10" || n == "internal/bytealg.MaxLen"⟩
 haveI:SelPow:=⟨rfl⟩
 haveI:SelMax:=⟨rfl⟩
 refine cJ laid (s:=Rows.foundTracesSpec) rfl (tb:=4) rfl Tryz.underlying4 (n:=10) (by kernel_rfl) hval hW (zjn hL hsh (by kernel_rfl) (by kernel_rfl) (by kernel_rfl) rfl) ?_ ?_
 ·intro h
  match ds,h with
  | [a,c],_=>rfl
 ·intro h hw
  match ds,h with
  | [a,c],_ =>
   obtain⟨x,e1⟩:=zfh (hw 0 27 a rfl rfl)
   obtain⟨l2,e2⟩:=zvZ (hw 1 38 c rfl rfl)
   have hb1:=J1 a
   have hb3:=J1 c
   rw[e1]at hb1
   rw[e2]at hb3
   have hx:=dZ x
   have hl2:=zvs l2
   have hB':Rows.uptoBulk a+Rows.uptoBulk c≤1048576:=by simpa[Rows.uptoBulkAll]using hB
   have:=zDo x l2 (by omega) (by omega)
   have ep:Tryz.f5.params.toList=[27,38]:=rfl
   rw[ep]
   simp only[gX,e1,e2,zkh,ztT]at this ⊢
   exact this

def foundTraces_args:Array Value:=#[Value.agg #[.string ⟨#[]⟩,.string ⟨#[]⟩,.string ⟨#[]⟩,.slice none 0 0,.slice none 0 0,.slice none 0 0,.slice none 0 0],Value.slice none 0 0]
theorem zDk (os:Os):laidMet Tryz.prog Rows.foundTracesUptoRow.laid ((World.laidAll Tryz.prog os Rows.foundTracesUptoRow.laid).forCall (fun _ _=>0) ⟨#[],foundTraces_args,[]⟩).memory :=
 laidMet_laidAll foundTraces_args (by kernel_rfl) (by kernel_rfl)
theorem zDd (os:Os) {H:Type} (enc:TypeId × Value→H):∃x,DataW.whole enc Tryz.prog ((World.laidAll Tryz.prog os Rows.foundTracesUptoRow.laid).forCall (fun _ _=>0) ⟨#[],foundTraces_args,[]⟩).memory Tryz.f5.params.toList Rows.foundTracesSpec.vars false foundTraces_args.toList 8=some x∧Rows.uptoSmall H (x.1++x.2.1)=true:=by
 have h:(match DataW.whole enc Tryz.prog ((World.laidAll Tryz.prog os Rows.foundTracesUptoRow.laid).forCall (fun _ _=>0) ⟨#[],foundTraces_args,[]⟩).memory Tryz.f5.params.toList Rows.foundTracesSpec.vars false foundTraces_args.toList 8 with|some x=>Rows.uptoSmall H (x.1++x.2.1)|none=>false)=true:=by kernel_rfl
 split at h
 ·rename_i x hx;exact⟨x,hx,h⟩
 ·cases h
theorem zD8 (os:Os) (started:os.Started) (H:Type) (enc:TypeId × Value→H) (F:Stop.Interp) :
  ReturnsInHanded {} Tryz.checked os 5 .any ((Rows.OpenSpec.upto Rows.foundTracesSpec).preRow enc Tryz.prog Tryz.f5 Rows.foundTracesUptoRow.domain false Rows.foundTracesUptoRow.laid) (((Rows.OpenSpec.upto Rows.foundTracesSpec).at F).post enc Tryz.prog Tryz.f5 false true false false):=by
 obtain⟨x,hx,hsm⟩:=zDd os enc
 refine returnsInHanded_of_row (C:=Tryz.checked) (s:=Rows.OpenSpec.upto Rows.foundTracesSpec) zDl started (by kernel_rfl) Tryz.func5
  (witness_row_at (enc:=enc) (C:=Tryz.checked) false (World.laidAll Tryz.prog os Rows.foundTracesUptoRow.laid) foundTraces_args (World.laidAll_os _ _ _) (by kernel_rfl) (by kernel_rfl) (by kernel_rfl)
   (OpenSpec.preRow_of_cond 8 hx rfl (fun k hk=>by cases hk;exact hsm) (by kernel_rfl) (zDk os))) ?_
 intro W base args ds gs before hval hW _ hcond _ hL hsh _
 have hB:Rows.uptoBulkAll (ds++gs)≤1048576:=of_decide_eq_true (hcond _ rfl)
 rw[VR]at hB
 exact zD5 H enc W base args ds gs before hval hW (by omega) hsh hL
set_option maxHeartbeats 400000000 in
theorem zDa:joinedFacts Tryz.pinned.checked.prog 5 Tryz.f5 (Rows.OpenSpec.upto Rows.foundTracesSpec).bare Rows.foundTracesUptoRow=true:=by
 unfold joinedFacts
 simp only[Bool.and_eq_true]
 and_intros
 all_goals (as_aux_lemma=>kernel_rfl)
theorem zDh:Rows.FoundTracesUptoSaid :=
 OpenClaim.holds_of_cond 5 Tryz.f5 rfl rfl rfl rfl rfl rfl rfl ⟨rfl,rfl,rfl,rfl,rfl⟩ rfl rfl rfl rfl rfl (by kernel_rfl) Tryz.func5 zDa
  (of_decide_eq_true (by kernel_rfl)) (by unfold Func.isWrapper;first|(rw[if_pos (by decide +kernel)];kernel_rfl)|(rw[if_neg (by decide +kernel)];exact⟨rfl,rfl⟩))
  (fun os started H enc _ F=>by rw[OpenClaim.pre_eq_preRow];exact zD8 os started H enc F)
theorem zDf (f:FuncId) (fn:Func) (hf:Tryz.pinned.checked.prog.funcNamed "bloomery/bloomerylaw24.FoundTraces" = some f) (hfn:Tryz.pinned.checked.prog.funcs[f]?=some fn) :
  false=Tryz.pinned.checked.prog.looks []∧∀(j:Nat) t,fn.params[j]?=some t→Tryz.pinned.checked.prog.wantsStandIn t=false:=by
 obtain rfl:f=5:=Option.some.inj ((show Tryz.prog.funcNamed "bloomery/bloomerylaw24.FoundTraces" = some 5 by kernel_rfl).symm.trans hf) |>.symm
 obtain rfl:fn=Tryz.f5:=(Option.some.inj (Tryz.func5.symm.trans hfn)).symm
 refine⟨by kernel_rfl,fun j t ht=>?_⟩
 have ep:Tryz.f5.params.toList=[27,38]:=rfl
 have hm:t∈Tryz.f5.params.toList:=(Array.mem_of_getElem? ht).val
 rw[ep]at hm
 have hall:[27,38].all (fun t=>!(Tryz.prog.wantsStandIn t))=true:=by kernel_rfl
 have:=List.all_eq_true.1 hall t hm
 exact(by simpa using this:Tryz.prog.wantsStandIn t=false)
theorem foundTraces_card:Rows.FoundTracesUptoCardSaid :=
 Claim7.holds_tied_plain_at .later [] _ _ _ _ zDh (fun _ h=>by cases h) (by kernel_rfl) (fun _ h=>by cases h) foundTracesUpto_row_tie rfl ⟨rfl,rfl⟩ (by kernel_rfl) rfl zDf (by kernel_rfl)
#print axioms foundTraces_card
end Go.Proofs.YtooipdkilgpojaaGreatDoor
