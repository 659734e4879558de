/- KeepRuns: true for every input of bulk at most 1048576. No condition beyond each theorem's own. -/
import Derived.Test.YtognnffjdckalaaGreatDoorKPDToKRD
import Derived.Test.YtognnffjdckalaaGreatDoorPT
set_option linter.unusedSimpArgs false
set_option linter.unusedVariables false
set_option linter.unusedSectionVars false
set_option maxRecDepth 100000
namespace Go.Proofs.YtognnffjdckalaaGreatDoor
open Go Go.Ab Go.ChangeShapes Go.WideShapes Go.ChangeAt Go.RowKit
open Classical
theorem zeM:ownKnob Tryz.prog.godebug=none:=by kernel_rfl
theorem p9 (H:Type) (enc:TypeId × Value->H) (W:World) (base:Nat) (args:Array Value) (ds gs:List (DataW H)) (before:List MemPlace)
  (hval:∀(j:Nat) t v,Tryz.f3.params[j]?=some t->args[j]?=some v->Value.okWide Tryz.prog W .any base t v)
  (hW:DataW.Whole enc Tryz.prog Tryz.f3.params.toList Rows.keepRunsSpec.vars false W args.toList ds gs before) (hB:Rows.uptoBulkAll ds<=1048576) (hL:laidMetH Tryz.prog Rows.keepRunsUptoRow.laid W) :
  Calls Tryz.prog 3 args W fun e W'=>∃v,e=.returned v/\Rows.keepRunsSpec.post enc Tryz.prog Tryz.f3 false true false false W args v W':=by
 letI:Sel:=⟨fun n=>n == "internal/strconv.uint64pow10" || n == "strconv.ErrSyntax" || n == "strconv.ErrRange"⟩
 haveI:SelPow:=⟨rfl⟩
 haveI:SelErr:=⟨rfl,rfl,rfl⟩
 refine zo1 laid (s:=Rows.keepRunsSpec) rfl (tb:=4) rfl Tryz.underlying4 (n:=10) (by kernel_rfl) hval hW (zrU (by kernel_rfl) hL (by kernel_rfl) (by first|(exact .inl (by kernel_rfl))|exact .inr (by kernel_rfl)) rfl rfl rfl) ?_ ?_
 ·intro h
  match ds,h with
  | [a,b],_=>rfl
 ·intro h hw
  match ds,h with
  | [a,b],_ =>
   obtain⟨b0,e1,hb0,hb02⟩:=zso (hw 0 5 a rfl rfl)
   obtain⟨l,e2,hl⟩:=zmK (hw 1 22 b rfl rfl)
   have hb2:=zgt b
   rw[e2]at hb2
   have hB':Rows.uptoBulk a+Rows.uptoBulk b<=1048576:=by simpa[Rows.uptoBulkAll]using hB
   have hz:=C1 l
   have hb3:Z6 (l.map jU)<=Rows.uptoBulk b:=by simp only[JJ]at hb2;omega
   have:=zg5 l (by omega) hl b0 hb0 hb02
   have ep:Tryz.f3.params.toList=[5,22]:=rfl
   rw[ep]
   simp only[zer,e1,e2,ty5,zsx]at this |-
   exact this
def keepRuns_args:Array Value:=#[Value.int IntKind.u8 0,Value.slice none 0 0]
theorem zeE (os:Os):laidMet Tryz.prog Rows.keepRunsUptoRow.laid ((World.laidAll Tryz.prog os Rows.keepRunsUptoRow.laid).forCall (fun _ _=>0) ⟨#[],keepRuns_args,[]⟩).memory :=
 laidMet_laidAll keepRuns_args (by kernel_rfl) (by kernel_rfl)
theorem zaT (os:Os) {H:Type} (enc:TypeId × Value->H):∃x,DataW.whole enc Tryz.prog ((World.laidAll Tryz.prog os Rows.keepRunsUptoRow.laid).forCall (fun _ _=>0) ⟨#[],keepRuns_args,[]⟩).memory Tryz.f3.params.toList Rows.keepRunsSpec.vars false keepRuns_args.toList 8=some x/\Rows.uptoSmall H (x.1++x.2.1)=true:=by
 have h:(match DataW.whole enc Tryz.prog ((World.laidAll Tryz.prog os Rows.keepRunsUptoRow.laid).forCall (fun _ _=>0) ⟨#[],keepRuns_args,[]⟩).memory Tryz.f3.params.toList Rows.keepRunsSpec.vars false keepRuns_args.toList 8 with|some x=>Rows.uptoSmall H (x.1++x.2.1)|none=>false)=true:=by kernel_rfl
 split at h
 ·rename_i x hx;exact⟨x,hx,h⟩
 ·cases h
theorem DK (os:Os) (started:os.Started) (H:Type) (enc:TypeId × Value->H) (F:Stop.Interp) :
  ReturnsInHanded {} Tryz.checked os 3 .any ((Rows.OpenSpec.upto Rows.keepRunsSpec).preRow enc Tryz.prog Tryz.f3 Rows.keepRunsUptoRow.domain false Rows.keepRunsUptoRow.laid) (((Rows.OpenSpec.upto Rows.keepRunsSpec).at F).post enc Tryz.prog Tryz.f3 false true false false):=by
 obtain⟨x,hx,hsm⟩:=zaT os enc
 refine returnsInHanded_of_row (C:=Tryz.checked) (s:=Rows.OpenSpec.upto Rows.keepRunsSpec) zeM started (by kernel_rfl) Tryz.func3
  (witness_row_at (enc:=enc) (C:=Tryz.checked) false (World.laidAll Tryz.prog os Rows.keepRunsUptoRow.laid) keepRuns_args (World.laidAll_os _ _ _) (by kernel_rfl) (by kernel_rfl) (by kernel_rfl)
   (OpenSpec.preRow_of_cond 8 hx rfl (fun k hk=>by cases hk;exact hsm) (by kernel_rfl) (zeE os))) ?_
 intro W base args ds gs before hval hW _ hcond _ hL _ _
 have hB:Rows.uptoBulkAll (ds++gs)<=1048576:=of_decide_eq_true (hcond _ rfl)
 rw[zeP]at hB
 exact p9 H enc W base args ds gs before hval hW (by omega) hL
theorem zbU:Rows.KeepRunsUptoSaid :=
 OpenClaim.holds_of_cond 3 Tryz.f3 rfl rfl rfl rfl rfl rfl rfl ⟨rfl,rfl,rfl,rfl,rfl⟩ rfl rfl rfl rfl rfl (by kernel_rfl) Tryz.func3 (by kernel_rfl)
  (of_decide_eq_true (by kernel_rfl)) (by unfold Func.isWrapper;first|(rw[if_pos (by decide +kernel)];kernel_rfl)|(rw[if_neg (by decide +kernel)];exact⟨rfl,rfl⟩))
  (fun os started H enc _ F=>by rw[OpenClaim.pre_eq_preRow];exact DK os started H enc F)
theorem C8 (f:FuncId) (fn:Func) (hf:Tryz.pinned.checked.prog.funcNamed "bloomery/bloomerylaw26.KeepRuns" = some f) (hfn:Tryz.pinned.checked.prog.funcs[f]?=some fn) :
  true=Tryz.pinned.checked.prog.looks []/\∀(j:Nat) t,fn.params[j]?=some t->Tryz.pinned.checked.prog.wantsStandIn t=false:=by
 obtain rfl:f=3:=Option.some.inj ((show Tryz.prog.funcNamed "bloomery/bloomerylaw26.KeepRuns" = some 3 by kernel_rfl).symm.trans hf) |>.symm
 obtain rfl:fn=Tryz.f3:=(Option.some.inj (Tryz.func3.symm.trans hfn)).symm
 refine⟨by kernel_rfl,fun j t ht=>?_⟩
 have ep:Tryz.f3.params.toList=[5,22]:=rfl
 have hm:t∈Tryz.f3.params.toList:=(Array.mem_of_getElem? ht).val
 rw[ep]at hm
 have hall:[5,22].all (fun t=>!(Tryz.prog.wantsStandIn t))=true:=by kernel_rfl
 have:=List.all_eq_true.1 hall t hm
 exact(by simpa using this:Tryz.prog.wantsStandIn t=false)
theorem keepRuns_card:Rows.KeepRunsUptoCardSaid :=
 Claim7.holds_tied_plain_at .later [] _ _ _ _ zbU (fun _ h=>by cases h) (by kernel_rfl) (fun _ h=>by cases h) keepRunsUpto_row_tie rfl ⟨rfl,rfl⟩ (by kernel_rfl) rfl C8 (by kernel_rfl)
#print axioms keepRuns_card
end Go.Proofs.YtognnffjdckalaaGreatDoor
