/- ScratchAsks: true for every input of bulk at most 1048576. No condition beyond each theorem's own. -/
import Derived.Test.YtfkcpballfhddaaGreatDoorSM3ToP36a
import Derived.Test.YtfkcpballfhddaaGreatDoorBPDaToSW0
import Derived.Test.YtfkcpballfhddaaGreatDoorPTM
set_option linter.unusedSimpArgs false
set_option linter.unusedVariables false
set_option linter.unusedSectionVars false
set_option maxHeartbeats 64000000
set_option maxRecDepth 100000
namespace Go.Proofs.YtfkcpballfhddaaGreatDoor
open Go Go.Ab Go.ChangeShapes Go.WideShapes Go.ChangeAt Go.RowKit
open Classical
theorem CL:ownKnob Tryz.prog.godebug=none:=by kernel_rfl
theorem vU (H:Type) (enc:TypeId × Value->H) (W:World) (base:Nat) (args:Array Value) (ds gs:List (DataW H)) (before:List MemPlace)
  (hval:∀(j:Nat) t v,Tryz.f6.params[j]?=some t->args[j]?=some v->Value.okWide Tryz.prog W .any base t v)
  (hW:DataW.Whole enc Tryz.prog Tryz.f6.params.toList Rows.scratchAsksSpec.vars false W args.toList ds gs before) (hB:Rows.uptoBulkAll ds<=1048576) (hsh:W.ShapedOpen Tryz.prog) (hL:laidMetH Tryz.prog Rows.scratchAsksUptoRow.laid W) :
  Calls Tryz.prog 6 args W fun e W'=>∃v,e=.returned v/\Rows.scratchAsksSpec.post enc Tryz.prog Tryz.f6 false true false false W args v W':=by
 letI:Sel:=⟨fun n=>n == "internal/strconv.uint64pow10" || n == "internal/bytealg.MaxLen"⟩
 haveI:SelPow:=⟨rfl⟩
 haveI:SelMax:=⟨rfl⟩
 refine P1 laid (s:=Rows.scratchAsksSpec) rfl (tb:=4) rfl Tryz.underlying4 (n:=10) (by kernel_rfl) hval hW (zjk hL hsh (by kernel_rfl) (by kernel_rfl) (by kernel_rfl) rfl) ?_ ?_
 ·intro h
  match ds,h with
  | [a,b],_=>rfl
 ·intro h hw
  match ds,h with
  | [a,b],_ =>
   obtain⟨x,e1⟩:=za7 (hw 0 26 a rfl rfl)
   obtain⟨m,e2⟩:=ztn (hw 1 3 b rfl rfl)
   have hb1:=u5 a
   rw[e1]at hb1
   have hB':Rows.uptoBulk a+Rows.uptoBulk b<=1048576:=by simpa[Rows.uptoBulkAll]using hB
   have hk:=VN x
   have hkb:yD (j7 x)<=1048576:=by omega
   have:=zb8 x m (hk.b hkb) (hk.c hkb)
   have ep:Tryz.f6.params.toList=[26,3]:=rfl
   rw[ep]
   simp only[GJ,e1,e2,zmz,ty3]at this |-
   exact this
def scratchAsks_args:Array Value:=#[Value.agg #[.slice none 0 0,.slice none 0 0,.slice none 0 0,.bool false],Value.int .i64 0]
theorem CK (os:Os):laidMet Tryz.prog Rows.scratchAsksUptoRow.laid ((World.laidAll Tryz.prog os Rows.scratchAsksUptoRow.laid).forCall (fun _ _=>0) ⟨#[],scratchAsks_args,[]⟩).memory :=
 laidMet_laidAll scratchAsks_args (by kernel_rfl) (by kernel_rfl)
theorem pR (os:Os) {H:Type} (enc:TypeId × Value->H):∃x,DataW.whole enc Tryz.prog ((World.laidAll Tryz.prog os Rows.scratchAsksUptoRow.laid).forCall (fun _ _=>0) ⟨#[],scratchAsks_args,[]⟩).memory Tryz.f6.params.toList Rows.scratchAsksSpec.vars false scratchAsks_args.toList 8=some x/\Rows.uptoSmall H (x.1++x.2.1)=true:=by
 have h:(match DataW.whole enc Tryz.prog ((World.laidAll Tryz.prog os Rows.scratchAsksUptoRow.laid).forCall (fun _ _=>0) ⟨#[],scratchAsks_args,[]⟩).memory Tryz.f6.params.toList Rows.scratchAsksSpec.vars false scratchAsks_args.toList 8 with|some x=>Rows.uptoSmall H (x.1++x.2.1)|none=>false)=true:=by kernel_rfl
 split at h
 ·rename_i x hx;exact⟨x,hx,h⟩
 ·cases h
theorem GC (os:Os) (started:os.Started) (H:Type) (enc:TypeId × Value->H) (F:Stop.Interp) :
  ReturnsInHanded {} Tryz.checked os 6 .any ((Rows.OpenSpec.upto Rows.scratchAsksSpec).preRow enc Tryz.prog Tryz.f6 Rows.scratchAsksUptoRow.domain false Rows.scratchAsksUptoRow.laid) (((Rows.OpenSpec.upto Rows.scratchAsksSpec).at F).post enc Tryz.prog Tryz.f6 false true false false):=by
 obtain⟨x,hx,hsm⟩:=pR os enc
 refine returnsInHanded_of_row (C:=Tryz.checked) (s:=Rows.OpenSpec.upto Rows.scratchAsksSpec) CL started (by kernel_rfl) Tryz.func6
  (witness_row_at (enc:=enc) (C:=Tryz.checked) false (World.laidAll Tryz.prog os Rows.scratchAsksUptoRow.laid) scratchAsks_args (World.laidAll_os _ _ _) (by kernel_rfl) (by kernel_rfl) (by kernel_rfl)
   (OpenSpec.preRow_of_cond 8 hx rfl (fun k hk=>by cases hk;exact hsm) (by kernel_rfl) (CK os))) ?_
 intro W base args ds gs before hval hW _ hcond _ hL hsh _
 have hB:Rows.uptoBulkAll (ds++gs)<=1048576:=of_decide_eq_true (hcond _ rfl)
 rw[UO]at hB
 exact vU H enc W base args ds gs before hval hW (by omega) hsh hL
theorem GK:joinedFacts Tryz.pinned.checked.prog 6 Tryz.f6 (Rows.OpenSpec.upto Rows.scratchAsksSpec).bare Rows.scratchAsksUptoRow=true:=by
 unfold joinedFacts
 simp only[Bool.and_eq_true]
 and_intros
 all_goals (as_aux_lemma=>kernel_rfl)
theorem dH:Rows.ScratchAsksUptoSaid :=
 OpenClaim.holds_of_cond 6 Tryz.f6 rfl rfl rfl rfl rfl rfl rfl ⟨rfl,rfl,rfl,rfl,rfl⟩ rfl rfl rfl rfl rfl (by kernel_rfl) Tryz.func6 GK
  (of_decide_eq_true (by kernel_rfl)) (by unfold Func.isWrapper;first|(rw[if_pos (by decide +kernel)];kernel_rfl)|(rw[if_neg (by decide +kernel)];exact⟨rfl,rfl⟩))
  (fun os started H enc _ F=>by rw[OpenClaim.pre_eq_preRow];exact GC os started H enc F)
theorem PK (f:FuncId) (fn:Func) (hf:Tryz.pinned.checked.prog.funcNamed "bloomery/bloomerylaw29.ScratchAsks" = some f) (hfn:Tryz.pinned.checked.prog.funcs[f]?=some fn) :
  false=Tryz.pinned.checked.prog.looks []/\∀(j:Nat) t,fn.params[j]?=some t->Tryz.pinned.checked.prog.wantsStandIn t=false:=by
 obtain rfl:f=6:=Option.some.inj ((show Tryz.prog.funcNamed "bloomery/bloomerylaw29.ScratchAsks" = some 6 by kernel_rfl).symm.trans hf) |>.symm
 obtain rfl:fn=Tryz.f6:=(Option.some.inj (Tryz.func6.symm.trans hfn)).symm
 refine⟨by kernel_rfl,fun j t ht=>?_⟩
 have ep:Tryz.f6.params.toList=[26,3]:=rfl
 have hm:t∈Tryz.f6.params.toList:=(Array.mem_of_getElem? ht).val
 rw[ep]at hm
 have hall:[26,3].all (fun t=>!(Tryz.prog.wantsStandIn t))=true:=by kernel_rfl
 have:=List.all_eq_true.1 hall t hm
 exact(by simpa using this:Tryz.prog.wantsStandIn t=false)
theorem scratchAsks_card:Rows.ScratchAsksUptoCardSaid :=
 Claim7.holds_tied_plain_at .later [] _ _ _ _ dH (fun _ h=>by cases h) (by kernel_rfl) (fun _ h=>by cases h) scratchAsksUpto_row_tie rfl ⟨rfl,rfl⟩ (by kernel_rfl) rfl PK (by kernel_rfl)
#print axioms scratchAsks_card
end Go.Proofs.YtfkcpballfhddaaGreatDoor
