/- ScratchExtra: true for every input of bulk at most 1048576. No condition beyond each theorem's own. -/
import Derived.Test.YtfkcpballfhddaaGreatDoorSM2ToSN2
import Derived.Test.YtfkcpballfhddaaGreatDoorBPDaToSW0
import Derived.Test.YtfkcpballfhddaaGreatDoorPTM
set_option linter.unusedSimpArgs false
set_option linter.unusedVariables false
set_option linter.unusedSectionVars false
set_option maxHeartbeats 64000000
set_option maxRecDepth 100000
namespace Go.Proofs.YtfkcpballfhddaaGreatDoor
open Go Go.Ab Go.ChangeShapes Go.WideShapes Go.ChangeAt Go.RowKit
open Classical
theorem dK:ownKnob Tryz.prog.godebug=none:=by kernel_rfl
theorem UE (H:Type) (enc:TypeId × Value->H) (W:World) (base:Nat) (args:Array Value) (ds gs:List (DataW H)) (before:List MemPlace)
  (hval:∀(j:Nat) t v,Tryz.f5.params[j]?=some t->args[j]?=some v->Value.okWide Tryz.prog W .any base t v)
  (hW:DataW.Whole enc Tryz.prog Tryz.f5.params.toList Rows.scratchExtraSpec.vars false W args.toList ds gs before) (hB:Rows.uptoBulkAll ds<=1048576) (hsh:W.ShapedOpen Tryz.prog) (hL:laidMetH Tryz.prog Rows.scratchExtraUptoRow.laid W) :
  Calls Tryz.prog 5 args W fun e W'=>∃v,e=.returned v/\Rows.scratchExtraSpec.post enc Tryz.prog Tryz.f5 false true false false W args v W':=by
 letI:Sel:=⟨fun n=>n == "internal/strconv.uint64pow10" || n == "internal/bytealg.MaxLen"⟩
 haveI:SelPow:=⟨rfl⟩
 haveI:SelMax:=⟨rfl⟩
 refine P1 laid (s:=Rows.scratchExtraSpec) rfl (tb:=4) rfl Tryz.underlying4 (n:=10) (by kernel_rfl) hval hW (zjk hL hsh (by kernel_rfl) (by kernel_rfl) (by kernel_rfl) rfl) ?_ ?_
 ·intro h
  match ds,h with
  | [a,b],_=>rfl
 ·intro h hw
  match ds,h with
  | [a,b],_ =>
   obtain⟨x,e1⟩:=za7 (hw 0 26 a rfl rfl)
   obtain⟨s,e2⟩:=PQ (hw 1 9 b rfl rfl)
   have hb1:=u5 a
   have hb2:=u5 b
   rw[e1]at hb1
   rw[e2]at hb2
   have hB':Rows.uptoBulk a+Rows.uptoBulk b<=1048576:=by simpa[Rows.uptoBulkAll]using hB
   have hk:=VN x
   have hkb:yD (j7 x)<=1048576:=by omega
   have hsl:s.length<=4000000:=by simp only[yD]at hb2;omega
   have:=CV x s (hk.b hkb) (hk.c hkb) hsl
   have ep:Tryz.f5.params.toList=[26,9]:=rfl
   rw[ep]
   simp only[GJ,e1,e2,zmz,ty9]at this |-
   exact this
def scratchExtra_args:Array Value:=#[Value.agg #[.slice none 0 0,.slice none 0 0,.slice none 0 0,.bool false],Value.string ⟨#[]⟩]
theorem dF (os:Os):laidMet Tryz.prog Rows.scratchExtraUptoRow.laid ((World.laidAll Tryz.prog os Rows.scratchExtraUptoRow.laid).forCall (fun _ _=>0) ⟨#[],scratchExtra_args,[]⟩).memory :=
 laidMet_laidAll scratchExtra_args (by kernel_rfl) (by kernel_rfl)
theorem GI (os:Os) {H:Type} (enc:TypeId × Value->H):∃x,DataW.whole enc Tryz.prog ((World.laidAll Tryz.prog os Rows.scratchExtraUptoRow.laid).forCall (fun _ _=>0) ⟨#[],scratchExtra_args,[]⟩).memory Tryz.f5.params.toList Rows.scratchExtraSpec.vars false scratchExtra_args.toList 8=some x/\Rows.uptoSmall H (x.1++x.2.1)=true:=by
 have h:(match DataW.whole enc Tryz.prog ((World.laidAll Tryz.prog os Rows.scratchExtraUptoRow.laid).forCall (fun _ _=>0) ⟨#[],scratchExtra_args,[]⟩).memory Tryz.f5.params.toList Rows.scratchExtraSpec.vars false scratchExtra_args.toList 8 with|some x=>Rows.uptoSmall H (x.1++x.2.1)|none=>false)=true:=by kernel_rfl
 split at h
 ·rename_i x hx;exact⟨x,hx,h⟩
 ·cases h
theorem VX (os:Os) (started:os.Started) (H:Type) (enc:TypeId × Value->H) (F:Stop.Interp) :
  ReturnsInHanded {} Tryz.checked os 5 .any ((Rows.OpenSpec.upto Rows.scratchExtraSpec).preRow enc Tryz.prog Tryz.f5 Rows.scratchExtraUptoRow.domain false Rows.scratchExtraUptoRow.laid) (((Rows.OpenSpec.upto Rows.scratchExtraSpec).at F).post enc Tryz.prog Tryz.f5 false true false false):=by
 obtain⟨x,hx,hsm⟩:=GI os enc
 refine returnsInHanded_of_row (C:=Tryz.checked) (s:=Rows.OpenSpec.upto Rows.scratchExtraSpec) dK started (by kernel_rfl) Tryz.func5
  (witness_row_at (enc:=enc) (C:=Tryz.checked) false (World.laidAll Tryz.prog os Rows.scratchExtraUptoRow.laid) scratchExtra_args (World.laidAll_os _ _ _) (by kernel_rfl) (by kernel_rfl) (by kernel_rfl)
   (OpenSpec.preRow_of_cond 8 hx rfl (fun k hk=>by cases hk;exact hsm) (by kernel_rfl) (dF os))) ?_
 intro W base args ds gs before hval hW _ hcond _ hL hsh _
 have hB:Rows.uptoBulkAll (ds++gs)<=1048576:=of_decide_eq_true (hcond _ rfl)
 rw[UO]at hB
 exact UE H enc W base args ds gs before hval hW (by omega) hsh hL
theorem gC:joinedFacts Tryz.pinned.checked.prog 5 Tryz.f5 (Rows.OpenSpec.upto Rows.scratchExtraSpec).bare Rows.scratchExtraUptoRow=true:=by
 unfold joinedFacts
 simp only[Bool.and_eq_true]
 and_intros
 all_goals (as_aux_lemma=>kernel_rfl)
theorem PZ:Rows.ScratchExtraUptoSaid :=
 OpenClaim.holds_of_cond 5 Tryz.f5 rfl rfl rfl rfl rfl rfl rfl ⟨rfl,rfl,rfl,rfl,rfl⟩ rfl rfl rfl rfl rfl (by kernel_rfl) Tryz.func5 gC
  (of_decide_eq_true (by kernel_rfl)) (by unfold Func.isWrapper;first|(rw[if_pos (by decide +kernel)];kernel_rfl)|(rw[if_neg (by decide +kernel)];exact⟨rfl,rfl⟩))
  (fun os started H enc _ F=>by rw[OpenClaim.pre_eq_preRow];exact VX os started H enc F)
theorem GV (f:FuncId) (fn:Func) (hf:Tryz.pinned.checked.prog.funcNamed "bloomery/bloomerylaw29.ScratchExtra" = some f) (hfn:Tryz.pinned.checked.prog.funcs[f]?=some fn) :
  false=Tryz.pinned.checked.prog.looks []/\∀(j:Nat) t,fn.params[j]?=some t->Tryz.pinned.checked.prog.wantsStandIn t=false:=by
 obtain rfl:f=5:=Option.some.inj ((show Tryz.prog.funcNamed "bloomery/bloomerylaw29.ScratchExtra" = some 5 by kernel_rfl).symm.trans hf) |>.symm
 obtain rfl:fn=Tryz.f5:=(Option.some.inj (Tryz.func5.symm.trans hfn)).symm
 refine⟨by kernel_rfl,fun j t ht=>?_⟩
 have ep:Tryz.f5.params.toList=[26,9]:=rfl
 have hm:t∈Tryz.f5.params.toList:=(Array.mem_of_getElem? ht).val
 rw[ep]at hm
 have hall:[26,9].all (fun t=>!(Tryz.prog.wantsStandIn t))=true:=by kernel_rfl
 have:=List.all_eq_true.1 hall t hm
 exact(by simpa using this:Tryz.prog.wantsStandIn t=false)
theorem scratchExtra_card:Rows.ScratchExtraUptoCardSaid :=
 Claim7.holds_tied_plain_at .later [] _ _ _ _ PZ (fun _ h=>by cases h) (by kernel_rfl) (fun _ h=>by cases h) scratchExtraUpto_row_tie rfl ⟨rfl,rfl⟩ (by kernel_rfl) rfl GV (by kernel_rfl)
#print axioms scratchExtra_card
end Go.Proofs.YtfkcpballfhddaaGreatDoor
