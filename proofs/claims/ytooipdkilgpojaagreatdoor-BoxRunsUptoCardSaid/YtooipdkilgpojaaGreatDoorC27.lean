/- BoxRuns: true for every input of bulk at most 1048576. No condition beyond each theorem's own. -/
import Derived.Test.YtooipdkilgpojaaGreatDoorHM4ToPD
import Derived.Test.YtooipdkilgpojaaGreatDoorBPD
import Derived.Test.YtooipdkilgpojaaGreatDoorPTM
set_option linter.unusedSimpArgs false
set_option linter.unusedVariables false
set_option linter.unusedSectionVars false
set_option maxRecDepth 100000
/-! BoxRuns: true for every input of bulk at most 1048576. -/
namespace Go.Proofs.YtooipdkilgpojaaGreatDoor
open Go Go.Ab Go.ChangeShapes Go.WideShapes Go.ChangeAt Go.RowKit
open Classical


theorem zHw:ownKnob Tryz.prog.godebug=none:=by kernel_rfl
theorem zGO (H:Type) (enc:TypeId × Value→H) (W:World) (base:Nat) (args:Array Value) (ds gs:List (DataW H)) (before:List MemPlace)
  (hval:∀(j:Nat) t v,Tryz.f3.params[j]?=some t→args[j]?=some v→Value.okWide Tryz.prog W .any base t v)
  (hW:DataW.Whole enc Tryz.prog Tryz.f3.params.toList Rows.boxRunsSpec.vars false W args.toList ds gs before) (hB:Rows.uptoBulkAll ds≤1048576) (hsh:W.ShapedOpen Tryz.prog) (hL:laidMetH Tryz.prog Rows.boxRunsUptoRow.laid W) :
  Calls Tryz.prog 3 args W fun e W'=>∃v,e=.returned v∧Rows.boxRunsSpec.post enc Tryz.prog Tryz.f3 false true false false W args v W':=by
 letI:Sel:=⟨fun n=>n == "internal/strconv.uint64pow10" || n == "internal/bytealg.MaxLen"⟩
 haveI:SelPow:=⟨rfl⟩
 haveI:SelMax:=⟨rfl⟩
 refine cJ laid (s:=Rows.boxRunsSpec) rfl (tb:=4) rfl Tryz.underlying4 (n:=10) (by kernel_rfl) hval hW (zjn hL hsh (by kernel_rfl) (by kernel_rfl) (by kernel_rfl) rfl) ?_ ?_
 ·intro h
  match ds,h with
  | [a,b],_=>rfl
 ·intro h hw
  match ds,h with
  | [a,b],_ =>
   obtain⟨x,e1⟩:=zfh (hw 0 27 a rfl rfl)
   obtain⟨l,e2⟩:=zbJ (hw 1 28 b rfl rfl)
   have hb1:=J1 a
   have hb2:=J1 b
   rw[e1]at hb1
   rw[e2]at hb2
   have hx:=dZ x
   have hl:=V1 l
   have hB':Rows.uptoBulk a+Rows.uptoBulk b≤1048576:=by simpa[Rows.uptoBulkAll]using hB
   have:=zHN x l (by omega) (by omega)
   have ep:Tryz.f3.params.toList=[27,28]:=rfl
   rw[ep]
   simp only[gX,e1,e2,zkh,zmf]at this ⊢
   exact this

def boxRuns_args:Array Value:=#[Value.agg #[.string ⟨#[]⟩,.string ⟨#[]⟩,.string ⟨#[]⟩,.slice none 0 0,.slice none 0 0,.slice none 0 0,.slice none 0 0],Value.slice none 0 0]
theorem zHA (os:Os):laidMet Tryz.prog Rows.boxRunsUptoRow.laid ((World.laidAll Tryz.prog os Rows.boxRunsUptoRow.laid).forCall (fun _ _=>0) ⟨#[],boxRuns_args,[]⟩).memory :=
 laidMet_laidAll boxRuns_args (by kernel_rfl) (by kernel_rfl)
theorem zGZ (os:Os) {H:Type} (enc:TypeId × Value→H):∃x,DataW.whole enc Tryz.prog ((World.laidAll Tryz.prog os Rows.boxRunsUptoRow.laid).forCall (fun _ _=>0) ⟨#[],boxRuns_args,[]⟩).memory Tryz.f3.params.toList Rows.boxRunsSpec.vars false boxRuns_args.toList 8=some x∧Rows.uptoSmall H (x.1++x.2.1)=true:=by
 have h:(match DataW.whole enc Tryz.prog ((World.laidAll Tryz.prog os Rows.boxRunsUptoRow.laid).forCall (fun _ _=>0) ⟨#[],boxRuns_args,[]⟩).memory Tryz.f3.params.toList Rows.boxRunsSpec.vars false boxRuns_args.toList 8 with|some x=>Rows.uptoSmall H (x.1++x.2.1)|none=>false)=true:=by kernel_rfl
 split at h
 ·rename_i x hx;exact⟨x,hx,h⟩
 ·cases h
theorem zGS (os:Os) (started:os.Started) (H:Type) (enc:TypeId × Value→H) (F:Stop.Interp) :
  ReturnsInHanded {} Tryz.checked os 3 .any ((Rows.OpenSpec.upto Rows.boxRunsSpec).preRow enc Tryz.prog Tryz.f3 Rows.boxRunsUptoRow.domain false Rows.boxRunsUptoRow.laid) (((Rows.OpenSpec.upto Rows.boxRunsSpec).at F).post enc Tryz.prog Tryz.f3 false true false false):=by
 obtain⟨x,hx,hsm⟩:=zGZ os enc
 refine returnsInHanded_of_row (C:=Tryz.checked) (s:=Rows.OpenSpec.upto Rows.boxRunsSpec) zHw started (by kernel_rfl) Tryz.func3
  (witness_row_at (enc:=enc) (C:=Tryz.checked) false (World.laidAll Tryz.prog os Rows.boxRunsUptoRow.laid) boxRuns_args (World.laidAll_os _ _ _) (by kernel_rfl) (by kernel_rfl) (by kernel_rfl)
   (OpenSpec.preRow_of_cond 8 hx rfl (fun k hk=>by cases hk;exact hsm) (by kernel_rfl) (zHA os))) ?_
 intro W base args ds gs before hval hW _ hcond _ hL hsh _
 have hB:Rows.uptoBulkAll (ds++gs)≤1048576:=of_decide_eq_true (hcond _ rfl)
 rw[VR]at hB
 exact zGO H enc W base args ds gs before hval hW (by omega) hsh hL
set_option maxHeartbeats 400000000 in
theorem zGT:joinedFacts Tryz.pinned.checked.prog 3 Tryz.f3 (Rows.OpenSpec.upto Rows.boxRunsSpec).bare Rows.boxRunsUptoRow=true:=by
 unfold joinedFacts
 simp only[Bool.and_eq_true]
 and_intros
 all_goals (as_aux_lemma=>kernel_rfl)
theorem zHf:Rows.BoxRunsUptoSaid :=
 OpenClaim.holds_of_cond 3 Tryz.f3 rfl rfl rfl rfl rfl rfl rfl ⟨rfl,rfl,rfl,rfl,rfl⟩ rfl rfl rfl rfl rfl (by kernel_rfl) Tryz.func3 zGT
  (of_decide_eq_true (by kernel_rfl)) (by unfold Func.isWrapper;first|(rw[if_pos (by decide +kernel)];kernel_rfl)|(rw[if_neg (by decide +kernel)];exact⟨rfl,rfl⟩))
  (fun os started H enc _ F=>by rw[OpenClaim.pre_eq_preRow];exact zGS os started H enc F)
theorem zH3 (f:FuncId) (fn:Func) (hf:Tryz.pinned.checked.prog.funcNamed "bloomery/bloomerylaw21.BoxRuns" = some f) (hfn:Tryz.pinned.checked.prog.funcs[f]?=some fn) :
  false=Tryz.pinned.checked.prog.looks []∧∀(j:Nat) t,fn.params[j]?=some t→Tryz.pinned.checked.prog.wantsStandIn t=false:=by
 obtain rfl:f=3:=Option.some.inj ((show Tryz.prog.funcNamed "bloomery/bloomerylaw21.BoxRuns" = some 3 by kernel_rfl).symm.trans hf) |>.symm
 obtain rfl:fn=Tryz.f3:=(Option.some.inj (Tryz.func3.symm.trans hfn)).symm
 refine⟨by kernel_rfl,fun j t ht=>?_⟩
 have ep:Tryz.f3.params.toList=[27,28]:=rfl
 have hm:t∈Tryz.f3.params.toList:=(Array.mem_of_getElem? ht).val
 rw[ep]at hm
 have hall:[27,28].all (fun t=>!(Tryz.prog.wantsStandIn t))=true:=by kernel_rfl
 have:=List.all_eq_true.1 hall t hm
 exact(by simpa using this:Tryz.prog.wantsStandIn t=false)
theorem boxRuns_card:Rows.BoxRunsUptoCardSaid :=
 Claim7.holds_tied_plain_at .later [] _ _ _ _ zHf (fun _ h=>by cases h) (by kernel_rfl) (fun _ h=>by cases h) boxRunsUpto_row_tie rfl ⟨rfl,rfl⟩ (by kernel_rfl) rfl zH3 (by kernel_rfl)
#print axioms boxRuns_card
end Go.Proofs.YtooipdkilgpojaaGreatDoor
