/- DirtyRuns: true for every input of bulk at most 1048576. No condition beyond each theorem's own. -/
import Derived.Test.YtcgpcfcbienapaaGreatDoorDR0ToDW1
import Derived.Test.YtcgpcfcbienapaaGreatDoorBPD
import Derived.Test.YtcgpcfcbienapaaGreatDoorPTM
set_option linter.unusedSimpArgs false
set_option linter.unusedVariables false
set_option linter.unusedSectionVars false
set_option maxRecDepth 100000
/-! DirtyRuns: true for every input of bulk at most 1048576. -/
namespace Go.Proofs.YtcgpcfcbienapaaGreatDoor
open Go Go.Ab Go.ChangeShapes Go.WideShapes Go.ChangeAt Go.RowKit
open Classical


theorem zIy:ownKnob Tryz.prog.godebug=none:=by kernel_rfl
theorem zIi (H:Type) (enc:TypeId × Value→H) (W:World) (base:Nat) (args:Array Value) (ds gs:List (DataW H)) (before:List MemPlace)
  (hval:∀(j:Nat) t v,Tryz.f3.params[j]?=some t→args[j]?=some v→Value.okWide Tryz.prog W .any base t v)
  (hW:DataW.Whole enc Tryz.prog Tryz.f3.params.toList Rows.dirtyRunsSpec.vars false W args.toList ds gs before) (hB:Rows.uptoBulkAll ds≤1048576) (hsh:W.ShapedOpen Tryz.prog) (hL:laidMetH Tryz.prog Rows.dirtyRunsUptoRow.laid W) :
  Calls Tryz.prog 3 args W fun e W'=>∃v,e=.returned v∧Rows.dirtyRunsSpec.post enc Tryz.prog Tryz.f3 false true false false W args v W':=by
 letI:Sel:=⟨fun n=>n == "internal/strconv.uint64pow10" || n == "internal/bytealg.MaxLen"⟩
 haveI:SelPow:=⟨rfl⟩
 haveI:SelMax:=⟨rfl⟩
 refine cJ laid (s:=Rows.dirtyRunsSpec) rfl (tb:=4) rfl Tryz.underlying4 (n:=10) (by kernel_rfl) hval hW (zjn hL hsh (by kernel_rfl) (by kernel_rfl) (by kernel_rfl) rfl) ?_ ?_
 ·intro h
  match ds,h with
  | [a,b,c],_=>rfl
 ·intro h hw
  match ds,h with
  | [a,b,c],_ =>
   obtain⟨x,e1⟩:=zfh (hw 0 27 a rfl rfl)
   obtain⟨l,e2⟩:=zbJ (hw 1 28 b rfl rfl)
   obtain⟨l2,e3⟩:=zbJ (hw 2 28 c rfl rfl)
   have hb1:=J1 a
   have hb2:=J1 b
   have hb3:=J1 c
   rw[e1]at hb1
   rw[e2]at hb2
   rw[e3]at hb3
   have hx:=dZ x
   have hl:=V1 l
   have hl2:=V1 l2
   have hB':Rows.uptoBulk a+(Rows.uptoBulk b+Rows.uptoBulk c)≤1048576:=by simpa[Rows.uptoBulkAll]using hB
   have:=zIA x l l2 (by omega) (by omega) (by omega)
   have ep:Tryz.f3.params.toList=[27,28,28]:=rfl
   rw[ep]
   simp only[gX,e1,e2,e3,zkh,zmf]at this ⊢
   exact this

def dirtyRuns_args:Array Value:=#[Value.agg #[.string ⟨#[]⟩,.string ⟨#[]⟩,.string ⟨#[]⟩,.slice none 0 0,.slice none 0 0,.slice none 0 0,.slice none 0 0],Value.slice none 0 0,Value.slice none 0 0]
theorem zIx (os:Os):laidMet Tryz.prog Rows.dirtyRunsUptoRow.laid ((World.laidAll Tryz.prog os Rows.dirtyRunsUptoRow.laid).forCall (fun _ _=>0) ⟨#[],dirtyRuns_args,[]⟩).memory :=
 laidMet_laidAll dirtyRuns_args (by kernel_rfl) (by kernel_rfl)
theorem zIq (os:Os) {H:Type} (enc:TypeId × Value→H):∃x,DataW.whole enc Tryz.prog ((World.laidAll Tryz.prog os Rows.dirtyRunsUptoRow.laid).forCall (fun _ _=>0) ⟨#[],dirtyRuns_args,[]⟩).memory Tryz.f3.params.toList Rows.dirtyRunsSpec.vars false dirtyRuns_args.toList 8=some x∧Rows.uptoSmall H (x.1++x.2.1)=true:=by
 have h:(match DataW.whole enc Tryz.prog ((World.laidAll Tryz.prog os Rows.dirtyRunsUptoRow.laid).forCall (fun _ _=>0) ⟨#[],dirtyRuns_args,[]⟩).memory Tryz.f3.params.toList Rows.dirtyRunsSpec.vars false dirtyRuns_args.toList 8 with|some x=>Rows.uptoSmall H (x.1++x.2.1)|none=>false)=true:=by kernel_rfl
 split at h
 ·rename_i x hx;exact⟨x,hx,h⟩
 ·cases h
theorem zIn (os:Os) (started:os.Started) (H:Type) (enc:TypeId × Value→H) (F:Stop.Interp) :
  ReturnsInHanded {} Tryz.checked os 3 .any ((Rows.OpenSpec.upto Rows.dirtyRunsSpec).preRow enc Tryz.prog Tryz.f3 Rows.dirtyRunsUptoRow.domain false Rows.dirtyRunsUptoRow.laid) (((Rows.OpenSpec.upto Rows.dirtyRunsSpec).at F).post enc Tryz.prog Tryz.f3 false true false false):=by
 obtain⟨x,hx,hsm⟩:=zIq os enc
 refine returnsInHanded_of_row (C:=Tryz.checked) (s:=Rows.OpenSpec.upto Rows.dirtyRunsSpec) zIy started (by kernel_rfl) Tryz.func3
  (witness_row_at (enc:=enc) (C:=Tryz.checked) false (World.laidAll Tryz.prog os Rows.dirtyRunsUptoRow.laid) dirtyRuns_args (World.laidAll_os _ _ _) (by kernel_rfl) (by kernel_rfl) (by kernel_rfl)
   (OpenSpec.preRow_of_cond 8 hx rfl (fun k hk=>by cases hk;exact hsm) (by kernel_rfl) (zIx os))) ?_
 intro W base args ds gs before hval hW _ hcond _ hL hsh _
 have hB:Rows.uptoBulkAll (ds++gs)≤1048576:=of_decide_eq_true (hcond _ rfl)
 rw[VR]at hB
 exact zIi H enc W base args ds gs before hval hW (by omega) hsh hL
set_option maxHeartbeats 400000000 in
theorem zIm:joinedFacts Tryz.pinned.checked.prog 3 Tryz.f3 (Rows.OpenSpec.upto Rows.dirtyRunsSpec).bare Rows.dirtyRunsUptoRow=true:=by
 unfold joinedFacts
 simp only[Bool.and_eq_true]
 and_intros
 all_goals (as_aux_lemma=>kernel_rfl)
theorem zIv:Rows.DirtyRunsUptoSaid :=
 OpenClaim.holds_of_cond 3 Tryz.f3 rfl rfl rfl rfl rfl rfl rfl ⟨rfl,rfl,rfl,rfl,rfl⟩ rfl rfl rfl rfl rfl (by kernel_rfl) Tryz.func3 zIm
  (of_decide_eq_true (by kernel_rfl)) (by unfold Func.isWrapper;first|(rw[if_pos (by decide +kernel)];kernel_rfl)|(rw[if_neg (by decide +kernel)];exact⟨rfl,rfl⟩))
  (fun os started H enc _ F=>by rw[OpenClaim.pre_eq_preRow];exact zIn os started H enc F)
theorem zIp (f:FuncId) (fn:Func) (hf:Tryz.pinned.checked.prog.funcNamed "bloomery/bloomerylaw27.DirtyRuns" = some f) (hfn:Tryz.pinned.checked.prog.funcs[f]?=some fn) :
  true=Tryz.pinned.checked.prog.looks []∧∀(j:Nat) t,fn.params[j]?=some t→Tryz.pinned.checked.prog.wantsStandIn t=false:=by
 obtain rfl:f=3:=Option.some.inj ((show Tryz.prog.funcNamed "bloomery/bloomerylaw27.DirtyRuns" = some 3 by kernel_rfl).symm.trans hf) |>.symm
 obtain rfl:fn=Tryz.f3:=(Option.some.inj (Tryz.func3.symm.trans hfn)).symm
 refine⟨by kernel_rfl,fun j t ht=>?_⟩
 have ep:Tryz.f3.params.toList=[27,28,28]:=rfl
 have hm:t∈Tryz.f3.params.toList:=(Array.mem_of_getElem? ht).val
 rw[ep]at hm
 have hall:[27,28,28].all (fun t=>!(Tryz.prog.wantsStandIn t))=true:=by kernel_rfl
 have:=List.all_eq_true.1 hall t hm
 exact(by simpa using this:Tryz.prog.wantsStandIn t=false)
theorem dirtyRuns_card:Rows.DirtyRunsUptoCardSaid :=
 Claim7.holds_tied_plain_at .later [] _ _ _ _ zIv (fun _ h=>by cases h) (by kernel_rfl) (fun _ h=>by cases h) dirtyRunsUpto_row_tie rfl ⟨rfl,rfl⟩ (by kernel_rfl) rfl zIp (by kernel_rfl)
#print axioms dirtyRuns_card
end Go.Proofs.YtcgpcfcbienapaaGreatDoor
