/- TraceBoxes: true for every input of bulk at most 1048576. No condition beyond each theorem's own. -/
import Derived.Test.YtcgpcfcbienapaaGreatDoorP47ToTB1
import Derived.Test.YtcgpcfcbienapaaGreatDoorBPD
import Derived.Test.YtcgpcfcbienapaaGreatDoorPTX
set_option linter.unusedSimpArgs false
set_option linter.unusedVariables false
set_option linter.unusedSectionVars false
set_option maxRecDepth 100000
/-! TraceBoxes: true for every input of bulk at most 1048576. -/
namespace Go.Proofs.YtcgpcfcbienapaaGreatDoor
open Go Go.Ab Go.ChangeShapes Go.WideShapes Go.ChangeAt Go.RowKit
open Classical


theorem zDZ:ownKnob Tryz.prog.godebug=none:=by kernel_rfl
theorem zDo (H:Type) (enc:TypeId × Value→H) (W:World) (base:Nat) (args:Array Value) (ds gs:List (DataW H)) (before:List MemPlace)
  (hval:∀(j:Nat) t v,Tryz.f4.params[j]?=some t→args[j]?=some v→Value.okWide Tryz.prog W .any base t v)
  (hW:DataW.Whole enc Tryz.prog Tryz.f4.params.toList Rows.traceBoxesSpec.vars false W args.toList ds gs before) (hB:Rows.uptoBulkAll ds≤1048576) (hsh:W.ShapedOpen Tryz.prog) (hL:laidMetH Tryz.prog Rows.traceBoxesUptoRow.laid W) :
  Calls Tryz.prog 4 args W fun e W'=>∃v,e=.returned v∧Rows.traceBoxesSpec.post enc Tryz.prog Tryz.f4 false true false false W args v W':=by
 letI:Sel:=⟨fun n=>n == "internal/strconv.uint64pow10" || n == "strconv.ErrSyntax" || n == "strconv.ErrRange" || n == "internal/bytealg.MaxLen"⟩
 haveI:SelPow:=⟨rfl⟩
 haveI:SelErr:=⟨rfl,rfl,rfl⟩
 haveI:SelMax:=⟨rfl⟩
 refine cJ laid (s:=Rows.traceBoxesSpec) rfl (tb:=4) rfl Tryz.underlying4 (n:=10) (by kernel_rfl) hval hW (zGm hL hsh (by kernel_rfl) (by kernel_rfl) (by first|(exact .inl (by kernel_rfl))|exact .inr (by kernel_rfl)) rfl rfl rfl) ?_ ?_
 ·intro h
  match ds,h with
  | [a,b],_=>rfl
 ·intro h hw
  match ds,h with
  | [a,b],_ =>
   obtain⟨x,e1⟩:=zfh (hw 0 27 a rfl rfl)
   obtain⟨l,e2⟩:=zbJ (hw 1 28 b rfl rfl)
   have hb1:=J1 a
   have hb2:=J1 b
   rw[e1]at hb1
   rw[e2]at hb2
   have hx:=dZ x
   have hl:=V1 l
   have hB':Rows.uptoBulk a+Rows.uptoBulk b≤1048576:=by simpa[Rows.uptoBulkAll]using hB
   have:=zEg x l (by omega) (by omega)
   have ep:Tryz.f4.params.toList=[27,28]:=rfl
   rw[ep]
   simp only[gX,e1,e2,zkh,zmf]at this ⊢
   exact this

def traceBoxes_args:Array Value:=#[Value.agg #[.string ⟨#[]⟩,.string ⟨#[]⟩,.string ⟨#[]⟩,.slice none 0 0,.slice none 0 0,.slice none 0 0,.slice none 0 0],Value.slice none 0 0]
theorem zEa (os:Os):laidMet Tryz.prog Rows.traceBoxesUptoRow.laid ((World.laidAll Tryz.prog os Rows.traceBoxesUptoRow.laid).forCall (fun _ _=>0) ⟨#[],traceBoxes_args,[]⟩).memory :=
 laidMet_laidAll traceBoxes_args (by kernel_rfl) (by kernel_rfl)
theorem zDI (os:Os) {H:Type} (enc:TypeId × Value→H):∃x,DataW.whole enc Tryz.prog ((World.laidAll Tryz.prog os Rows.traceBoxesUptoRow.laid).forCall (fun _ _=>0) ⟨#[],traceBoxes_args,[]⟩).memory Tryz.f4.params.toList Rows.traceBoxesSpec.vars false traceBoxes_args.toList 8=some x∧Rows.uptoSmall H (x.1++x.2.1)=true:=by
 have h:(match DataW.whole enc Tryz.prog ((World.laidAll Tryz.prog os Rows.traceBoxesUptoRow.laid).forCall (fun _ _=>0) ⟨#[],traceBoxes_args,[]⟩).memory Tryz.f4.params.toList Rows.traceBoxesSpec.vars false traceBoxes_args.toList 8 with|some x=>Rows.uptoSmall H (x.1++x.2.1)|none=>false)=true:=by kernel_rfl
 split at h
 ·rename_i x hx;exact⟨x,hx,h⟩
 ·cases h
theorem zDy (os:Os) (started:os.Started) (H:Type) (enc:TypeId × Value→H) (F:Stop.Interp) :
  ReturnsInHanded {} Tryz.checked os 4 .any ((Rows.OpenSpec.upto Rows.traceBoxesSpec).preRow enc Tryz.prog Tryz.f4 Rows.traceBoxesUptoRow.domain false Rows.traceBoxesUptoRow.laid) (((Rows.OpenSpec.upto Rows.traceBoxesSpec).at F).post enc Tryz.prog Tryz.f4 false true false false):=by
 obtain⟨x,hx,hsm⟩:=zDI os enc
 refine returnsInHanded_of_row (C:=Tryz.checked) (s:=Rows.OpenSpec.upto Rows.traceBoxesSpec) zDZ started (by kernel_rfl) Tryz.func4
  (witness_row_at (enc:=enc) (C:=Tryz.checked) false (World.laidAll Tryz.prog os Rows.traceBoxesUptoRow.laid) traceBoxes_args (World.laidAll_os _ _ _) (by kernel_rfl) (by kernel_rfl) (by kernel_rfl)
   (OpenSpec.preRow_of_cond 8 hx rfl (fun k hk=>by cases hk;exact hsm) (by kernel_rfl) (zEa os))) ?_
 intro W base args ds gs before hval hW _ hcond _ hL hsh _
 have hB:Rows.uptoBulkAll (ds++gs)≤1048576:=of_decide_eq_true (hcond _ rfl)
 rw[VR]at hB
 exact zDo H enc W base args ds gs before hval hW (by omega) hsh hL
set_option maxHeartbeats 400000000 in
theorem zDA:joinedFacts Tryz.pinned.checked.prog 4 Tryz.f4 (Rows.OpenSpec.upto Rows.traceBoxesSpec).bare Rows.traceBoxesUptoRow=true:=by
 unfold joinedFacts
 simp only[Bool.and_eq_true]
 and_intros
 all_goals (as_aux_lemma=>kernel_rfl)
theorem zDR:Rows.TraceBoxesUptoSaid :=
 OpenClaim.holds_of_cond 4 Tryz.f4 rfl rfl rfl rfl rfl rfl rfl ⟨rfl,rfl,rfl,rfl,rfl⟩ rfl rfl rfl rfl rfl (by kernel_rfl) Tryz.func4 zDA
  (of_decide_eq_true (by kernel_rfl)) (by unfold Func.isWrapper;first|(rw[if_pos (by decide +kernel)];kernel_rfl)|(rw[if_neg (by decide +kernel)];exact⟨rfl,rfl⟩))
  (fun os started H enc _ F=>by rw[OpenClaim.pre_eq_preRow];exact zDy os started H enc F)
theorem zDJ (f:FuncId) (fn:Func) (hf:Tryz.pinned.checked.prog.funcNamed "bloomery/bloomerylaw23.TraceBoxes" = some f) (hfn:Tryz.pinned.checked.prog.funcs[f]?=some fn) :
  true=Tryz.pinned.checked.prog.looks []∧∀(j:Nat) t,fn.params[j]?=some t→Tryz.pinned.checked.prog.wantsStandIn t=false:=by
 obtain rfl:f=4:=Option.some.inj ((show Tryz.prog.funcNamed "bloomery/bloomerylaw23.TraceBoxes" = some 4 by kernel_rfl).symm.trans hf) |>.symm
 obtain rfl:fn=Tryz.f4:=(Option.some.inj (Tryz.func4.symm.trans hfn)).symm
 refine⟨by kernel_rfl,fun j t ht=>?_⟩
 have ep:Tryz.f4.params.toList=[27,28]:=rfl
 have hm:t∈Tryz.f4.params.toList:=(Array.mem_of_getElem? ht).val
 rw[ep]at hm
 have hall:[27,28].all (fun t=>!(Tryz.prog.wantsStandIn t))=true:=by kernel_rfl
 have:=List.all_eq_true.1 hall t hm
 exact(by simpa using this:Tryz.prog.wantsStandIn t=false)
theorem traceBoxes_card:Rows.TraceBoxesUptoCardSaid :=
 Claim7.holds_tied_plain_at .later [] _ _ _ _ zDR (fun _ h=>by cases h) (by kernel_rfl) (fun _ h=>by cases h) traceBoxesUpto_row_tie rfl ⟨rfl,rfl⟩ (by kernel_rfl) rfl zDJ (by kernel_rfl)
#print axioms traceBoxes_card
end Go.Proofs.YtcgpcfcbienapaaGreatDoor
