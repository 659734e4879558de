/- KeepCompact: true for every input of bulk at most 1048576. No condition beyond each theorem's own. -/
import Derived.Test.YtcioeonlclpacaaGreatDoorKX5ToKX6
import Derived.Test.YtcioeonlclpacaaGreatDoorKPDToKPE
import Derived.Test.YtcioeonlclpacaaGreatDoorPT
set_option linter.unusedSimpArgs false
set_option linter.unusedVariables false
set_option linter.unusedSectionVars false
set_option maxRecDepth 100000
/-! KeepCompact: true for every input of bulk at most 1048576. -/
namespace Go.Proofs.YtcioeonlclpacaaGreatDoor
open Go Go.Ab Go.ChangeShapes Go.WideShapes Go.ChangeAt Go.RowKit
open Classical


theorem zVo:ownKnob Tryz.prog.godebug=none:=by kernel_rfl
theorem zV3 (H:Type) (enc:TypeId × Value→H) (W:World) (base:Nat) (args:Array Value) (ds gs:List (DataW H)) (before:List MemPlace)
  (hval:∀(j:Nat) t v,Tryz.f6.params[j]?=some t→args[j]?=some v→Value.okWide Tryz.prog W .any base t v)
  (hW:DataW.Whole enc Tryz.prog Tryz.f6.params.toList Rows.keepCompactSpec.vars false W args.toList ds gs before) (hB:Rows.uptoBulkAll ds≤1048576) (hL:laidMetH Tryz.prog Rows.keepCompactUptoRow.laid W) :
  Calls Tryz.prog 6 args W fun e W'=>∃v,e=.returned v∧Rows.keepCompactSpec.post enc Tryz.prog Tryz.f6 false true false false W args v W':=by
 letI:Sel:=⟨fun n=>n == "internal/strconv.uint64pow10" || n == "strconv.ErrSyntax" || n == "strconv.ErrRange"⟩
 haveI:SelPow:=⟨rfl⟩
 haveI:SelErr:=⟨rfl,rfl,rfl⟩
 refine cJ laid (s:=Rows.keepCompactSpec) rfl (tb:=4) rfl Tryz.underlying4 (n:=10) (by kernel_rfl) hval hW (zSR (by kernel_rfl) hL (by kernel_rfl) (by first|(exact .inl (by kernel_rfl))|exact .inr (by kernel_rfl)) rfl rfl rfl) ?_ ?_
 ·intro h
  match ds,h with
  | [a,b,c],_=>rfl
 ·intro h hw
  match ds,h with
  | [a,b,c],_ =>
   obtain⟨l,e1,hl0,hl⟩:=zRT (hw 0 22 a rfl rfl)
   obtain⟨b0,b1,e2,⟨hb0,hb02⟩,hb1,hb12⟩:=zWP (hw 1 62 b rfl rfl)
   obtain⟨ps,e3,hp0⟩:=zS9 (hw 2 23 c rfl rfl)
   have hb2:=J1 a
   rw[e1]at hb2
   have hB':Rows.uptoBulk a+(Rows.uptoBulk b+Rows.uptoBulk c)≤1048576:=by simpa[Rows.uptoBulkAll]using hB
   have hz:=zOI hb2
   have:=zVz l hl0 (fun o h=>⟨⟨(hl o h).1,by have:=hz o h;omega⟩,(hl o h).2⟩) b0 b1 hb0 hb02 hb1 hb12 ps hp0
   have ep:Tryz.f6.params.toList=[22,62,23]:=rfl
   rw[ep]
   simp only[gX,e1,e2,e3,zSS,zX6,zrY]at this ⊢
   exact this

def keepCompact_args:Array Value:=#[Value.slice none 0 0,Value.agg #[Value.int IntKind.u8 0,Value.int IntKind.u8 0],Value.slice none 0 0]
theorem zVn (os:Os):laidMet Tryz.prog Rows.keepCompactUptoRow.laid ((World.laidAll Tryz.prog os Rows.keepCompactUptoRow.laid).forCall (fun _ _=>0) ⟨#[],keepCompact_args,[]⟩).memory :=
 laidMet_laidAll keepCompact_args (by kernel_rfl) (by kernel_rfl)
theorem zV9 (os:Os) {H:Type} (enc:TypeId × Value→H):∃x,DataW.whole enc Tryz.prog ((World.laidAll Tryz.prog os Rows.keepCompactUptoRow.laid).forCall (fun _ _=>0) ⟨#[],keepCompact_args,[]⟩).memory Tryz.f6.params.toList Rows.keepCompactSpec.vars false keepCompact_args.toList 8=some x∧Rows.uptoSmall H (x.1++x.2.1)=true:=by
 have h:(match DataW.whole enc Tryz.prog ((World.laidAll Tryz.prog os Rows.keepCompactUptoRow.laid).forCall (fun _ _=>0) ⟨#[],keepCompact_args,[]⟩).memory Tryz.f6.params.toList Rows.keepCompactSpec.vars false keepCompact_args.toList 8 with|some x=>Rows.uptoSmall H (x.1++x.2.1)|none=>false)=true:=by kernel_rfl
 split at h
 ·rename_i x hx;exact⟨x,hx,h⟩
 ·cases h
theorem zV6 (os:Os) (started:os.Started) (H:Type) (enc:TypeId × Value→H) (F:Stop.Interp) :
  ReturnsInHanded {} Tryz.checked os 6 .any ((Rows.OpenSpec.upto Rows.keepCompactSpec).preRow enc Tryz.prog Tryz.f6 Rows.keepCompactUptoRow.domain false Rows.keepCompactUptoRow.laid) (((Rows.OpenSpec.upto Rows.keepCompactSpec).at F).post enc Tryz.prog Tryz.f6 false true false false):=by
 obtain⟨x,hx,hsm⟩:=zV9 os enc
 refine returnsInHanded_of_row (C:=Tryz.checked) (s:=Rows.OpenSpec.upto Rows.keepCompactSpec) zVo started (by kernel_rfl) Tryz.func6
  (witness_row_at (enc:=enc) (C:=Tryz.checked) false (World.laidAll Tryz.prog os Rows.keepCompactUptoRow.laid) keepCompact_args (World.laidAll_os _ _ _) (by kernel_rfl) (by kernel_rfl) (by kernel_rfl)
   (OpenSpec.preRow_of_cond 8 hx rfl (fun k hk=>by cases hk;exact hsm) (by kernel_rfl) (zVn os))) ?_
 intro W base args ds gs before hval hW _ hcond _ hL _ _
 have hB:Rows.uptoBulkAll (ds++gs)≤1048576:=of_decide_eq_true (hcond _ rfl)
 rw[VR]at hB
 exact zV3 H enc W base args ds gs before hval hW (by omega) hL
theorem zVe:Rows.KeepCompactUptoSaid :=
 OpenClaim.holds_of_cond 6 Tryz.f6 rfl rfl rfl rfl rfl rfl rfl ⟨rfl,rfl,rfl,rfl,rfl⟩ rfl rfl rfl rfl rfl (by kernel_rfl) Tryz.func6 (by kernel_rfl)
  (of_decide_eq_true (by kernel_rfl)) (by unfold Func.isWrapper;first|(rw[if_pos (by decide +kernel)];kernel_rfl)|(rw[if_neg (by decide +kernel)];exact⟨rfl,rfl⟩))
  (fun os started H enc _ F=>by rw[OpenClaim.pre_eq_preRow];exact zV6 os started H enc F)
theorem zV8 (f:FuncId) (fn:Func) (hf:Tryz.pinned.checked.prog.funcNamed "bloomery/bloomerylaw26.KeepCompact" = some f) (hfn:Tryz.pinned.checked.prog.funcs[f]?=some fn) :
  true=Tryz.pinned.checked.prog.looks []∧∀(j:Nat) t,fn.params[j]?=some t→Tryz.pinned.checked.prog.wantsStandIn t=false:=by
 obtain rfl:f=6:=Option.some.inj ((show Tryz.prog.funcNamed "bloomery/bloomerylaw26.KeepCompact" = some 6 by kernel_rfl).symm.trans hf) |>.symm
 obtain rfl:fn=Tryz.f6:=(Option.some.inj (Tryz.func6.symm.trans hfn)).symm
 refine⟨by kernel_rfl,fun j t ht=>?_⟩
 have ep:Tryz.f6.params.toList=[22,62,23]:=rfl
 have hm:t∈Tryz.f6.params.toList:=(Array.mem_of_getElem? ht).val
 rw[ep]at hm
 have hall:[22,62,23].all (fun t=>!(Tryz.prog.wantsStandIn t))=true:=by kernel_rfl
 have:=List.all_eq_true.1 hall t hm
 exact(by simpa using this:Tryz.prog.wantsStandIn t=false)
theorem keepCompact_card:Rows.KeepCompactUptoCardSaid :=
 Claim7.holds_tied_plain_at .later [] _ _ _ _ zVe (fun _ h=>by cases h) (by kernel_rfl) (fun _ h=>by cases h) keepCompactUpto_row_tie rfl ⟨rfl,rfl⟩ (by kernel_rfl) rfl zV8 (by kernel_rfl)
#print axioms keepCompact_card
end Go.Proofs.YtcioeonlclpacaaGreatDoor
