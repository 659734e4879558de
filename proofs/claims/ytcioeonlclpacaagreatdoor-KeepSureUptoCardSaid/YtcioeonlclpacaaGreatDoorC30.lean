/- KeepSure: true for every input of bulk at most 1048576. No condition beyond each theorem's own. -/
import Derived.Test.YtcioeonlclpacaaGreatDoorKW8
import Derived.Test.YtcioeonlclpacaaGreatDoorKPD
import Derived.Test.YtcioeonlclpacaaGreatDoorPT
set_option linter.unusedSimpArgs false
set_option linter.unusedVariables false
set_option linter.unusedSectionVars false
set_option maxRecDepth 100000
/-! KeepSure: true for every input of bulk at most 1048576. -/
namespace Go.Proofs.YtcioeonlclpacaaGreatDoor
open Go Go.Ab Go.ChangeShapes Go.WideShapes Go.ChangeAt Go.RowKit
open Classical


theorem zNf:ownKnob Tryz.prog.godebug=none:=by kernel_rfl
theorem zLk (H:Type) (enc:TypeId × Value→H) (W:World) (base:Nat) (args:Array Value) (ds gs:List (DataW H)) (before:List MemPlace)
  (hval:∀(j:Nat) t v,Tryz.f3.params[j]?=some t→args[j]?=some v→Value.okWide Tryz.prog W .any base t v)
  (hW:DataW.Whole enc Tryz.prog Tryz.f3.params.toList Rows.keepSureSpec.vars false W args.toList ds gs before) (hB:Rows.uptoBulkAll ds≤1048576) (hL:laidMetH Tryz.prog Rows.keepSureUptoRow.laid W) :
  Calls Tryz.prog 3 args W fun e W'=>∃v,e=.returned v∧Rows.keepSureSpec.post enc Tryz.prog Tryz.f3 false true false false W args v W':=by
 letI:Sel:=⟨fun n=>n == "internal/strconv.uint64pow10" || n == "strconv.ErrSyntax" || n == "strconv.ErrRange"⟩
 haveI:SelPow:=⟨rfl⟩
 haveI:SelErr:=⟨rfl,rfl,rfl⟩
 refine cJ laid (s:=Rows.keepSureSpec) rfl (tb:=4) rfl Tryz.underlying4 (n:=10) (by kernel_rfl) hval hW (zSR (by kernel_rfl) hL (by kernel_rfl) (by first|(exact .inl (by kernel_rfl))|exact .inr (by kernel_rfl)) rfl rfl rfl) ?_ ?_
 ·intro h
  match ds,h with
  | [a,b,c],_=>rfl
 ·intro h hw
  match ds,h with
  | [a,b,c],_ =>
   obtain⟨l,e1,hl0,hl⟩:=zRT (hw 0 22 a rfl rfl)
   obtain⟨bu,e2,hb0,hb1⟩:=zSP (hw 1 5 b rfl rfl)
   obtain⟨ps,e3,hp0⟩:=zS9 (hw 2 23 c rfl rfl)
   have hb2:=J1 a
   rw[e1]at hb2
   have hB':Rows.uptoBulk a+(Rows.uptoBulk b+Rows.uptoBulk c)≤1048576:=by simpa[Rows.uptoBulkAll]using hB
   have hz:=zOI hb2
   have:=zND l hl0 (fun o h=>⟨(hl o h).1,by have:=hz o h;omega⟩) bu hb0 hb1 ps hp0
   have ep:Tryz.f3.params.toList=[22,5,23]:=rfl
   rw[ep]
   simp only[gX,e1,e2,e3,zSS,ty5,zrY]at this ⊢
   exact this

def keepSure_args:Array Value:=#[Value.slice none 0 0,Value.int IntKind.u8 0,Value.slice none 0 0]
theorem zN9 (os:Os):laidMet Tryz.prog Rows.keepSureUptoRow.laid ((World.laidAll Tryz.prog os Rows.keepSureUptoRow.laid).forCall (fun _ _=>0) ⟨#[],keepSure_args,[]⟩).memory :=
 laidMet_laidAll keepSure_args (by kernel_rfl) (by kernel_rfl)
theorem zMi (os:Os) {H:Type} (enc:TypeId × Value→H):∃x,DataW.whole enc Tryz.prog ((World.laidAll Tryz.prog os Rows.keepSureUptoRow.laid).forCall (fun _ _=>0) ⟨#[],keepSure_args,[]⟩).memory Tryz.f3.params.toList Rows.keepSureSpec.vars false keepSure_args.toList 8=some x∧Rows.uptoSmall H (x.1++x.2.1)=true:=by
 have h:(match DataW.whole enc Tryz.prog ((World.laidAll Tryz.prog os Rows.keepSureUptoRow.laid).forCall (fun _ _=>0) ⟨#[],keepSure_args,[]⟩).memory Tryz.f3.params.toList Rows.keepSureSpec.vars false keepSure_args.toList 8 with|some x=>Rows.uptoSmall H (x.1++x.2.1)|none=>false)=true:=by kernel_rfl
 split at h
 ·rename_i x hx;exact⟨x,hx,h⟩
 ·cases h
theorem zLJ (os:Os) (started:os.Started) (H:Type) (enc:TypeId × Value→H) (F:Stop.Interp) :
  ReturnsInHanded {} Tryz.checked os 3 .any ((Rows.OpenSpec.upto Rows.keepSureSpec).preRow enc Tryz.prog Tryz.f3 Rows.keepSureUptoRow.domain false Rows.keepSureUptoRow.laid) (((Rows.OpenSpec.upto Rows.keepSureSpec).at F).post enc Tryz.prog Tryz.f3 false true false false):=by
 obtain⟨x,hx,hsm⟩:=zMi os enc
 refine returnsInHanded_of_row (C:=Tryz.checked) (s:=Rows.OpenSpec.upto Rows.keepSureSpec) zNf started (by kernel_rfl) Tryz.func3
  (witness_row_at (enc:=enc) (C:=Tryz.checked) false (World.laidAll Tryz.prog os Rows.keepSureUptoRow.laid) keepSure_args (World.laidAll_os _ _ _) (by kernel_rfl) (by kernel_rfl) (by kernel_rfl)
   (OpenSpec.preRow_of_cond 8 hx rfl (fun k hk=>by cases hk;exact hsm) (by kernel_rfl) (zN9 os))) ?_
 intro W base args ds gs before hval hW _ hcond _ hL _ _
 have hB:Rows.uptoBulkAll (ds++gs)≤1048576:=of_decide_eq_true (hcond _ rfl)
 rw[VR]at hB
 exact zLk H enc W base args ds gs before hval hW (by omega) hL
theorem zMx:Rows.KeepSureUptoSaid :=
 OpenClaim.holds_of_cond 3 Tryz.f3 rfl rfl rfl rfl rfl rfl rfl ⟨rfl,rfl,rfl,rfl,rfl⟩ rfl rfl rfl rfl rfl (by kernel_rfl) Tryz.func3 (by kernel_rfl)
  (of_decide_eq_true (by kernel_rfl)) (by unfold Func.isWrapper;first|(rw[if_pos (by decide +kernel)];kernel_rfl)|(rw[if_neg (by decide +kernel)];exact⟨rfl,rfl⟩))
  (fun os started H enc _ F=>by rw[OpenClaim.pre_eq_preRow];exact zLJ os started H enc F)
theorem zLV (f:FuncId) (fn:Func) (hf:Tryz.pinned.checked.prog.funcNamed "bloomery/bloomerylaw26.KeepSure" = some f) (hfn:Tryz.pinned.checked.prog.funcs[f]?=some fn) :
  true=Tryz.pinned.checked.prog.looks []∧∀(j:Nat) t,fn.params[j]?=some t→Tryz.pinned.checked.prog.wantsStandIn t=false:=by
 obtain rfl:f=3:=Option.some.inj ((show Tryz.prog.funcNamed "bloomery/bloomerylaw26.KeepSure" = some 3 by kernel_rfl).symm.trans hf) |>.symm
 obtain rfl:fn=Tryz.f3:=(Option.some.inj (Tryz.func3.symm.trans hfn)).symm
 refine⟨by kernel_rfl,fun j t ht=>?_⟩
 have ep:Tryz.f3.params.toList=[22,5,23]:=rfl
 have hm:t∈Tryz.f3.params.toList:=(Array.mem_of_getElem? ht).val
 rw[ep]at hm
 have hall:[22,5,23].all (fun t=>!(Tryz.prog.wantsStandIn t))=true:=by kernel_rfl
 have:=List.all_eq_true.1 hall t hm
 exact(by simpa using this:Tryz.prog.wantsStandIn t=false)
theorem keepSure_card:Rows.KeepSureUptoCardSaid :=
 Claim7.holds_tied_plain_at .later [] _ _ _ _ zMx (fun _ h=>by cases h) (by kernel_rfl) (fun _ h=>by cases h) keepSureUpto_row_tie rfl ⟨rfl,rfl⟩ (by kernel_rfl) rfl zLV (by kernel_rfl)
#print axioms keepSure_card
end Go.Proofs.YtcioeonlclpacaaGreatDoor
