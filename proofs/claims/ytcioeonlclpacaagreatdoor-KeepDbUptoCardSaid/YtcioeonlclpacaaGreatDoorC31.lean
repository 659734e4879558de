/- KeepDb: true for every input of bulk at most 1048576. No condition beyond each theorem's own. -/
import Derived.Test.YtcioeonlclpacaaGreatDoorKW8ToKX4
import Derived.Test.YtcioeonlclpacaaGreatDoorKPDToKPE
import Derived.Test.YtcioeonlclpacaaGreatDoorPT
set_option linter.unusedSimpArgs false
set_option linter.unusedVariables false
set_option linter.unusedSectionVars false
set_option maxRecDepth 100000
/-! KeepDb: true for every input of bulk at most 1048576. -/
namespace Go.Proofs.YtcioeonlclpacaaGreatDoor
open Go Go.Ab Go.ChangeShapes Go.WideShapes Go.ChangeAt Go.RowKit
open Classical


theorem zWa:ownKnob Tryz.prog.godebug=none:=by kernel_rfl
theorem zVp (H:Type) (enc:TypeId × Value→H) (W:World) (base:Nat) (args:Array Value) (ds gs:List (DataW H)) (before:List MemPlace)
  (hval:∀(j:Nat) t v,Tryz.f4.params[j]?=some t→args[j]?=some v→Value.okWide Tryz.prog W .any base t v)
  (hW:DataW.Whole enc Tryz.prog Tryz.f4.params.toList Rows.keepDbSpec.vars false W args.toList ds gs before) (hB:Rows.uptoBulkAll ds≤1048576) (hL:laidMetH Tryz.prog Rows.keepDbUptoRow.laid W) :
  Calls Tryz.prog 4 args W fun e W'=>∃v,e=.returned v∧Rows.keepDbSpec.post enc Tryz.prog Tryz.f4 false true false false W args v W':=by
 letI:Sel:=⟨fun n=>n == "internal/strconv.uint64pow10" || n == "strconv.ErrSyntax" || n == "strconv.ErrRange"⟩
 haveI:SelPow:=⟨rfl⟩
 haveI:SelErr:=⟨rfl,rfl,rfl⟩
 refine cJ laid (s:=Rows.keepDbSpec) rfl (tb:=4) rfl Tryz.underlying4 (n:=10) (by kernel_rfl) hval hW (zSR (by kernel_rfl) hL (by kernel_rfl) (by first|(exact .inl (by kernel_rfl))|exact .inr (by kernel_rfl)) rfl rfl rfl) ?_ ?_
 ·intro h
  match ds,h with
  | [a,b],_=>rfl
 ·intro h hw
  match ds,h with
  | [a,b],_ =>
   obtain⟨l,e1,hl0,hl⟩:=zRT (hw 0 22 a rfl rfl)
   obtain⟨b0,b1,e2,⟨hb0,hb02⟩,hb1,hb12⟩:=zWP (hw 1 62 b rfl rfl)
   have hb2:=J1 a
   rw[e1]at hb2
   have hB':Rows.uptoBulk a+Rows.uptoBulk b≤1048576:=by simpa[Rows.uptoBulkAll]using hB
   have hz:=zOI hb2
   have:=zWr l hl0 (fun o h=>⟨⟨(hl o h).1,by have:=hz o h;omega⟩,(hl o h).2⟩) b0 b1 hb0 hb02 hb1 hb12
   have ep:Tryz.f4.params.toList=[22,62]:=rfl
   rw[ep]
   simp only[gX,e1,e2,zSS,zX6]at this ⊢
   exact this

def keepDb_args:Array Value:=#[Value.slice none 0 0,Value.agg #[Value.int IntKind.u8 0,Value.int IntKind.u8 0]]
theorem zWc (os:Os):laidMet Tryz.prog Rows.keepDbUptoRow.laid ((World.laidAll Tryz.prog os Rows.keepDbUptoRow.laid).forCall (fun _ _=>0) ⟨#[],keepDb_args,[]⟩).memory :=
 laidMet_laidAll keepDb_args (by kernel_rfl) (by kernel_rfl)
theorem zVL (os:Os) {H:Type} (enc:TypeId × Value→H):∃x,DataW.whole enc Tryz.prog ((World.laidAll Tryz.prog os Rows.keepDbUptoRow.laid).forCall (fun _ _=>0) ⟨#[],keepDb_args,[]⟩).memory Tryz.f4.params.toList Rows.keepDbSpec.vars false keepDb_args.toList 8=some x∧Rows.uptoSmall H (x.1++x.2.1)=true:=by
 have h:(match DataW.whole enc Tryz.prog ((World.laidAll Tryz.prog os Rows.keepDbUptoRow.laid).forCall (fun _ _=>0) ⟨#[],keepDb_args,[]⟩).memory Tryz.f4.params.toList Rows.keepDbSpec.vars false keepDb_args.toList 8 with|some x=>Rows.uptoSmall H (x.1++x.2.1)|none=>false)=true:=by kernel_rfl
 split at h
 ·rename_i x hx;exact⟨x,hx,h⟩
 ·cases h
theorem zVA (os:Os) (started:os.Started) (H:Type) (enc:TypeId × Value→H) (F:Stop.Interp) :
  ReturnsInHanded {} Tryz.checked os 4 .any ((Rows.OpenSpec.upto Rows.keepDbSpec).preRow enc Tryz.prog Tryz.f4 Rows.keepDbUptoRow.domain false Rows.keepDbUptoRow.laid) (((Rows.OpenSpec.upto Rows.keepDbSpec).at F).post enc Tryz.prog Tryz.f4 false true false false):=by
 obtain⟨x,hx,hsm⟩:=zVL os enc
 refine returnsInHanded_of_row (C:=Tryz.checked) (s:=Rows.OpenSpec.upto Rows.keepDbSpec) zWa started (by kernel_rfl) Tryz.func4
  (witness_row_at (enc:=enc) (C:=Tryz.checked) false (World.laidAll Tryz.prog os Rows.keepDbUptoRow.laid) keepDb_args (World.laidAll_os _ _ _) (by kernel_rfl) (by kernel_rfl) (by kernel_rfl)
   (OpenSpec.preRow_of_cond 8 hx rfl (fun k hk=>by cases hk;exact hsm) (by kernel_rfl) (zWc os))) ?_
 intro W base args ds gs before hval hW _ hcond _ hL _ _
 have hB:Rows.uptoBulkAll (ds++gs)≤1048576:=of_decide_eq_true (hcond _ rfl)
 rw[VR]at hB
 exact zVp H enc W base args ds gs before hval hW (by omega) hL
theorem zW5:Rows.KeepDbUptoSaid :=
 OpenClaim.holds_of_cond 4 Tryz.f4 rfl rfl rfl rfl rfl rfl rfl ⟨rfl,rfl,rfl,rfl,rfl⟩ rfl rfl rfl rfl rfl (by kernel_rfl) Tryz.func4 (by kernel_rfl)
  (of_decide_eq_true (by kernel_rfl)) (by unfold Func.isWrapper;first|(rw[if_pos (by decide +kernel)];kernel_rfl)|(rw[if_neg (by decide +kernel)];exact⟨rfl,rfl⟩))
  (fun os started H enc _ F=>by rw[OpenClaim.pre_eq_preRow];exact zVA os started H enc F)
theorem zVN (f:FuncId) (fn:Func) (hf:Tryz.pinned.checked.prog.funcNamed "bloomery/bloomerylaw26.KeepDb" = some f) (hfn:Tryz.pinned.checked.prog.funcs[f]?=some fn) :
  true=Tryz.pinned.checked.prog.looks []∧∀(j:Nat) t,fn.params[j]?=some t→Tryz.pinned.checked.prog.wantsStandIn t=false:=by
 obtain rfl:f=4:=Option.some.inj ((show Tryz.prog.funcNamed "bloomery/bloomerylaw26.KeepDb" = some 4 by kernel_rfl).symm.trans hf) |>.symm
 obtain rfl:fn=Tryz.f4:=(Option.some.inj (Tryz.func4.symm.trans hfn)).symm
 refine⟨by kernel_rfl,fun j t ht=>?_⟩
 have ep:Tryz.f4.params.toList=[22,62]:=rfl
 have hm:t∈Tryz.f4.params.toList:=(Array.mem_of_getElem? ht).val
 rw[ep]at hm
 have hall:[22,62].all (fun t=>!(Tryz.prog.wantsStandIn t))=true:=by kernel_rfl
 have:=List.all_eq_true.1 hall t hm
 exact(by simpa using this:Tryz.prog.wantsStandIn t=false)
theorem keepDb_card:Rows.KeepDbUptoCardSaid :=
 Claim7.holds_tied_plain_at .later [] _ _ _ _ zW5 (fun _ h=>by cases h) (by kernel_rfl) (fun _ h=>by cases h) keepDbUpto_row_tie rfl ⟨rfl,rfl⟩ (by kernel_rfl) rfl zVN (by kernel_rfl)
#print axioms keepDb_card
end Go.Proofs.YtcioeonlclpacaaGreatDoor
