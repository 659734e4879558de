/- FoundKeys: true for every input of bulk at most 1048576. No condition beyond each theorem's own. -/
import Derived.Test.YtidhkfcjichiiaaGreatDoorFX0ToPD
import Derived.Test.YtidhkfcjichiiaaGreatDoorBPDToFPD
import Derived.Test.YtidhkfcjichiiaaGreatDoorPTM
set_option linter.unusedSimpArgs false
set_option linter.unusedVariables false
set_option linter.unusedSectionVars false
set_option maxRecDepth 100000
/-! FoundKeys: true for every input of bulk at most 1048576. -/
namespace Go.Proofs.YtidhkfcjichiiaaGreatDoor
open Go Go.Ab Go.ChangeShapes Go.WideShapes Go.ChangeAt Go.RowKit
open Classical


theorem zz3:ownKnob Tryz.prog.godebug=none:=by kernel_rfl
theorem zyJ (H:Type) (enc:TypeId × Value→H) (W:World) (base:Nat) (args:Array Value) (ds gs:List (DataW H)) (before:List MemPlace)
  (hval:∀(j:Nat) t v,Tryz.f6.params[j]?=some t→args[j]?=some v→Value.okWide Tryz.prog W .any base t v)
  (hW:DataW.Whole enc Tryz.prog Tryz.f6.params.toList Rows.foundKeysSpec.vars false W args.toList ds gs before) (hB:Rows.uptoBulkAll ds≤1048576) (hsh:W.ShapedOpen Tryz.prog) (hL:laidMetH Tryz.prog Rows.foundKeysUptoRow.laid W) :
  Calls Tryz.prog 6 args W fun e W'=>∃v,e=.returned v∧Rows.foundKeysSpec.post enc Tryz.prog Tryz.f6 false true false false W args v W':=by
 letI:Sel:=⟨fun n=>n == "internal/strconv.uint64pow10" || n == "internal/bytealg.MaxLen"⟩
 haveI:SelPow:=⟨rfl⟩
 haveI:SelMax:=⟨rfl⟩
 refine cJ laid (s:=Rows.foundKeysSpec) rfl (tb:=4) rfl Tryz.underlying4 (n:=10) (by kernel_rfl) hval hW (zjn hL hsh (by kernel_rfl) (by kernel_rfl) (by kernel_rfl) rfl) ?_ ?_
 ·intro h
  match ds,h with
  | [a,b,c],_=>rfl
 ·intro h hw
  match ds,h with
  | [a,b,c],_ =>
   obtain⟨x,e1⟩:=zfh (hw 0 27 a rfl rfl)
   obtain⟨l,e2⟩:=zfh (hw 1 27 b rfl rfl)
   obtain⟨l2,e3⟩:=zvZ (hw 2 38 c rfl rfl)
   have hb1:=J1 a
   have hb2:=J1 b
   have hb3:=J1 c
   rw[e1]at hb1
   rw[e2]at hb2
   rw[e3]at hb3
   have hx:=dZ x
   have hl:=dZ l
   have hl2:=zvs l2
   have hB':Rows.uptoBulk a+(Rows.uptoBulk b+Rows.uptoBulk c)≤1048576:=by simpa[Rows.uptoBulkAll]using hB
   have:=zzf x l l2 (by omega) (by omega) (by omega)
   have ep:Tryz.f6.params.toList=[27,27,38]:=rfl
   rw[ep]
   simp only[gX,e1,e2,e3,zkh,ztT]at this ⊢
   exact this

def foundKeys_args:Array Value:=#[Value.agg #[.string ⟨#[]⟩,.string ⟨#[]⟩,.string ⟨#[]⟩,.slice none 0 0,.slice none 0 0,.slice none 0 0,.slice none 0 0],Value.agg #[.string ⟨#[]⟩,.string ⟨#[]⟩,.string ⟨#[]⟩,.slice none 0 0,.slice none 0 0,.slice none 0 0,.slice none 0 0],Value.slice none 0 0]
theorem zz4 (os:Os):laidMet Tryz.prog Rows.foundKeysUptoRow.laid ((World.laidAll Tryz.prog os Rows.foundKeysUptoRow.laid).forCall (fun _ _=>0) ⟨#[],foundKeys_args,[]⟩).memory :=
 laidMet_laidAll foundKeys_args (by kernel_rfl) (by kernel_rfl)
theorem zyV (os:Os) {H:Type} (enc:TypeId × Value→H):∃x,DataW.whole enc Tryz.prog ((World.laidAll Tryz.prog os Rows.foundKeysUptoRow.laid).forCall (fun _ _=>0) ⟨#[],foundKeys_args,[]⟩).memory Tryz.f6.params.toList Rows.foundKeysSpec.vars false foundKeys_args.toList 8=some x∧Rows.uptoSmall H (x.1++x.2.1)=true:=by
 have h:(match DataW.whole enc Tryz.prog ((World.laidAll Tryz.prog os Rows.foundKeysUptoRow.laid).forCall (fun _ _=>0) ⟨#[],foundKeys_args,[]⟩).memory Tryz.f6.params.toList Rows.foundKeysSpec.vars false foundKeys_args.toList 8 with|some x=>Rows.uptoSmall H (x.1++x.2.1)|none=>false)=true:=by kernel_rfl
 split at h
 ·rename_i x hx;exact⟨x,hx,h⟩
 ·cases h
theorem zyT (os:Os) (started:os.Started) (H:Type) (enc:TypeId × Value→H) (F:Stop.Interp) :
  ReturnsInHanded {} Tryz.checked os 6 .any ((Rows.OpenSpec.upto Rows.foundKeysSpec).preRow enc Tryz.prog Tryz.f6 Rows.foundKeysUptoRow.domain false Rows.foundKeysUptoRow.laid) (((Rows.OpenSpec.upto Rows.foundKeysSpec).at F).post enc Tryz.prog Tryz.f6 false true false false):=by
 obtain⟨x,hx,hsm⟩:=zyV os enc
 refine returnsInHanded_of_row (C:=Tryz.checked) (s:=Rows.OpenSpec.upto Rows.foundKeysSpec) zz3 started (by kernel_rfl) Tryz.func6
  (witness_row_at (enc:=enc) (C:=Tryz.checked) false (World.laidAll Tryz.prog os Rows.foundKeysUptoRow.laid) foundKeys_args (World.laidAll_os _ _ _) (by kernel_rfl) (by kernel_rfl) (by kernel_rfl)
   (OpenSpec.preRow_of_cond 8 hx rfl (fun k hk=>by cases hk;exact hsm) (by kernel_rfl) (zz4 os))) ?_
 intro W base args ds gs before hval hW _ hcond _ hL hsh _
 have hB:Rows.uptoBulkAll (ds++gs)≤1048576:=of_decide_eq_true (hcond _ rfl)
 rw[VR]at hB
 exact zyJ H enc W base args ds gs before hval hW (by omega) hsh hL
set_option maxHeartbeats 400000000 in
theorem zyR:joinedFacts Tryz.pinned.checked.prog 6 Tryz.f6 (Rows.OpenSpec.upto Rows.foundKeysSpec).bare Rows.foundKeysUptoRow=true:=by
 unfold joinedFacts
 simp only[Bool.and_eq_true]
 and_intros
 all_goals (as_aux_lemma=>kernel_rfl)
theorem zz2:Rows.FoundKeysUptoSaid :=
 OpenClaim.holds_of_cond 6 Tryz.f6 rfl rfl rfl rfl rfl rfl rfl ⟨rfl,rfl,rfl,rfl,rfl⟩ rfl rfl rfl rfl rfl (by kernel_rfl) Tryz.func6 zyR
  (of_decide_eq_true (by kernel_rfl)) (by unfold Func.isWrapper;first|(rw[if_pos (by decide +kernel)];kernel_rfl)|(rw[if_neg (by decide +kernel)];exact⟨rfl,rfl⟩))
  (fun os started H enc _ F=>by rw[OpenClaim.pre_eq_preRow];exact zyT os started H enc F)
theorem zyU (f:FuncId) (fn:Func) (hf:Tryz.pinned.checked.prog.funcNamed "bloomery/bloomerylaw24.FoundKeys" = some f) (hfn:Tryz.pinned.checked.prog.funcs[f]?=some fn) :
  true=Tryz.pinned.checked.prog.looks []∧∀(j:Nat) t,fn.params[j]?=some t→Tryz.pinned.checked.prog.wantsStandIn t=false:=by
 obtain rfl:f=6:=Option.some.inj ((show Tryz.prog.funcNamed "bloomery/bloomerylaw24.FoundKeys" = some 6 by kernel_rfl).symm.trans hf) |>.symm
 obtain rfl:fn=Tryz.f6:=(Option.some.inj (Tryz.func6.symm.trans hfn)).symm
 refine⟨by kernel_rfl,fun j t ht=>?_⟩
 have ep:Tryz.f6.params.toList=[27,27,38]:=rfl
 have hm:t∈Tryz.f6.params.toList:=(Array.mem_of_getElem? ht).val
 rw[ep]at hm
 have hall:[27,27,38].all (fun t=>!(Tryz.prog.wantsStandIn t))=true:=by kernel_rfl
 have:=List.all_eq_true.1 hall t hm
 exact(by simpa using this:Tryz.prog.wantsStandIn t=false)
theorem foundKeys_card:Rows.FoundKeysUptoCardSaid :=
 Claim7.holds_tied_plain_at .later [] _ _ _ _ zz2 (fun _ h=>by cases h) (by kernel_rfl) (fun _ h=>by cases h) foundKeysUpto_row_tie rfl ⟨rfl,rfl⟩ (by kernel_rfl) rfl zyU (by kernel_rfl)
#print axioms foundKeys_card
end Go.Proofs.YtidhkfcjichiiaaGreatDoor
