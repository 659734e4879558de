/- BoxTools: true for every input. No condition beyond each theorem's own. -/
import Derived.Test.YtooipdkilgpojaaGreatDoorMA0ToBT1
import Derived.Test.YtooipdkilgpojaaGreatDoorWT0
import Derived.Test.YtooipdkilgpojaaGreatDoorPTM
set_option linter.unusedSimpArgs false
set_option linter.unusedVariables false
set_option linter.unusedSectionVars false
set_option maxRecDepth 100000
/-! BoxTools: true for every input. -/
namespace Go.Proofs.YtooipdkilgpojaaGreatDoor
open Go Go.Ab Go.ChangeShapes Go.WideShapes Go.ChangeAt Go.RowKit
open Classical


theorem zDC:ownKnob Tryz.prog.godebug=none:=by kernel_rfl
theorem zDc (H:Type) (enc:TypeId × Value→H) (W:World) (base:Nat) (args:Array Value) (ds gs:List (DataW H)) (before:List MemPlace)
  (hval:∀(j:Nat) t v,Tryz.f4.params[j]?=some t→args[j]?=some v→Value.okWide Tryz.prog W .any base t v)
  (hW:DataW.Whole enc Tryz.prog Tryz.f4.params.toList Rows.boxToolsSpec.vars false W args.toList ds gs before) (vs:List TypeId) (hz:(DataW.weightsEach Tryz.prog (Tryz.f4.params.toList++vs) (ds++gs)).all (·≤reachBytes)=true) (hsh:W.ShapedOpen Tryz.prog) (hL:laidMetH Tryz.prog Rows.boxToolsRow.laid W) :
  Calls Tryz.prog 4 args W fun e W'=>∃v,e=.returned v∧Rows.boxToolsSpec.post enc Tryz.prog Tryz.f4 false true false false W args v W':=by
 letI:Sel:=⟨fun n=>n == "internal/strconv.uint64pow10" || n == "internal/bytealg.MaxLen"⟩
 haveI:SelPow:=⟨rfl⟩
 haveI:SelMax:=⟨rfl⟩
 refine cJ laid (s:=Rows.boxToolsSpec) rfl (tb:=4) rfl Tryz.underlying4 (n:=10) (by kernel_rfl) hval hW (zjn hL hsh (by kernel_rfl) (by kernel_rfl) (by kernel_rfl) rfl) ?_ ?_
 ·intro h
  match ds,h with
  | [a,b,c],_=>rfl
 ·intro h hw
  match ds,h with
  | [a,b,c],_ =>
   obtain⟨x,e1⟩:=GL (hw 0 9 a rfl rfl)
   obtain⟨l,e2⟩:=zoh (hw 1 24 b rfl rfl)
   obtain⟨k,e3⟩:=zbJ (hw 2 28 c rfl rfl)
   have f1:=zDA e1 (zDJ hz 0 9 a rfl rfl)
   have f2:=zEj e2 (zDJ hz 1 24 b rfl rfl)
   have f3:=zEa e3 (zDJ hz 2 28 c rfl rfl)
   have:=zDF x l k f2.2 f3.1 f3.2 f1 f2.1
   have ep:Tryz.f4.params.toList=[9,24,28]:=rfl
   rw[ep]
   simp only[gX,e1,e2,e3,ty9,zrx,zmf]at this ⊢
   exact this

def boxTools_args:Array Value:=#[Value.string ⟨#[]⟩,Value.slice none 0 0,Value.slice none 0 0]
theorem zDB (os:Os):laidMet Tryz.prog Rows.boxToolsRow.laid ((World.laidAll Tryz.prog os Rows.boxToolsRow.laid).forCall (fun _ _=>0) ⟨#[],boxTools_args,[]⟩).memory :=
 laidMet_laidAll boxTools_args (by kernel_rfl) (by kernel_rfl)
theorem zDq (os:Os) {H:Type} (enc:TypeId × Value→H):∃x,DataW.whole enc Tryz.prog ((World.laidAll Tryz.prog os Rows.boxToolsRow.laid).forCall (fun _ _=>0) ⟨#[],boxTools_args,[]⟩).memory Tryz.f4.params.toList Rows.boxToolsSpec.vars false boxTools_args.toList 8=some x :=
 Option.isSome_iff_exists.1 (by kernel_rfl)
theorem zDj (os:Os) (started:os.Started) (H:Type) (enc:TypeId × Value→H) (F:Stop.Interp) :
  ReturnsInHanded {} Tryz.checked os 4 .any ((OpenSpec.ofChange Rows.boxToolsSpec).preRow enc Tryz.prog Tryz.f4 Rows.boxToolsRow.domain false Rows.boxToolsRow.laid) (((OpenSpec.ofChange Rows.boxToolsSpec).at F).post enc Tryz.prog Tryz.f4 false true false false):=by
 obtain⟨x,hx⟩:=zDq os enc
 refine returnsInHanded_of_row (C:=Tryz.checked) (s:=OpenSpec.ofChange Rows.boxToolsSpec) zDC started (by kernel_rfl) Tryz.func4
  (witness_row_at (enc:=enc) (C:=Tryz.checked) false (World.laidAll Tryz.prog os Rows.boxToolsRow.laid) boxTools_args (World.laidAll_os _ _ _) (by kernel_rfl) (by kernel_rfl) (by kernel_rfl)
   (OpenSpec.preRow_of_cond 8 hx rfl (fun k hk=>by cases hk) (by kernel_rfl) (zDB os))) ?_
 intro W base args ds gs before hval hW _ _ hz hL hsh _
 exact zDc H enc W base args ds gs before hval hW _ hz hsh hL
set_option maxHeartbeats 400000000 in
theorem zDm:joinedFacts Tryz.pinned.checked.prog 4 Tryz.f4 (OpenSpec.ofChange Rows.boxToolsSpec).bare Rows.boxToolsRow=true:=by
 unfold joinedFacts
 simp only[Bool.and_eq_true]
 and_intros
 all_goals (as_aux_lemma=>kernel_rfl)
theorem zDv:Rows.BoxToolsSaid :=
 OpenClaim.holds_of_cond 4 Tryz.f4 rfl rfl rfl rfl rfl rfl rfl ⟨rfl,rfl,rfl,rfl,rfl⟩ rfl rfl rfl rfl rfl (by kernel_rfl) Tryz.func4 zDm
  (of_decide_eq_true (by kernel_rfl)) (by unfold Func.isWrapper;first|(rw[if_pos (by decide +kernel)];kernel_rfl)|(rw[if_neg (by decide +kernel)];exact⟨rfl,rfl⟩))
  (fun os started H enc _ F=>by rw[OpenClaim.pre_eq_preRow];exact zDj os started H enc F)
theorem zDu (f:FuncId) (fn:Func) (hf:Tryz.pinned.checked.prog.funcNamed "bloomery/bloomerylaw21.BoxTools" = some f) (hfn:Tryz.pinned.checked.prog.funcs[f]?=some fn) :
  false=Tryz.pinned.checked.prog.looks []∧∀(j:Nat) t,fn.params[j]?=some t→Tryz.pinned.checked.prog.wantsStandIn t=false:=by
 obtain rfl:f=4:=Option.some.inj ((show Tryz.prog.funcNamed "bloomery/bloomerylaw21.BoxTools" = some 4 by kernel_rfl).symm.trans hf) |>.symm
 obtain rfl:fn=Tryz.f4:=(Option.some.inj (Tryz.func4.symm.trans hfn)).symm
 refine⟨by kernel_rfl,fun j t ht=>?_⟩
 have ep:Tryz.f4.params.toList=[9,24,28]:=rfl
 have hm:t∈Tryz.f4.params.toList:=(Array.mem_of_getElem? ht).val
 rw[ep]at hm
 have hall:[9,24,28].all (fun t=>!(Tryz.prog.wantsStandIn t))=true:=by kernel_rfl
 have:=List.all_eq_true.1 hall t hm
 exact(by simpa using this:Tryz.prog.wantsStandIn t=false)
theorem boxTools_card:Rows.BoxToolsCardSaid :=
 Claim7.holds_tied_plain_at .later [] _ _ _ _ zDv (fun _ h=>by cases h) (by kernel_rfl) (fun _ h=>by cases h) boxTools_row_tie rfl ⟨rfl,rfl⟩ (by kernel_rfl) rfl zDu (by kernel_rfl)
#print axioms boxTools_card
end Go.Proofs.YtooipdkilgpojaaGreatDoor
