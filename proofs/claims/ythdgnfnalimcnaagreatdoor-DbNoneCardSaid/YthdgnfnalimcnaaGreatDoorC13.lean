/- DbNone: true for every input. No condition beyond each theorem's own. -/
import Derived.Test.YthdgnfnalimcnaaGreatDoorF1
import Derived.Test.YthdgnfnalimcnaaGreatDoorPB
set_option linter.unusedSimpArgs false
set_option linter.unusedVariables false
set_option linter.unusedSectionVars false
set_option maxRecDepth 100000
/-! DbNone: true for every input. -/
namespace Go.Proofs.YthdgnfnalimcnaaGreatDoor
open Go Go.Ab Go.ChangeShapes Go.WideShapes Go.ChangeAt Go.RowKit
open Classical

attribute [local simp] vc_skip hiLen zN capV cpyD appendZ clearV delV mdel copyVT extV ovV vc_label vc_region vc_drawn vc_seq vc_cond vc_block vc_exit vc_goto vc_ret vc_loop vc_scope vcOps_nil vcOps_cons vcPs_nil vcPs_cons vcDs_nil vcDs_cons vcD impB mkd wkOf isCallV rdOK_eq rdO_nil rdO_tmp rdO_const rdO_global rdO_func rdL_nil rdL_cons rdT_av rdT_cst rdT_pel rdT_tup rdT_junk rdT_loc St.app Op.operands Call.operands vcG_eq iteP wkOf isCallV vcOp putK_eq pureV ev co coC asI asB asS isNil nkOf derefV fieldAddrV indexAddrV indexV lowV boundsV sliceV pickV_eq unV convV convB bytesOf capOf lenV minV withSrc slice3V lookupV mapOf mfind mput scalT mapUpdV makeSliceV appendM appendN growM growOK zM binI isConst binV St.put upd KSeq_n KSeq_x KSeq_g KSeq_r KBlock_n KBlock_x KBlock_g KBlock_r KScope_n KScope_x KScope_r KRet_n KRet_r resL retTV TV.er AV.er AV.ers AV.erk AV.erks Tok.k Heap.er_nil Heap.er_cons Heap.er_app HObj.er_var HObj.er_map Heap.keys_nil Heap.keys_cons Heap.keys_app hget hset subT getP setP_nil setP_one setP_two setPo_some storeV buildV buildL partsOf capTV argOK entry St.of lk_nil lk_cons leLoc siterOf_siter gB_undef gB_av gB_cst undef isNE_tmp isSlT nslD nslDs mslOf mstrV copyV copyK unsV ustrV hdel dataV sameP mtbD isSlN slNilV vcDo_nil vcDo_cons isLt sft sftD softV rangeMV entryMV cmpV

theorem dbNone_own : ownKnob Tryz.prog.godebug = none := by kernel_rfl
theorem dbNone_contract (H : Type) (enc : TypeId × Value → H) (W : World) (base : Nat) (args : Array Value) (ds gs : List (DataW H)) (before : List MemPlace)
    (hval : ∀ (j : Nat) t v, Tryz.f5.params[j]? = some t → args[j]? = some v → Value.okWide Tryz.prog W .any base t v)
    (hW : DataW.Whole enc Tryz.prog Tryz.f5.params.toList Rows.dbNoneSpec.vars false W args.toList ds gs before) (hL : laidMetH Tryz.prog Rows.dbNoneRow.laid W) :
    Calls Tryz.prog 5 args W fun e W' => ∃ v, e = .returned v ∧ Rows.dbNoneSpec.post enc Tryz.prog Tryz.f5 false true false false W args v W' := by
  letI : Sel := ⟨fun _ => false⟩
  refine law_post laid (s := Rows.dbNoneSpec) rfl (tb := 4) rfl Tryz.underlying4 (n := 10) (by kernel_rfl) hval hW (TabOK.off fun _ => rfl) ?_ ?_
  · intro h
    match ds, h with
    | [a], _ => rfl
  · intro h hw
    match ds, h with
    | [a], _ =>
      obtain ⟨t, e1, ht⟩ := decTrace (hw 0 34 a rfl rfl)
      have := dbNone_ok t (okTrace_P ht)
      have ep : Tryz.f5.params.toList = [34] := rfl
      rw [ep]
      simp only [argTVs, e1, ty34] at this ⊢
      exact this

def dbNone_args : Array Value := #[Value.agg ((List.replicate 32 (Value.int .u8 0) ++ [Value.slice none 0 0, Value.slice none 0 0]).toArray)]
theorem dbNone_met (os : Os) : laidMet Tryz.prog Rows.dbNoneRow.laid ((World.laidAll Tryz.prog os Rows.dbNoneRow.laid).forCall (fun _ _ => 0) ⟨#[], dbNone_args, []⟩).memory :=
  laidMet_laidAll dbNone_args (by kernel_rfl) (by kernel_rfl)
theorem dbNone_reads (os : Os) {H : Type} (enc : TypeId × Value → H) : ∃ x, DataW.whole enc Tryz.prog ((World.laidAll Tryz.prog os Rows.dbNoneRow.laid).forCall (fun _ _ => 0) ⟨#[], dbNone_args, []⟩).memory Tryz.f5.params.toList Rows.dbNoneSpec.vars false dbNone_args.toList 8 = some x :=
  Option.isSome_iff_exists.1 (by kernel_rfl)
theorem dbNone_lifted (os : Os) (started : os.Started) (H : Type) (enc : TypeId × Value → H) (F : Stop.Interp) :
    ReturnsInHanded {} Tryz.checked os 5 .any ((OpenSpec.ofChange Rows.dbNoneSpec).preRow enc Tryz.prog Tryz.f5 Rows.dbNoneRow.domain false Rows.dbNoneRow.laid) (((OpenSpec.ofChange Rows.dbNoneSpec).at F).post enc Tryz.prog Tryz.f5 false true false false) := by
  obtain ⟨x, hx⟩ := dbNone_reads os enc
  refine returnsInHanded_of_row (C := Tryz.checked) (s := OpenSpec.ofChange Rows.dbNoneSpec) dbNone_own started (by kernel_rfl) Tryz.func5
    (witness_row_at (enc := enc) (C := Tryz.checked) false (World.laidAll Tryz.prog os Rows.dbNoneRow.laid) dbNone_args (World.laidAll_os _ _ _) (by kernel_rfl) (by kernel_rfl) (by kernel_rfl)
      (OpenSpec.preRow_of_cond 8 hx rfl (fun k hk => by cases hk) (by kernel_rfl) (dbNone_met os))) ?_
  intro W base args ds gs before hval hW _ _ _ hL _ _
  exact dbNone_contract H enc W base args ds gs before hval hW hL
theorem dbNone_said : Rows.DbNoneSaid :=
  OpenClaim.holds_of_cond 5 Tryz.f5 rfl rfl rfl rfl rfl rfl rfl ⟨rfl, rfl, rfl, rfl, rfl⟩ rfl rfl rfl rfl rfl (by kernel_rfl) Tryz.func5 (by kernel_rfl)
    (of_decide_eq_true (by kernel_rfl)) (by unfold Func.isWrapper; first | (rw [if_pos (by decide +kernel)]; kernel_rfl) | (rw [if_neg (by decide +kernel)]; exact ⟨rfl, rfl⟩))
    (fun os started H enc _ F => by rw [OpenClaim.pre_eq_preRow]; exact dbNone_lifted os started H enc F)
theorem dbNone_plain (f : FuncId) (fn : Func) (hf : Tryz.pinned.checked.prog.funcNamed "bloomery/bloomerylaw25.DbNone" = some f) (hfn : Tryz.pinned.checked.prog.funcs[f]? = some fn) :
    true = Tryz.pinned.checked.prog.looks [] ∧ ∀ (j : Nat) t, fn.params[j]? = some t → Tryz.pinned.checked.prog.wantsStandIn t = false := by
  obtain rfl : f = 5 := Option.some.inj ((show Tryz.prog.funcNamed "bloomery/bloomerylaw25.DbNone" = some 5 by kernel_rfl).symm.trans hf) |>.symm
  obtain rfl : fn = Tryz.f5 := (Option.some.inj (Tryz.func5.symm.trans hfn)).symm
  refine ⟨by kernel_rfl, fun j t ht => ?_⟩
  have ep : Tryz.f5.params.toList = [34] := rfl
  have hm : t ∈ Tryz.f5.params.toList := (Array.mem_of_getElem? ht).val
  rw [ep] at hm
  have hall : [34].all (fun t => !(Tryz.prog.wantsStandIn t)) = true := by kernel_rfl
  have := List.all_eq_true.1 hall t hm
  exact (by simpa using this : Tryz.prog.wantsStandIn t = false)
theorem dbNone_card : Rows.DbNoneCardSaid :=
  Claim7.holds_tied_plain_at .later [] _ _ _ _ dbNone_said (fun _ h => by cases h) (by kernel_rfl) (fun _ h => by cases h) dbNone_row_tie rfl ⟨rfl, rfl⟩ (by kernel_rfl) rfl dbNone_plain (by kernel_rfl)
#print axioms dbNone_card
end Go.Proofs.YthdgnfnalimcnaaGreatDoor
