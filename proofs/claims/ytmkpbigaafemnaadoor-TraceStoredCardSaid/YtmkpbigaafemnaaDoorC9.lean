/- TraceStored: true for every input. No condition beyond each theorem's own. -/
import Derived.Test.YtmkpbigaafemnaaDoorP38
import Derived.Test.YtmkpbigaafemnaaDoorP24
set_option linter.unusedSimpArgs false
set_option linter.unusedVariables false
set_option linter.unusedSectionVars false
set_option maxRecDepth 100000
/-! TraceStored: true for every input. -/
namespace Go.Proofs.YtmkpbigaafemnaaDoor
open Go Go.Ab Go.ChangeShapes Go.WideShapes Go.ChangeAt Go.RowKit
open Classical
attribute [local simp] vc_skip vc_label vc_region vc_drawn vc_seq vc_cond vc_block vc_exit vc_goto vc_ret vc_loop vc_scope vcOps_nil vcOps_cons vcPs_nil vcPs_cons vcDs_nil vcDs_cons vcD impB mkd wkOf isCallV rdOK_eq rdO_nil rdO_tmp rdO_const rdO_global rdO_func rdL_nil rdL_cons rdT_av rdT_cst rdT_pel rdT_tup rdT_junk rdT_loc St.app Op.operands Call.operands vcG_eq iteP wkOf isCallV vcOp putK_eq pureV ev co coC asI asB asS isNil nkOf derefV fieldAddrV indexAddrV indexV lowV boundsV sliceV pickV_eq unV convV convB bytesOf capOf lenV minV withSrc slice3V lookupV mapOf mfind mput scalT mapUpdV makeSliceV appendM appendN growM growOK zM binI isConst binV St.put upd KSeq_n KSeq_x KSeq_g KSeq_r KBlock_n KBlock_x KBlock_g KBlock_r KScope_n KScope_x KScope_r KRet_n KRet_r resL retTV TV.er AV.er AV.ers AV.erk AV.erks Tok.k Heap.er_nil Heap.er_cons Heap.er_app HObj.er_var HObj.er_map Heap.keys_nil Heap.keys_cons Heap.keys_app hget hset subT getP setP_nil setP_one setP_two setPo_some storeV buildV buildL partsOf capTV argOK entry St.of lk_nil lk_cons leLoc siterOf_siter gB_undef gB_av gB_cst undef isNE_tmp isSlT nslD nslDs mslOf mstrV copyV copyK unsV ustrV hdel dataV sameP mtbD isSlN slNilV vcDo_nil vcDo_cons isLt sft sftD softV

theorem traceStored_own : ownKnob Tryd.prog.godebug = none := by kernel_rfl
theorem traceStored_contract (H : Type) (enc : TypeId × Value → H) (W : World) (base : Nat) (args : Array Value) (ds gs : List (DataW H)) (before : List MemPlace)
    (hval : ∀ (j : Nat) t v, Tryd.f9.params[j]? = some t → args[j]? = some v → Value.okWide Tryd.prog W .any base t v)
    (hW : DataW.Whole enc Tryd.prog Tryd.f9.params.toList Rows.traceStoredSpec.vars false W args.toList ds gs before) (hL : laidMetH Tryd.prog Rows.traceStoredRow.laid W) :
    Calls Tryd.prog 9 args W fun e W' => ∃ v, e = .returned v ∧ Rows.traceStoredSpec.post enc Tryd.prog Tryd.f9 false true false false W args v W' := by
  refine law_post laid (s := Rows.traceStoredSpec) rfl (tb := 4) rfl Tryd.underlying4 (n := 10) (by kernel_rfl) hval hW (tPow hL) ?_ ?_
  · intro h
    match ds, h with
    | [a, b], _ => rfl
  · intro h hw
    match ds, h with
    | [a, b], _ =>
      obtain ⟨k, e1, _⟩ := decDig (hw 0 24 a rfl rfl)
      obtain ⟨l, e2, hl, hf⟩ := decFiles (hw 1 54 b rfl rfl)
      have := traceStored_ok k l hl hf
      have ep : Tryd.f9.params.toList = [24, 54] := rfl
      rw [ep]
      simp only [argTVs, e1, e2, ty24, ty54] at this ⊢
      exact this

def traceStored_args : Array Value := #[Value.agg ((List.replicate 32 (Value.int .u8 0)).toArray), Value.slice none 0 0]
theorem traceStored_met (os : Os) : laidMet Tryd.prog Rows.traceStoredRow.laid ((World.laidAll Tryd.prog os Rows.traceStoredRow.laid).forCall (fun _ _ => 0) ⟨#[], traceStored_args, []⟩).memory :=
  laidMet_laidAll traceStored_args (by kernel_rfl) (by kernel_rfl)
theorem traceStored_reads (os : Os) {H : Type} (enc : TypeId × Value → H) : ∃ x, DataW.whole enc Tryd.prog ((World.laidAll Tryd.prog os Rows.traceStoredRow.laid).forCall (fun _ _ => 0) ⟨#[], traceStored_args, []⟩).memory Tryd.f9.params.toList Rows.traceStoredSpec.vars false traceStored_args.toList 8 = some x :=
  Option.isSome_iff_exists.1 (by kernel_rfl)
theorem traceStored_lifted (os : Os) (started : os.Started) (H : Type) (enc : TypeId × Value → H) (F : Stop.Interp) :
    ReturnsInHanded {} Tryd.checked os 9 .any ((OpenSpec.ofChange Rows.traceStoredSpec).preRow enc Tryd.prog Tryd.f9 Rows.traceStoredRow.domain false Rows.traceStoredRow.laid) (((OpenSpec.ofChange Rows.traceStoredSpec).at F).post enc Tryd.prog Tryd.f9 false true false false) := by
  obtain ⟨x, hx⟩ := traceStored_reads os enc
  refine returnsInHanded_of_row (C := Tryd.checked) (s := OpenSpec.ofChange Rows.traceStoredSpec) traceStored_own started (by kernel_rfl) Tryd.func9
    (witness_row_at (enc := enc) (C := Tryd.checked) false (World.laidAll Tryd.prog os Rows.traceStoredRow.laid) traceStored_args (World.laidAll_os _ _ _) (by kernel_rfl) (by kernel_rfl) (by kernel_rfl)
      (OpenSpec.preRow_of_cond 8 hx rfl (fun k hk => by cases hk) (by kernel_rfl) (traceStored_met os))) ?_
  intro W base args ds gs before hval hW _ _ _ hL _ _
  exact traceStored_contract H enc W base args ds gs before hval hW hL
theorem traceStored_said : Rows.TraceStoredSaid :=
  OpenClaim.holds_of_cond 9 Tryd.f9 rfl rfl rfl rfl rfl rfl rfl ⟨rfl, rfl, rfl, rfl, rfl⟩ rfl rfl rfl rfl rfl (by kernel_rfl) Tryd.func9 (by kernel_rfl)
    (of_decide_eq_true (by kernel_rfl)) (by unfold Func.isWrapper; first | (rw [if_pos (by decide +kernel)]; kernel_rfl) | (rw [if_neg (by decide +kernel)]; exact ⟨rfl, rfl⟩))
    (fun os started H enc _ F => by rw [OpenClaim.pre_eq_preRow]; exact traceStored_lifted os started H enc F)
theorem traceStored_plain (f : FuncId) (fn : Func) (hf : Tryd.pinned.checked.prog.funcNamed "bloomery/bloomerylaw23.TraceStored" = some f) (hfn : Tryd.pinned.checked.prog.funcs[f]? = some fn) :
    true = Tryd.pinned.checked.prog.looks [] ∧ ∀ (j : Nat) t, fn.params[j]? = some t → Tryd.pinned.checked.prog.wantsStandIn t = false := by
  obtain rfl : f = 9 := Option.some.inj ((show Tryd.prog.funcNamed "bloomery/bloomerylaw23.TraceStored" = some 9 by kernel_rfl).symm.trans hf) |>.symm
  obtain rfl : fn = Tryd.f9 := (Option.some.inj (Tryd.func9.symm.trans hfn)).symm
  refine ⟨by kernel_rfl, fun j t ht => ?_⟩
  have ep : Tryd.f9.params.toList = [24, 54] := rfl
  have hm : t ∈ Tryd.f9.params.toList := (Array.mem_of_getElem? ht).val
  rw [ep] at hm
  have hall : [24, 54].all (fun t => !(Tryd.prog.wantsStandIn t)) = true := by kernel_rfl
  have := List.all_eq_true.1 hall t hm
  exact (by simpa using this : Tryd.prog.wantsStandIn t = false)
theorem traceStored_card : Rows.TraceStoredCardSaid :=
  Claim7.holds_tied_plain_at .later [] _ _ _ _ traceStored_said (fun _ h => by cases h) (by kernel_rfl) (fun _ h => by cases h) traceStored_row_tie rfl ⟨rfl, rfl⟩ (by kernel_rfl) rfl traceStored_plain (by kernel_rfl)
#print axioms traceStored_card
end Go.Proofs.YtmkpbigaafemnaaDoor
