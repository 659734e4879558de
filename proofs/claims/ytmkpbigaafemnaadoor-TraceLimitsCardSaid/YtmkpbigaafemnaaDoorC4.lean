/- TraceLimits: true for every input. No condition beyond each theorem's own. -/
import Derived.Test.YtmkpbigaafemnaaDoorP32
import Derived.Test.YtmkpbigaafemnaaDoorP24
set_option linter.unusedSimpArgs false
set_option linter.unusedVariables false
set_option linter.unusedSectionVars false
set_option maxRecDepth 100000
/-! TraceLimits: true for every input. -/
namespace Go.Proofs.YtmkpbigaafemnaaDoor
open Go Go.Ab Go.ChangeShapes Go.WideShapes Go.ChangeAt Go.RowKit
open Classical
attribute [local simp] vc_skip vc_label vc_region vc_drawn vc_seq vc_cond vc_block vc_exit vc_goto vc_ret vc_loop vc_scope vcOps_nil vcOps_cons vcPs_nil vcPs_cons vcDs_nil vcDs_cons vcD impB mkd wkOf isCallV rdOK_eq rdO_nil rdO_tmp rdO_const rdO_global rdO_func rdL_nil rdL_cons rdT_av rdT_cst rdT_pel rdT_tup rdT_junk rdT_loc St.app Op.operands Call.operands vcG_eq iteP wkOf isCallV vcOp putK_eq pureV ev co coC asI asB asS isNil nkOf derefV fieldAddrV indexAddrV indexV lowV boundsV sliceV pickV_eq unV convV convB bytesOf capOf lenV minV withSrc slice3V lookupV mapOf mfind mput scalT mapUpdV makeSliceV appendM appendN growM growOK zM binI isConst binV St.put upd KSeq_n KSeq_x KSeq_g KSeq_r KBlock_n KBlock_x KBlock_g KBlock_r KScope_n KScope_x KScope_r KRet_n KRet_r resL retTV TV.er AV.er AV.ers AV.erk AV.erks Tok.k Heap.er_nil Heap.er_cons Heap.er_app HObj.er_var HObj.er_map Heap.keys_nil Heap.keys_cons Heap.keys_app hget hset subT getP setP_nil setP_one setP_two setPo_some storeV buildV buildL partsOf capTV argOK entry St.of lk_nil lk_cons leLoc siterOf_siter gB_undef gB_av gB_cst undef isNE_tmp isSlT nslD nslDs mslOf mstrV copyV copyK unsV ustrV hdel dataV sameP mtbD

theorem traceLimits_own : ownKnob Tryd.prog.godebug = none := by kernel_rfl
theorem traceLimits_contract (H : Type) (enc : TypeId × Value → H) (W : World) (base : Nat) (args : Array Value) (ds gs : List (DataW H)) (before : List MemPlace)
    (hval : ∀ (j : Nat) t v, Tryd.f4.params[j]? = some t → args[j]? = some v → Value.okWide Tryd.prog W .any base t v)
    (hW : DataW.Whole enc Tryd.prog Tryd.f4.params.toList Rows.traceLimitsSpec.vars false W args.toList ds gs before) (hL : laidMetH Tryd.prog Rows.traceLimitsRow.laid W) :
    Calls Tryd.prog 4 args W fun e W' => ∃ v, e = .returned v ∧ Rows.traceLimitsSpec.post enc Tryd.prog Tryd.f4 false true false false W args v W' := by
  refine law_post laid (s := Rows.traceLimitsSpec) rfl (tb := 4) rfl Tryd.underlying4 (n := 10) (by kernel_rfl) hval hW (tPow hL) ?_ ?_
  · intro h
    match ds, h with
    | [a, b], _ => rfl
  · intro h hw
    match ds, h with
    | [a, b], _ =>
      obtain ⟨r, e1, hr⟩ := decU16 (hw 0 40 a rfl rfl)
      obtain ⟨o, e2, ho⟩ := decU16 (hw 1 40 b rfl rfl)
      have := traceLimits_ok r o hr ho
      have ep : Tryd.f4.params.toList = [40, 40] := rfl
      rw [ep]
      simp only [argTVs, e1, e2, ty40] at this ⊢
      exact this

def traceLimits_args : Array Value := #[Value.int .u16 0, Value.int .u16 0]
theorem traceLimits_met (os : Os) : laidMet Tryd.prog Rows.traceLimitsRow.laid ((World.laidAll Tryd.prog os Rows.traceLimitsRow.laid).forCall (fun _ _ => 0) ⟨#[], traceLimits_args, []⟩).memory :=
  laidMet_laidAll traceLimits_args (by kernel_rfl) (by kernel_rfl)
theorem traceLimits_reads (os : Os) {H : Type} (enc : TypeId × Value → H) : ∃ x, DataW.whole enc Tryd.prog ((World.laidAll Tryd.prog os Rows.traceLimitsRow.laid).forCall (fun _ _ => 0) ⟨#[], traceLimits_args, []⟩).memory Tryd.f4.params.toList Rows.traceLimitsSpec.vars false traceLimits_args.toList 8 = some x :=
  Option.isSome_iff_exists.1 (by kernel_rfl)
theorem traceLimits_lifted (os : Os) (started : os.Started) (H : Type) (enc : TypeId × Value → H) (F : Stop.Interp) :
    ReturnsInHanded {} Tryd.checked os 4 .any ((OpenSpec.ofChange Rows.traceLimitsSpec).preRow enc Tryd.prog Tryd.f4 Rows.traceLimitsRow.domain false Rows.traceLimitsRow.laid) (((OpenSpec.ofChange Rows.traceLimitsSpec).at F).post enc Tryd.prog Tryd.f4 false true false false) := by
  obtain ⟨x, hx⟩ := traceLimits_reads os enc
  refine returnsInHanded_of_row (C := Tryd.checked) (s := OpenSpec.ofChange Rows.traceLimitsSpec) traceLimits_own started (by kernel_rfl) Tryd.func4
    (witness_row_at (enc := enc) (C := Tryd.checked) false (World.laidAll Tryd.prog os Rows.traceLimitsRow.laid) traceLimits_args (World.laidAll_os _ _ _) (by kernel_rfl) (by kernel_rfl) (by kernel_rfl)
      (OpenSpec.preRow_of_cond 8 hx rfl (fun k hk => by cases hk) (by kernel_rfl) (traceLimits_met os))) ?_
  intro W base args ds gs before hval hW _ _ _ hL _ _
  exact traceLimits_contract H enc W base args ds gs before hval hW hL
theorem traceLimits_said : Rows.TraceLimitsSaid :=
  OpenClaim.holds_of_cond 4 Tryd.f4 rfl rfl rfl rfl rfl rfl rfl ⟨rfl, rfl, rfl, rfl, rfl⟩ rfl rfl rfl rfl rfl (by kernel_rfl) Tryd.func4 (by kernel_rfl)
    (of_decide_eq_true (by kernel_rfl)) (by unfold Func.isWrapper; first | (rw [if_pos (by decide +kernel)]; kernel_rfl) | (rw [if_neg (by decide +kernel)]; exact ⟨rfl, rfl⟩))
    (fun os started H enc _ F => by rw [OpenClaim.pre_eq_preRow]; exact traceLimits_lifted os started H enc F)
theorem traceLimits_plain (f : FuncId) (fn : Func) (hf : Tryd.pinned.checked.prog.funcNamed "bloomery/bloomerylaw23.TraceLimits" = some f) (hfn : Tryd.pinned.checked.prog.funcs[f]? = some fn) :
    true = Tryd.pinned.checked.prog.looks [] ∧ ∀ (j : Nat) t, fn.params[j]? = some t → Tryd.pinned.checked.prog.wantsStandIn t = false := by
  obtain rfl : f = 4 := Option.some.inj ((show Tryd.prog.funcNamed "bloomery/bloomerylaw23.TraceLimits" = some 4 by kernel_rfl).symm.trans hf) |>.symm
  obtain rfl : fn = Tryd.f4 := (Option.some.inj (Tryd.func4.symm.trans hfn)).symm
  refine ⟨by kernel_rfl, fun j t ht => ?_⟩
  have ep : Tryd.f4.params.toList = [40, 40] := rfl
  have hm : t ∈ Tryd.f4.params.toList := (Array.mem_of_getElem? ht).val
  rw [ep] at hm
  have hall : [40, 40].all (fun t => !(Tryd.prog.wantsStandIn t)) = true := by kernel_rfl
  have := List.all_eq_true.1 hall t hm
  exact (by simpa using this : Tryd.prog.wantsStandIn t = false)
theorem traceLimits_card : Rows.TraceLimitsCardSaid :=
  Claim7.holds_tied_plain_at .later [] _ _ _ _ traceLimits_said (fun _ h => by cases h) (by kernel_rfl) (fun _ h => by cases h) traceLimits_row_tie rfl ⟨rfl, rfl⟩ (by kernel_rfl) rfl traceLimits_plain (by kernel_rfl)
#print axioms traceLimits_card
end Go.Proofs.YtmkpbigaafemnaaDoor
