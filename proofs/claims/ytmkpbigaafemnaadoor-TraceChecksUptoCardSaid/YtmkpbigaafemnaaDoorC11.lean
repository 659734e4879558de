/- TraceChecks: true for every input of bulk at most 1048576. No condition beyond each theorem's own. -/
import Derived.Test.YtmkpbigaafemnaaDoorP52To4
import Derived.Test.YtmkpbigaafemnaaDoorP28
set_option linter.unusedSimpArgs false
set_option linter.unusedVariables false
set_option linter.unusedSectionVars false
set_option maxRecDepth 100000
/-! TraceChecks: true for every input of bulk at most 1048576. -/
namespace Go.Proofs.YtmkpbigaafemnaaDoor
open Go Go.Ab Go.ChangeShapes Go.WideShapes Go.ChangeAt Go.RowKit
open Classical
attribute [local simp] vc_skip vc_label vc_region vc_drawn vc_seq vc_cond vc_block vc_exit vc_goto vc_ret vc_loop vc_scope vcOps_nil vcOps_cons vcPs_nil vcPs_cons vcDs_nil vcDs_cons vcD impB mkd wkOf isCallV rdOK_eq rdO_nil rdO_tmp rdO_const rdO_global rdO_func rdL_nil rdL_cons rdT_av rdT_cst rdT_pel rdT_tup rdT_junk rdT_loc St.app Op.operands Call.operands vcG_eq iteP wkOf isCallV vcOp putK_eq pureV ev co coC asI asB asS isNil nkOf derefV fieldAddrV indexAddrV indexV lowV boundsV sliceV pickV_eq unV convV convB bytesOf capOf lenV minV withSrc slice3V lookupV mapOf mfind mput scalT mapUpdV makeSliceV appendM appendN growM growOK zM binI isConst binV St.put upd KSeq_n KSeq_x KSeq_g KSeq_r KBlock_n KBlock_x KBlock_g KBlock_r KScope_n KScope_x KScope_r KRet_n KRet_r resL retTV TV.er AV.er AV.ers AV.erk AV.erks Tok.k Heap.er_nil Heap.er_cons Heap.er_app HObj.er_var HObj.er_map Heap.keys_nil Heap.keys_cons Heap.keys_app hget hset subT getP setP_nil setP_one setP_two setPo_some storeV buildV buildL partsOf capTV argOK entry St.of lk_nil lk_cons leLoc siterOf_siter gB_undef gB_av gB_cst undef isNE_tmp isSlT nslD nslDs mslOf mstrV copyV copyK unsV ustrV hdel dataV sameP mtbD isSlN slNilV vcDo_nil vcDo_cons isLt sft sftD softV

theorem traceChecks_own : ownKnob Tryd.prog.godebug = none := by kernel_rfl
theorem traceChecks_contract (H : Type) (enc : TypeId × Value → H) (W : World) (base : Nat) (args : Array Value) (ds gs : List (DataW H)) (before : List MemPlace)
    (hval : ∀ (j : Nat) t v, Tryd.f11.params[j]? = some t → args[j]? = some v → Value.okWide Tryd.prog W .any base t v)
    (hW : DataW.Whole enc Tryd.prog Tryd.f11.params.toList Rows.traceChecksSpec.vars false W args.toList ds gs before) (hB : Rows.uptoBulkAll ds ≤ 1048576) (hL : laidMetH Tryd.prog Rows.traceChecksUptoRow.laid W) :
    Calls Tryd.prog 11 args W fun e W' => ∃ v, e = .returned v ∧ Rows.traceChecksSpec.post enc Tryd.prog Tryd.f11 false true false false W args v W' := by
  refine law_post laid (s := Rows.traceChecksSpec) rfl (tb := 4) rfl Tryd.underlying4 (n := 10) (by kernel_rfl) hval hW (tPow hL) ?_ ?_
  · intro h
    match ds, h with
    | [a], _ => rfl
  · intro h hw
    match ds, h with
    | [a], _ =>
      obtain ⟨t, e1, ht⟩ := decTrace (hw 0 28 a rfl rfl)
      have hb := bulkA_le a
      rw [e1] at hb
      have hB' : Rows.uptoBulk a ≤ 1048576 := by simpa [Rows.uptoBulkAll] using hB
      obtain ⟨b1, b2⟩ := bulk_trace (Nat.le_trans hb hB')
      have := traceChecks_ok t ht (fun r h => Nat.le_trans (b1 r h) (by omega)) (fun r h => Nat.le_trans (b2 r h) (by omega))
      have ep : Tryd.f11.params.toList = [28] := rfl
      rw [ep]
      simp only [argTVs, e1, ty28] at this ⊢
      exact this

def traceChecks_args : Array Value := #[Value.agg ((List.replicate 32 (Value.int .u8 0) ++ [Value.slice none 0 0, Value.slice none 0 0]).toArray)]
theorem traceChecks_met (os : Os) : laidMet Tryd.prog Rows.traceChecksUptoRow.laid ((World.laidAll Tryd.prog os Rows.traceChecksUptoRow.laid).forCall (fun _ _ => 0) ⟨#[], traceChecks_args, []⟩).memory :=
  laidMet_laidAll traceChecks_args (by kernel_rfl) (by kernel_rfl)
theorem traceChecks_reads (os : Os) {H : Type} (enc : TypeId × Value → H) : ∃ x, DataW.whole enc Tryd.prog ((World.laidAll Tryd.prog os Rows.traceChecksUptoRow.laid).forCall (fun _ _ => 0) ⟨#[], traceChecks_args, []⟩).memory Tryd.f11.params.toList Rows.traceChecksSpec.vars false traceChecks_args.toList 8 = some x ∧ Rows.uptoSmall H (x.1 ++ x.2.1) = true := by
  have h : (match DataW.whole enc Tryd.prog ((World.laidAll Tryd.prog os Rows.traceChecksUptoRow.laid).forCall (fun _ _ => 0) ⟨#[], traceChecks_args, []⟩).memory Tryd.f11.params.toList Rows.traceChecksSpec.vars false traceChecks_args.toList 8 with | some x => Rows.uptoSmall H (x.1 ++ x.2.1) | none => false) = true := by kernel_rfl
  split at h
  · rename_i x hx; exact ⟨x, hx, h⟩
  · cases h
theorem traceChecks_lifted (os : Os) (started : os.Started) (H : Type) (enc : TypeId × Value → H) (F : Stop.Interp) :
    ReturnsInHanded {} Tryd.checked os 11 .any ((Rows.OpenSpec.upto Rows.traceChecksSpec).preRow enc Tryd.prog Tryd.f11 Rows.traceChecksUptoRow.domain false Rows.traceChecksUptoRow.laid) (((Rows.OpenSpec.upto Rows.traceChecksSpec).at F).post enc Tryd.prog Tryd.f11 false true false false) := by
  obtain ⟨x, hx, hsm⟩ := traceChecks_reads os enc
  refine returnsInHanded_of_row (C := Tryd.checked) (s := Rows.OpenSpec.upto Rows.traceChecksSpec) traceChecks_own started (by kernel_rfl) Tryd.func11
    (witness_row_at (enc := enc) (C := Tryd.checked) false (World.laidAll Tryd.prog os Rows.traceChecksUptoRow.laid) traceChecks_args (World.laidAll_os _ _ _) (by kernel_rfl) (by kernel_rfl) (by kernel_rfl)
      (OpenSpec.preRow_of_cond 8 hx rfl (fun k hk => by cases hk; exact hsm) (by kernel_rfl) (traceChecks_met os))) ?_
  intro W base args ds gs before hval hW _ hcond _ hL _ _
  have hB : Rows.uptoBulkAll (ds ++ gs) ≤ 1048576 := of_decide_eq_true (hcond _ rfl)
  rw [bulk_app] at hB
  exact traceChecks_contract H enc W base args ds gs before hval hW (by omega) hL
theorem traceChecks_said : Rows.TraceChecksUptoSaid :=
  OpenClaim.holds_of_cond 11 Tryd.f11 rfl rfl rfl rfl rfl rfl rfl ⟨rfl, rfl, rfl, rfl, rfl⟩ rfl rfl rfl rfl rfl (by kernel_rfl) Tryd.func11 (by kernel_rfl)
    (of_decide_eq_true (by kernel_rfl)) (by unfold Func.isWrapper; first | (rw [if_pos (by decide +kernel)]; kernel_rfl) | (rw [if_neg (by decide +kernel)]; exact ⟨rfl, rfl⟩))
    (fun os started H enc _ F => by rw [OpenClaim.pre_eq_preRow]; exact traceChecks_lifted os started H enc F)
theorem traceChecks_plain (f : FuncId) (fn : Func) (hf : Tryd.pinned.checked.prog.funcNamed "bloomery/bloomerylaw23.TraceChecks" = some f) (hfn : Tryd.pinned.checked.prog.funcs[f]? = some fn) :
    true = Tryd.pinned.checked.prog.looks [] ∧ ∀ (j : Nat) t, fn.params[j]? = some t → Tryd.pinned.checked.prog.wantsStandIn t = false := by
  obtain rfl : f = 11 := Option.some.inj ((show Tryd.prog.funcNamed "bloomery/bloomerylaw23.TraceChecks" = some 11 by kernel_rfl).symm.trans hf) |>.symm
  obtain rfl : fn = Tryd.f11 := (Option.some.inj (Tryd.func11.symm.trans hfn)).symm
  refine ⟨by kernel_rfl, fun j t ht => ?_⟩
  have ep : Tryd.f11.params.toList = [28] := rfl
  have hm : t ∈ Tryd.f11.params.toList := (Array.mem_of_getElem? ht).val
  rw [ep] at hm
  have hall : [28].all (fun t => !(Tryd.prog.wantsStandIn t)) = true := by kernel_rfl
  have := List.all_eq_true.1 hall t hm
  exact (by simpa using this : Tryd.prog.wantsStandIn t = false)
theorem traceChecks_card : Rows.TraceChecksUptoCardSaid :=
  Claim7.holds_tied_plain_at .later [] _ _ _ _ traceChecks_said (fun _ h => by cases h) (by kernel_rfl) (fun _ h => by cases h) traceChecksUpto_row_tie rfl ⟨rfl, rfl⟩ (by kernel_rfl) rfl traceChecks_plain (by kernel_rfl)
#print axioms traceChecks_card
end Go.Proofs.YtmkpbigaafemnaaDoor
