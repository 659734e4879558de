/- TraceWalks: true for every input of bulk at most 1048576. No condition beyond each theorem's own. -/
import Derived.Test.YtmkpbigaafemnaaDoorP27
import Derived.Test.YtmkpbigaafemnaaDoorP28
set_option linter.unusedSimpArgs false
set_option linter.unusedVariables false
set_option linter.unusedSectionVars false
set_option maxRecDepth 100000
/-! TraceWalks: true for every input of bulk at most 1048576. -/
namespace Go.Proofs.YtmkpbigaafemnaaDoor
open Go Go.Ab Go.ChangeShapes Go.WideShapes Go.ChangeAt Go.RowKit
open Classical
attribute [local simp] vc_skip vc_label vc_region vc_drawn vc_seq vc_cond vc_block vc_exit vc_goto vc_ret vc_loop vc_scope vcOps_nil vcOps_cons vcPs_nil vcPs_cons vcDs_nil vcDs_cons vcD impB mkd wkOf isCallV rdOK_eq rdO_nil rdO_tmp rdO_const rdO_global rdO_func rdL_nil rdL_cons rdT_av rdT_cst rdT_pel rdT_tup rdT_junk rdT_loc St.app Op.operands Call.operands vcG_eq iteP wkOf isCallV vcOp putK_eq pureV ev co coC asI asB asS isNil nkOf derefV fieldAddrV indexAddrV indexV lowV boundsV sliceV pickV_eq unV convV convB bytesOf capOf lenV minV withSrc slice3V lookupV mapOf mfind mput scalT mapUpdV makeSliceV appendM appendN growM growOK zM binI isConst binV St.put upd KSeq_n KSeq_x KSeq_g KSeq_r KBlock_n KBlock_x KBlock_g KBlock_r KScope_n KScope_x KScope_r KRet_n KRet_r resL retTV TV.er AV.er AV.ers AV.erk AV.erks Tok.k Heap.er_nil Heap.er_cons Heap.er_app HObj.er_var HObj.er_map Heap.keys_nil Heap.keys_cons Heap.keys_app hget hset subT getP setP_nil setP_one setP_two setPo_some storeV buildV buildL partsOf capTV argOK entry St.of lk_nil lk_cons leLoc siterOf_siter gB_undef gB_av gB_cst undef isNE_tmp isSlT nslD nslDs mslOf mstrV copyV copyK unsV ustrV hdel dataV sameP mtbD

theorem traceWalks_own : ownKnob Tryd.prog.godebug = none := by kernel_rfl
theorem traceWalks_contract (H : Type) (enc : TypeId × Value → H) (W : World) (base : Nat) (args : Array Value) (ds gs : List (DataW H)) (before : List MemPlace)
    (hval : ∀ (j : Nat) t v, Tryd.f6.params[j]? = some t → args[j]? = some v → Value.okWide Tryd.prog W .any base t v)
    (hW : DataW.Whole enc Tryd.prog Tryd.f6.params.toList Rows.traceWalksSpec.vars false W args.toList ds gs before) (hB : Rows.uptoBulkAll ds ≤ 1048576) (hL : laidMetH Tryd.prog Rows.traceWalksUptoRow.laid W) :
    Calls Tryd.prog 6 args W fun e W' => ∃ v, e = .returned v ∧ Rows.traceWalksSpec.post enc Tryd.prog Tryd.f6 false true false false W args v W' := by
  refine law_post laid (s := Rows.traceWalksSpec) rfl (tb := 4) rfl Tryd.underlying4 (n := 10) (by kernel_rfl) hval hW (tPow hL) ?_ ?_
  · intro h
    match ds, h with
    | [a], _ => rfl
  · intro h hw
    match ds, h with
    | [a], _ =>
      obtain ⟨t, e1, ht⟩ := decTrace (hw 0 28 a rfl rfl)
      have hb := bulkA_le a
      rw [e1] at hb
      have hB' : Rows.uptoBulk a ≤ 1048576 := by simpa [Rows.uptoBulkAll] using hB
      obtain ⟨b1, b2⟩ := bulk_trace (Nat.le_trans hb hB')
      have := traceWalks_ok t ht (fun r h => Nat.le_trans (b1 r h) (by omega)) (fun r h => Nat.le_trans (b2 r h) (by omega))
      have ep : Tryd.f6.params.toList = [28] := rfl
      rw [ep]
      simp only [argTVs, e1, ty28] at this ⊢
      exact this

def traceWalks_args : Array Value := #[Value.agg ((List.replicate 32 (Value.int .u8 0) ++ [Value.slice none 0 0, Value.slice none 0 0]).toArray)]
theorem traceWalks_met (os : Os) : laidMet Tryd.prog Rows.traceWalksUptoRow.laid ((World.laidAll Tryd.prog os Rows.traceWalksUptoRow.laid).forCall (fun _ _ => 0) ⟨#[], traceWalks_args, []⟩).memory :=
  laidMet_laidAll traceWalks_args (by kernel_rfl) (by kernel_rfl)
theorem traceWalks_reads (os : Os) {H : Type} (enc : TypeId × Value → H) : ∃ x, DataW.whole enc Tryd.prog ((World.laidAll Tryd.prog os Rows.traceWalksUptoRow.laid).forCall (fun _ _ => 0) ⟨#[], traceWalks_args, []⟩).memory Tryd.f6.params.toList Rows.traceWalksSpec.vars false traceWalks_args.toList 8 = some x ∧ Rows.uptoSmall H (x.1 ++ x.2.1) = true := by
  have h : (match DataW.whole enc Tryd.prog ((World.laidAll Tryd.prog os Rows.traceWalksUptoRow.laid).forCall (fun _ _ => 0) ⟨#[], traceWalks_args, []⟩).memory Tryd.f6.params.toList Rows.traceWalksSpec.vars false traceWalks_args.toList 8 with | some x => Rows.uptoSmall H (x.1 ++ x.2.1) | none => false) = true := by kernel_rfl
  split at h
  · rename_i x hx; exact ⟨x, hx, h⟩
  · cases h
theorem traceWalks_lifted (os : Os) (started : os.Started) (H : Type) (enc : TypeId × Value → H) (F : Stop.Interp) :
    ReturnsInHanded {} Tryd.checked os 6 .any ((Rows.OpenSpec.upto Rows.traceWalksSpec).preRow enc Tryd.prog Tryd.f6 Rows.traceWalksUptoRow.domain false Rows.traceWalksUptoRow.laid) (((Rows.OpenSpec.upto Rows.traceWalksSpec).at F).post enc Tryd.prog Tryd.f6 false true false false) := by
  obtain ⟨x, hx, hsm⟩ := traceWalks_reads os enc
  refine returnsInHanded_of_row (C := Tryd.checked) (s := Rows.OpenSpec.upto Rows.traceWalksSpec) traceWalks_own started (by kernel_rfl) Tryd.func6
    (witness_row_at (enc := enc) (C := Tryd.checked) false (World.laidAll Tryd.prog os Rows.traceWalksUptoRow.laid) traceWalks_args (World.laidAll_os _ _ _) (by kernel_rfl) (by kernel_rfl) (by kernel_rfl)
      (OpenSpec.preRow_of_cond 8 hx rfl (fun k hk => by cases hk; exact hsm) (by kernel_rfl) (traceWalks_met os))) ?_
  intro W base args ds gs before hval hW _ hcond _ hL _ _
  have hB : Rows.uptoBulkAll (ds ++ gs) ≤ 1048576 := of_decide_eq_true (hcond _ rfl)
  rw [bulk_app] at hB
  exact traceWalks_contract H enc W base args ds gs before hval hW (by omega) hL
theorem traceWalks_said : Rows.TraceWalksUptoSaid :=
  OpenClaim.holds_of_cond 6 Tryd.f6 rfl rfl rfl rfl rfl rfl rfl ⟨rfl, rfl, rfl, rfl, rfl⟩ rfl rfl rfl rfl rfl (by kernel_rfl) Tryd.func6 (by kernel_rfl)
    (of_decide_eq_true (by kernel_rfl)) (by unfold Func.isWrapper; first | (rw [if_pos (by decide +kernel)]; kernel_rfl) | (rw [if_neg (by decide +kernel)]; exact ⟨rfl, rfl⟩))
    (fun os started H enc _ F => by rw [OpenClaim.pre_eq_preRow]; exact traceWalks_lifted os started H enc F)
theorem traceWalks_plain (f : FuncId) (fn : Func) (hf : Tryd.pinned.checked.prog.funcNamed "bloomery/bloomerylaw23.TraceWalks" = some f) (hfn : Tryd.pinned.checked.prog.funcs[f]? = some fn) :
    true = Tryd.pinned.checked.prog.looks [] ∧ ∀ (j : Nat) t, fn.params[j]? = some t → Tryd.pinned.checked.prog.wantsStandIn t = false := by
  obtain rfl : f = 6 := Option.some.inj ((show Tryd.prog.funcNamed "bloomery/bloomerylaw23.TraceWalks" = some 6 by kernel_rfl).symm.trans hf) |>.symm
  obtain rfl : fn = Tryd.f6 := (Option.some.inj (Tryd.func6.symm.trans hfn)).symm
  refine ⟨by kernel_rfl, fun j t ht => ?_⟩
  have ep : Tryd.f6.params.toList = [28] := rfl
  have hm : t ∈ Tryd.f6.params.toList := (Array.mem_of_getElem? ht).val
  rw [ep] at hm
  have hall : [28].all (fun t => !(Tryd.prog.wantsStandIn t)) = true := by kernel_rfl
  have := List.all_eq_true.1 hall t hm
  exact (by simpa using this : Tryd.prog.wantsStandIn t = false)
theorem traceWalks_card : Rows.TraceWalksUptoCardSaid :=
  Claim7.holds_tied_plain_at .later [] _ _ _ _ traceWalks_said (fun _ h => by cases h) (by kernel_rfl) (fun _ h => by cases h) traceWalksUpto_row_tie rfl ⟨rfl, rfl⟩ (by kernel_rfl) rfl traceWalks_plain (by kernel_rfl)
#print axioms traceWalks_card
end Go.Proofs.YtmkpbigaafemnaaDoor
