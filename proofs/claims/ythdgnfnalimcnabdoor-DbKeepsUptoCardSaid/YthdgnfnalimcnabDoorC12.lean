/- DbKeeps: true for every input of bulk at most 1048576. No condition beyond each theorem's own. -/
import Derived.Test.YthdgnfnalimcnabDoorD10
import Derived.Test.YthdgnfnalimcnabDoorPB
set_option linter.unusedSimpArgs false
set_option linter.unusedVariables false
set_option linter.unusedSectionVars false
set_option maxRecDepth 100000
/-! DbKeeps: true for every input of bulk at most 1048576. -/
namespace Go.Proofs.YthdgnfnalimcnabDoor
open Go Go.Ab Go.ChangeShapes Go.WideShapes Go.ChangeAt Go.RowKit
open Classical

attribute [local simp] vc_skip hiLen zN capV cpyD appendZ clearV delV mdel copyVT extV ovV vc_label vc_region vc_drawn vc_seq vc_cond vc_block vc_exit vc_goto vc_ret vc_loop vc_scope vcOps_nil vcOps_cons vcPs_nil vcPs_cons vcDs_nil vcDs_cons vcD impB mkd wkOf isCallV rdOK_eq rdO_nil rdO_tmp rdO_const rdO_global rdO_func rdL_nil rdL_cons rdT_av rdT_cst rdT_pel rdT_tup rdT_junk rdT_loc St.app Op.operands Call.operands vcG_eq iteP wkOf isCallV vcOp putK_eq pureV ev co coC asI asB asS isNil nkOf derefV fieldAddrV indexAddrV indexV lowV boundsV sliceV pickV_eq unV convV convB bytesOf capOf lenV minV withSrc slice3V lookupV mapOf mfind mput scalT mapUpdV makeSliceV appendM appendN growM growOK zM binI isConst binV St.put upd KSeq_n KSeq_x KSeq_g KSeq_r KBlock_n KBlock_x KBlock_g KBlock_r KScope_n KScope_x KScope_r KRet_n KRet_r resL retTV TV.er AV.er AV.ers AV.erk AV.erks Tok.k Heap.er_nil Heap.er_cons Heap.er_app HObj.er_var HObj.er_map Heap.keys_nil Heap.keys_cons Heap.keys_app hget hset subT getP setP_nil setP_one setP_two setPo_some storeV buildV buildL partsOf capTV argOK entry St.of lk_nil lk_cons leLoc siterOf_siter gB_undef gB_av gB_cst undef isNE_tmp isSlT nslD nslDs mslOf mstrV copyV copyK unsV ustrV hdel dataV sameP mtbD isSlN slNilV vcDo_nil vcDo_cons isLt sft sftD softV

theorem dbKeeps_own : ownKnob Tryd.prog.godebug = none := by kernel_rfl
theorem dbKeeps_contract (H : Type) (enc : TypeId × Value → H) (W : World) (base : Nat) (args : Array Value) (ds gs : List (DataW H)) (before : List MemPlace)
    (hval : ∀ (j : Nat) t v, Tryd.f3.params[j]? = some t → args[j]? = some v → Value.okWide Tryd.prog W .any base t v)
    (hW : DataW.Whole enc Tryd.prog Tryd.f3.params.toList Rows.dbKeepsSpec.vars false W args.toList ds gs before) (hB : Rows.uptoBulkAll ds ≤ 1048576) (hL : laidMetH Tryd.prog Rows.dbKeepsUptoRow.laid W) :
    Calls Tryd.prog 3 args W fun e W' => ∃ v, e = .returned v ∧ Rows.dbKeepsSpec.post enc Tryd.prog Tryd.f3 false true false false W args v W' := by
  letI : Sel := ⟨fun _ => false⟩
  refine law_post laid (s := Rows.dbKeepsSpec) rfl (tb := 4) rfl Tryd.underlying4 (n := 10) (by kernel_rfl) hval hW (TabOK.off fun _ => rfl) ?_ ?_
  · intro h
    match ds, h with
    | [a, b, c], _ => rfl
  · intro h hw
    match ds, h with
    | [a, b, c], _ =>
      obtain ⟨m, e1⟩ := decI' (hw 0 3 a rfl rfl)
      obtain ⟨l, e2, hl1, hl2⟩ := decTraces (hw 1 22 b rfl rfl)
      obtain ⟨o, e3, ho⟩ := decTrace (hw 2 28 c rfl rfl)
      have hb2 := bulkA_le b
      have hb3 := bulkA_le c
      rw [e2] at hb2
      rw [e3] at hb3
      have hB' : Rows.uptoBulk a + (Rows.uptoBulk b + Rows.uptoBulk c) ≤ 1048576 := by simpa [Rows.uptoBulkAll] using hB
      have := dbKeeps_ok m l o (fun x hx => okTrace_W (hl2 x hx) (bulk_traces (Nat.le_trans hb2 (by omega)) x hx)) (okTrace_W ho (by omega)) (Nat.le_trans hl1 max63)
      have ep : Tryd.f3.params.toList = [3, 22, 28] := rfl
      rw [ep]
      simp only [argTVs, e1, e2, e3, ty3, ty22, ty28] at this ⊢
      exact this

def dbKeeps_args : Array Value := #[Value.int .i64 0, Value.slice none 0 0, Value.agg ((List.replicate 32 (Value.int .u8 0) ++ [Value.slice none 0 0, Value.slice none 0 0]).toArray)]
theorem dbKeeps_met (os : Os) : laidMet Tryd.prog Rows.dbKeepsUptoRow.laid ((World.laidAll Tryd.prog os Rows.dbKeepsUptoRow.laid).forCall (fun _ _ => 0) ⟨#[], dbKeeps_args, []⟩).memory :=
  laidMet_laidAll dbKeeps_args (by kernel_rfl) (by kernel_rfl)
theorem dbKeeps_reads (os : Os) {H : Type} (enc : TypeId × Value → H) : ∃ x, DataW.whole enc Tryd.prog ((World.laidAll Tryd.prog os Rows.dbKeepsUptoRow.laid).forCall (fun _ _ => 0) ⟨#[], dbKeeps_args, []⟩).memory Tryd.f3.params.toList Rows.dbKeepsSpec.vars false dbKeeps_args.toList 8 = some x ∧ Rows.uptoSmall H (x.1 ++ x.2.1) = true := by
  have h : (match DataW.whole enc Tryd.prog ((World.laidAll Tryd.prog os Rows.dbKeepsUptoRow.laid).forCall (fun _ _ => 0) ⟨#[], dbKeeps_args, []⟩).memory Tryd.f3.params.toList Rows.dbKeepsSpec.vars false dbKeeps_args.toList 8 with | some x => Rows.uptoSmall H (x.1 ++ x.2.1) | none => false) = true := by kernel_rfl
  split at h
  · rename_i x hx; exact ⟨x, hx, h⟩
  · cases h
theorem dbKeeps_lifted (os : Os) (started : os.Started) (H : Type) (enc : TypeId × Value → H) (F : Stop.Interp) :
    ReturnsInHanded {} Tryd.checked os 3 .any ((Rows.OpenSpec.upto Rows.dbKeepsSpec).preRow enc Tryd.prog Tryd.f3 Rows.dbKeepsUptoRow.domain false Rows.dbKeepsUptoRow.laid) (((Rows.OpenSpec.upto Rows.dbKeepsSpec).at F).post enc Tryd.prog Tryd.f3 false true false false) := by
  obtain ⟨x, hx, hsm⟩ := dbKeeps_reads os enc
  refine returnsInHanded_of_row (C := Tryd.checked) (s := Rows.OpenSpec.upto Rows.dbKeepsSpec) dbKeeps_own started (by kernel_rfl) Tryd.func3
    (witness_row_at (enc := enc) (C := Tryd.checked) false (World.laidAll Tryd.prog os Rows.dbKeepsUptoRow.laid) dbKeeps_args (World.laidAll_os _ _ _) (by kernel_rfl) (by kernel_rfl) (by kernel_rfl)
      (OpenSpec.preRow_of_cond 8 hx rfl (fun k hk => by cases hk; exact hsm) (by kernel_rfl) (dbKeeps_met os))) ?_
  intro W base args ds gs before hval hW _ hcond _ hL _ _
  have hB : Rows.uptoBulkAll (ds ++ gs) ≤ 1048576 := of_decide_eq_true (hcond _ rfl)
  rw [bulk_app] at hB
  exact dbKeeps_contract H enc W base args ds gs before hval hW (by omega) hL
theorem dbKeeps_said : Rows.DbKeepsUptoSaid :=
  OpenClaim.holds_of_cond 3 Tryd.f3 rfl rfl rfl rfl rfl rfl rfl ⟨rfl, rfl, rfl, rfl, rfl⟩ rfl rfl rfl rfl rfl (by kernel_rfl) Tryd.func3 (by kernel_rfl)
    (of_decide_eq_true (by kernel_rfl)) (by unfold Func.isWrapper; first | (rw [if_pos (by decide +kernel)]; kernel_rfl) | (rw [if_neg (by decide +kernel)]; exact ⟨rfl, rfl⟩))
    (fun os started H enc _ F => by rw [OpenClaim.pre_eq_preRow]; exact dbKeeps_lifted os started H enc F)
theorem dbKeeps_plain (f : FuncId) (fn : Func) (hf : Tryd.pinned.checked.prog.funcNamed "bloomery/bloomerylaw25.DbKeeps" = some f) (hfn : Tryd.pinned.checked.prog.funcs[f]? = some fn) :
    false = Tryd.pinned.checked.prog.looks [] ∧ ∀ (j : Nat) t, fn.params[j]? = some t → Tryd.pinned.checked.prog.wantsStandIn t = false := by
  obtain rfl : f = 3 := Option.some.inj ((show Tryd.prog.funcNamed "bloomery/bloomerylaw25.DbKeeps" = some 3 by kernel_rfl).symm.trans hf) |>.symm
  obtain rfl : fn = Tryd.f3 := (Option.some.inj (Tryd.func3.symm.trans hfn)).symm
  refine ⟨by kernel_rfl, fun j t ht => ?_⟩
  have ep : Tryd.f3.params.toList = [3, 22, 28] := rfl
  have hm : t ∈ Tryd.f3.params.toList := (Array.mem_of_getElem? ht).val
  rw [ep] at hm
  have hall : [3, 22, 28].all (fun t => !(Tryd.prog.wantsStandIn t)) = true := by kernel_rfl
  have := List.all_eq_true.1 hall t hm
  exact (by simpa using this : Tryd.prog.wantsStandIn t = false)
theorem dbKeeps_card : Rows.DbKeepsUptoCardSaid :=
  Claim7.holds_tied_plain_at .later [] _ _ _ _ dbKeeps_said (fun _ h => by cases h) (by kernel_rfl) (fun _ h => by cases h) dbKeepsUpto_row_tie rfl ⟨rfl, rfl⟩ (by kernel_rfl) rfl dbKeeps_plain (by kernel_rfl)
#print axioms dbKeeps_card
end Go.Proofs.YthdgnfnalimcnabDoor
