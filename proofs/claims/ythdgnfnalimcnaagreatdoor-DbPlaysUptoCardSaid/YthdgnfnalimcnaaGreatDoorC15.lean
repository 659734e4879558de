/- DbPlays: true for every input of bulk at most 1048576. No condition beyond each theorem's own. -/
import Derived.Test.YthdgnfnalimcnaaGreatDoorH3To
import Derived.Test.YthdgnfnalimcnaaGreatDoorPT
set_option linter.unusedSimpArgs false
set_option linter.unusedVariables false
set_option linter.unusedSectionVars false
set_option maxRecDepth 100000
/-! DbPlays: true for every input of bulk at most 1048576. -/
namespace Go.Proofs.YthdgnfnalimcnaaGreatDoor
open Go Go.Ab Go.ChangeShapes Go.WideShapes Go.ChangeAt Go.RowKit
open Classical

attribute [local simp] vc_skip hiLen zN capV cpyD appendZ clearV delV mdel copyVT extV ovV vc_label vc_region vc_drawn vc_seq vc_cond vc_block vc_exit vc_goto vc_ret vc_loop vc_scope vcOps_nil vcOps_cons vcPs_nil vcPs_cons vcDs_nil vcDs_cons vcD impB mkd wkOf isCallV rdOK_eq rdO_nil rdO_tmp rdO_const rdO_global rdO_func rdL_nil rdL_cons rdT_av rdT_cst rdT_pel rdT_tup rdT_junk rdT_loc St.app Op.operands Call.operands vcG_eq iteP wkOf isCallV vcOp putK_eq pureV ev co coC asI asB asS isNil nkOf derefV fieldAddrV indexAddrV indexV lowV boundsV sliceV pickV_eq unV convV convB bytesOf capOf lenV minV maxV withSrc slice3V lookupV mapOf mfind mput scalT mapUpdV makeSliceV appendM appendN growM growOK zM binI isConst binV St.put upd KSeq_n KSeq_x KSeq_g KSeq_r KBlock_n KBlock_x KBlock_g KBlock_r KScope_n KScope_x KScope_r KRet_n KRet_r resL retTV TV.er AV.er AV.ers AV.erk AV.erks Tok.k Heap.er_nil Heap.er_cons Heap.er_app HObj.er_var HObj.er_map Heap.keys_nil Heap.keys_cons Heap.keys_app hget hset subT getP setP_nil setP_one setP_two setPo_some storeV buildV buildL partsOf capTV argOK entry St.of lk_nil lk_cons leLoc siterOf_siter gB_undef gB_av gB_cst undef isNE_tmp isSlT nslD nslDs mslOf mstrV copyV copyK unsV ustrV hdel dataV sameP mtbD isSlN slNilV vcDo_nil vcDo_cons isLt sft sftD softV rangeMV entryMV cmpV

theorem dbPlays_own : ownKnob Tryz.prog.godebug = none := by kernel_rfl
theorem dbPlays_contract (H : Type) (enc : TypeId × Value → H) (W : World) (base : Nat) (args : Array Value) (ds gs : List (DataW H)) (before : List MemPlace)
    (hval : ∀ (j : Nat) t v, Tryz.f4.params[j]? = some t → args[j]? = some v → Value.okWide Tryz.prog W .any base t v)
    (hW : DataW.Whole enc Tryz.prog Tryz.f4.params.toList Rows.dbPlaysSpec.vars false W args.toList ds gs before) (hB : Rows.uptoBulkAll ds ≤ 1048576) (hL : laidMetH Tryz.prog Rows.dbPlaysUptoRow.laid W) :
    Calls Tryz.prog 4 args W fun e W' => ∃ v, e = .returned v ∧ Rows.dbPlaysSpec.post enc Tryz.prog Tryz.f4 false true false false W args v W' := by
  letI : Sel := ⟨fun n => n == "internal/strconv.uint64pow10"⟩
  haveI : SelPow := ⟨rfl⟩
  refine law_post laid (s := Rows.dbPlaysSpec) rfl (tb := 4) rfl Tryz.underlying4 (n := 10) (by kernel_rfl) hval hW (tPowG hL (by kernel_rfl) (by kernel_rfl) rfl) ?_ ?_
  · intro h
    match ds, h with
    | [a, b], _ => rfl
  · intro h hw
    match ds, h with
    | [a, b], _ =>
      obtain ⟨mo, e1⟩ := decI' (hw 0 3 a rfl rfl)
      obtain ⟨l, e2, hl1, hl2⟩ := decActs (hw 1 39 b rfl rfl)
      have hb2 := bulkA_le b
      rw [e2] at hb2
      have hB' : Rows.uptoBulk a + Rows.uptoBulk b ≤ 1048576 := by simpa [Rows.uptoBulkAll] using hB
      have := dbPlays_ok mo l (fun x hx => ⟨okTrace_W (hl2 x hx).1 (bulk_acts (Nat.le_trans hb2 (by omega)) x hx), okTrace_D (hl2 x hx).1, (hl2 x hx).2⟩) (Nat.le_trans hl1 max63)
      have ep : Tryz.f4.params.toList = [3, 39] := rfl
      rw [ep]
      simp only [argTVs, e1, e2, ty3, ty39] at this ⊢
      exact this

def dbPlays_args : Array Value := #[Value.int .i64 0, Value.slice none 0 0]
theorem dbPlays_met (os : Os) : laidMet Tryz.prog Rows.dbPlaysUptoRow.laid ((World.laidAll Tryz.prog os Rows.dbPlaysUptoRow.laid).forCall (fun _ _ => 0) ⟨#[], dbPlays_args, []⟩).memory :=
  laidMet_laidAll dbPlays_args (by kernel_rfl) (by kernel_rfl)
theorem dbPlays_reads (os : Os) {H : Type} (enc : TypeId × Value → H) : ∃ x, DataW.whole enc Tryz.prog ((World.laidAll Tryz.prog os Rows.dbPlaysUptoRow.laid).forCall (fun _ _ => 0) ⟨#[], dbPlays_args, []⟩).memory Tryz.f4.params.toList Rows.dbPlaysSpec.vars false dbPlays_args.toList 8 = some x ∧ Rows.uptoSmall H (x.1 ++ x.2.1) = true := by
  have h : (match DataW.whole enc Tryz.prog ((World.laidAll Tryz.prog os Rows.dbPlaysUptoRow.laid).forCall (fun _ _ => 0) ⟨#[], dbPlays_args, []⟩).memory Tryz.f4.params.toList Rows.dbPlaysSpec.vars false dbPlays_args.toList 8 with | some x => Rows.uptoSmall H (x.1 ++ x.2.1) | none => false) = true := by kernel_rfl
  split at h
  · rename_i x hx; exact ⟨x, hx, h⟩
  · cases h
theorem dbPlays_lifted (os : Os) (started : os.Started) (H : Type) (enc : TypeId × Value → H) (F : Stop.Interp) :
    ReturnsInHanded {} Tryz.checked os 4 .any ((Rows.OpenSpec.upto Rows.dbPlaysSpec).preRow enc Tryz.prog Tryz.f4 Rows.dbPlaysUptoRow.domain false Rows.dbPlaysUptoRow.laid) (((Rows.OpenSpec.upto Rows.dbPlaysSpec).at F).post enc Tryz.prog Tryz.f4 false true false false) := by
  obtain ⟨x, hx, hsm⟩ := dbPlays_reads os enc
  refine returnsInHanded_of_row (C := Tryz.checked) (s := Rows.OpenSpec.upto Rows.dbPlaysSpec) dbPlays_own started (by kernel_rfl) Tryz.func4
    (witness_row_at (enc := enc) (C := Tryz.checked) false (World.laidAll Tryz.prog os Rows.dbPlaysUptoRow.laid) dbPlays_args (World.laidAll_os _ _ _) (by kernel_rfl) (by kernel_rfl) (by kernel_rfl)
      (OpenSpec.preRow_of_cond 8 hx rfl (fun k hk => by cases hk; exact hsm) (by kernel_rfl) (dbPlays_met os))) ?_
  intro W base args ds gs before hval hW _ hcond _ hL _ _
  have hB : Rows.uptoBulkAll (ds ++ gs) ≤ 1048576 := of_decide_eq_true (hcond _ rfl)
  rw [bulk_app] at hB
  exact dbPlays_contract H enc W base args ds gs before hval hW (by omega) hL
theorem dbPlays_said : Rows.DbPlaysUptoSaid :=
  OpenClaim.holds_of_cond 4 Tryz.f4 rfl rfl rfl rfl rfl rfl rfl ⟨rfl, rfl, rfl, rfl, rfl⟩ rfl rfl rfl rfl rfl (by kernel_rfl) Tryz.func4 (by kernel_rfl)
    (of_decide_eq_true (by kernel_rfl)) (by unfold Func.isWrapper; first | (rw [if_pos (by decide +kernel)]; kernel_rfl) | (rw [if_neg (by decide +kernel)]; exact ⟨rfl, rfl⟩))
    (fun os started H enc _ F => by rw [OpenClaim.pre_eq_preRow]; exact dbPlays_lifted os started H enc F)
theorem dbPlays_plain (f : FuncId) (fn : Func) (hf : Tryz.pinned.checked.prog.funcNamed "bloomery/bloomerylaw25.DbPlays" = some f) (hfn : Tryz.pinned.checked.prog.funcs[f]? = some fn) :
    true = Tryz.pinned.checked.prog.looks [] ∧ ∀ (j : Nat) t, fn.params[j]? = some t → Tryz.pinned.checked.prog.wantsStandIn t = false := by
  obtain rfl : f = 4 := Option.some.inj ((show Tryz.prog.funcNamed "bloomery/bloomerylaw25.DbPlays" = some 4 by kernel_rfl).symm.trans hf) |>.symm
  obtain rfl : fn = Tryz.f4 := (Option.some.inj (Tryz.func4.symm.trans hfn)).symm
  refine ⟨by kernel_rfl, fun j t ht => ?_⟩
  have ep : Tryz.f4.params.toList = [3, 39] := rfl
  have hm : t ∈ Tryz.f4.params.toList := (Array.mem_of_getElem? ht).val
  rw [ep] at hm
  have hall : [3, 39].all (fun t => !(Tryz.prog.wantsStandIn t)) = true := by kernel_rfl
  have := List.all_eq_true.1 hall t hm
  exact (by simpa using this : Tryz.prog.wantsStandIn t = false)
theorem dbPlays_card : Rows.DbPlaysUptoCardSaid :=
  Claim7.holds_tied_plain_at .later [] _ _ _ _ dbPlays_said (fun _ h => by cases h) (by kernel_rfl) (fun _ h => by cases h) dbPlaysUpto_row_tie rfl ⟨rfl, rfl⟩ (by kernel_rfl) rfl dbPlays_plain (by kernel_rfl)
#print axioms dbPlays_card
end Go.Proofs.YthdgnfnalimcnaaGreatDoor
