/- A nil db has nothing. No condition beyond each theorem's own. -/
import Derived.Test.YthdgnfnalimcnaaGreatDoorD10
import Derived.Test.YthdgnfnalimcnaaGreatDoorE5
set_option linter.unusedSimpArgs false
set_option linter.unusedVariables false
set_option linter.unusedSectionVars false
set_option maxRecDepth 100000
/-! A nil db has nothing. -/
namespace Go.Proofs.YthdgnfnalimcnaaGreatDoor
open Go Go.Ab
open Classical
variable [Sel]
attribute [local simp] vc_skip hiLen zN capV cpyD appendZ clearV delV mdel copyVT extV ovV vc_label vc_region vc_drawn vc_seq vc_cond vc_block vc_exit vc_goto vc_ret vc_loop vc_scope vcOps_nil vcOps_cons vcPs_nil vcPs_cons vcDs_nil vcDs_cons vcD impB mkd wkOf isCallV rdOK_eq rdO_nil rdO_tmp rdO_const rdO_global rdO_func rdL_nil rdL_cons rdT_av rdT_cst rdT_pel rdT_tup rdT_junk rdT_loc St.app Op.operands Call.operands vcG_eq iteP wkOf isCallV vcOp putK_eq pureV ev co coC asI asB asS isNil nkOf derefV fieldAddrV indexAddrV indexV lowV boundsV sliceV pickV_eq unV convV convB bytesOf capOf lenV minV withSrc slice3V lookupV mapOf mfind mput scalT mapUpdV makeSliceV appendM appendN growM growOK zM binI isConst binV St.put upd KSeq_n KSeq_x KSeq_g KSeq_r KBlock_n KBlock_x KBlock_g KBlock_r KScope_n KScope_x KScope_r KRet_n KRet_r resL retTV TV.er AV.er AV.ers AV.erk AV.erks Tok.k Heap.er_nil Heap.er_cons Heap.er_app HObj.er_var HObj.er_map Heap.keys_nil Heap.keys_cons Heap.keys_app hget hset subT getP setP_nil setP_one setP_two setPo_some storeV buildV buildL partsOf capTV argOK entry St.of lk_nil lk_cons leLoc siterOf_siter gB_undef gB_av gB_cst undef isNE_tmp isSlT nslD nslDs mslOf mstrV copyV copyK unsV ustrV hdel dataV sameP mtbD isSlN slNilV vcDo_nil vcDo_cons isLt sft sftD softV rangeMV entryMV cmpV

@[simp] theorem fnok15 : fnOK Tryz.prog 15 = true := by kernel_rfl
@[simp] theorem isne15 : isNE Tryz.prog (.func 15) = false := isNE_func fnok15
@[simp] theorem fnok13 : fnOK Tryz.prog 13 = true := by kernel_rfl
@[simp] theorem isne13 : isNE Tryz.prog (.func 13) = false := isNE_func fnok13
@[simp] theorem fnok5 : fnOK Tryz.prog 5 = true := by kernel_rfl
@[simp] theorem isne5 : isNE Tryz.prog (.func 5) = false := isNE_func fnok5
theorem of_nil (k : AV) : ACalls Tryz.prog 22 [.av .ptr .nilptr, .av (tyOf Tryz.prog 30) k] [] fun r H' => r = .av (.slice 34) (.sl .no []) ∧ H' = [] := by
  refine ACalls.sub (R := fun r H' => r = .av (.slice 34) (.sl .no [])) ?_ fun r H' h _ => ⟨[], HSub.of_sub (List.nil_sublist _), h, rfl⟩
  refine ACalls.of_vc laid mixed Tryz.func22 rfl (by kernel_rfl) cf0 (by simp [Tryz.ntmps22]) fun imm0 w0 => ?_
  (simp (maxSteps := 2000000) (disch := first | omega | assumption) [i64_in, tnS, Int.toNat_add, Int.toNat_mul, List.getElem?_cons_zero, List.getElem_cons_zero, -List.reduceReplicate, Tryz.f22])
theorem drop_nil (k : AV) : ACalls Tryz.prog 15 [.av .ptr .nilptr, .av (tyOf Tryz.prog 30) k] [] fun r H' => r = .av (.int .i64) (.i .i64 0) ∧ H' = [] := by
  refine ACalls.sub (R := fun r H' => r = .av (.int .i64) (.i .i64 0)) ?_ fun r H' h _ => ⟨[], HSub.of_sub (List.nil_sublist _), h, rfl⟩
  refine ACalls.of_vc laid mixed Tryz.func15 rfl (by kernel_rfl) cf0 (by simp [Tryz.ntmps15]) fun imm0 w0 => ?_
  (simp (maxSteps := 2000000) (disch := first | omega | assumption) [i64_in, tnS, Int.toNat_add, Int.toNat_mul, List.getElem?_cons_zero, List.getElem_cons_zero, -List.reduceReplicate, Tryz.f15])
theorem keys_nil : ACalls Tryz.prog 23 [.av .ptr .nilptr] [] fun r H' => r = .av DgS (.sl .no []) ∧ H' = [] := by
  refine ACalls.sub (R := fun r H' => r = .av DgS (.sl .no [])) ?_ fun r H' h _ => ⟨[], HSub.of_sub (List.nil_sublist _), h, rfl⟩
  refine ACalls.of_vc laid mixed Tryz.func23 rfl (by kernel_rfl) cf0 (by simp [Tryz.ntmps23]) fun imm0 w0 => ?_
  (simp (maxSteps := 2000000) (disch := first | omega | assumption) [i64_in, tnS, Int.toNat_add, Int.toNat_mul, List.getElem?_cons_zero, List.getElem_cons_zero, -List.reduceReplicate, Tryz.f23])
theorem bytes_nil : ACalls Tryz.prog 13 [.av .ptr .nilptr] [] fun r H' => r = .av .str (.s []) ∧ H' = [] := by
  refine ACalls.sub (R := fun r H' => r = .av .str (.s [])) ?_ fun r H' h _ => ⟨[], HSub.of_sub (List.nil_sublist _), h, rfl⟩
  refine ACalls.of_vc laid mixed Tryz.func13 rfl (by kernel_rfl) cf0 (by simp [Tryz.ntmps13]) fun imm0 w0 => ?_
  (simp (maxSteps := 2000000) (disch := first | omega | assumption) [i64_in, tnS, Int.toNat_add, Int.toNat_mul, List.getElem?_cons_zero, List.getElem_cons_zero, -List.reduceReplicate, Tryz.f13])
set_option maxHeartbeats 4000000 in
theorem dbNone_ok (t : Trace) (ht : TrP t) :
    PC Tryz.prog 5 [.av (tyOf Tryz.prog 34) (encTrace t)] (.av .bool (.b true)) := by
  refine PC.of <| ACalls.of_vc laid mixed Tryz.func5 rfl (by kernel_rfl) cf0 (by simp [Tryz.ntmps5]) fun imm0 w0 => ?_
  (simp (maxSteps := 2000000) (disch := first | omega | assumption) [i64_in, tnS, Int.toNat_add, Int.toNat_mul, List.getElem?_cons_zero, List.getElem_cons_zero, -List.reduceReplicate])
  refine callV_pc dalive_ok rfl rfl (by simp) (by simp [argLe, TV.er, AV.er]) ?_
  (simp (maxSteps := 2000000) (disch := first | omega | assumption) [i64_in, tnS, Int.toNat_add, Int.toNat_mul, List.getElem?_cons_zero, List.getElem_cons_zero, -List.reduceReplicate])
  refine callV_pc ht.great rfl rfl (by simp) (by simp [argLe, TV.er]) ?_
  by_cases hw : wideTV t = true
  · (simp (maxSteps := 2000000) (disch := first | omega | assumption) [i64_in, tnS, Int.toNat_add, Int.toNat_mul, List.getElem?_cons_zero, List.getElem_cons_zero, -List.reduceReplicate, hw, Tryz.f5])
  (simp (maxSteps := 2000000) (disch := first | omega | assumption) [i64_in, tnS, Int.toNat_add, Int.toNat_mul, List.getElem?_cons_zero, List.getElem_cons_zero, -List.reduceReplicate, hw])
  refine callV_sub [] _ (List.Perm.refl _) rfl (by simp [argOK]) (by simp) (R := fun r H' => r = .av (.int .i64) (.i .i64 1) ∧ H' = []) ?_ ?_
  · have : ACalls Tryz.prog 11 [.cst (.pointer none), .av (tyOf Tryz.prog 34) (encTrace t)] [] _ := ACalls.args (add_nil t) (by simp [argLe, coC])
    simpa [TV.er, AV.er] using this
  rintro r' H' ⟨rfl, rfl⟩ _
  refine ⟨_, HSub.refl _, ?_⟩
  (simp (maxSteps := 2000000) (disch := first | omega | assumption) [i64_in, tnS, Int.toNat_add, Int.toNat_mul, List.getElem?_cons_zero, List.getElem_cons_zero, -List.reduceReplicate, encTrace])
  refine callV_sub [] _ (List.Perm.refl _) rfl (by simp [argOK]) (by simp) (R := fun r H' => r = .av (.slice 34) (.sl .no []) ∧ H' = []) ?_ ?_
  · have : ACalls Tryz.prog 22 [.cst (.pointer none), .av (tyOf Tryz.prog 30) (encD t.key)] [] _ := ACalls.args (of_nil (encD t.key)) (by simp [argLe, coC])
    simpa [TV.er, AV.er] using this
  rintro r' H' ⟨rfl, rfl⟩ _
  refine ⟨_, HSub.refl _, ?_⟩
  (simp (maxSteps := 2000000) (disch := first | omega | assumption) [i64_in, tnS, Int.toNat_add, Int.toNat_mul, List.getElem?_cons_zero, List.getElem_cons_zero, -List.reduceReplicate, encTrace])
  refine callV_sub [] _ (List.Perm.refl _) rfl (by simp [argOK]) (by simp) (R := fun r H' => r = .av (.int .i64) (.i .i64 0) ∧ H' = []) ?_ ?_
  · have : ACalls Tryz.prog 15 [.cst (.pointer none), .av (tyOf Tryz.prog 30) (encD t.key)] [] _ := ACalls.args (drop_nil (encD t.key)) (by simp [argLe, coC])
    simpa [TV.er, AV.er] using this
  rintro r' H' ⟨rfl, rfl⟩ _
  refine ⟨_, HSub.refl _, ?_⟩
  (simp (maxSteps := 2000000) (disch := first | omega | assumption) [i64_in, tnS, Int.toNat_add, Int.toNat_mul, List.getElem?_cons_zero, List.getElem_cons_zero, -List.reduceReplicate, encTrace])
  refine callV_sub [] _ (List.Perm.refl _) rfl (by simp [argOK]) (by simp) (R := fun r H' => r = .av DgS (.sl .no []) ∧ H' = []) ?_ ?_
  · have : ACalls Tryz.prog 23 [.cst (.pointer none)] [] _ := ACalls.args (keys_nil) (by simp [argLe, coC])
    simpa [TV.er, AV.er] using this
  rintro r' H' ⟨rfl, rfl⟩ _
  refine ⟨_, HSub.refl _, ?_⟩
  (simp (maxSteps := 2000000) (disch := first | omega | assumption) [i64_in, tnS, Int.toNat_add, Int.toNat_mul, List.getElem?_cons_zero, List.getElem_cons_zero, -List.reduceReplicate, encTrace])
  refine callV_sub [] _ (List.Perm.refl _) rfl (by simp [argOK]) (by simp) (R := fun r H' => r = .av .str (.s []) ∧ H' = []) ?_ ?_
  · have : ACalls Tryz.prog 13 [.cst (.pointer none)] [] _ := ACalls.args (bytes_nil) (by simp [argLe, coC])
    simpa [TV.er, AV.er] using this
  rintro r' H' ⟨rfl, rfl⟩ _
  refine ⟨_, HSub.refl _, ?_⟩
  (simp (maxSteps := 2000000) (disch := first | omega | assumption) [i64_in, tnS, Int.toNat_add, Int.toNat_mul, List.getElem?_cons_zero, List.getElem_cons_zero, -List.reduceReplicate, encTrace, Tryz.f5])
end Go.Proofs.YthdgnfnalimcnaaGreatDoor
