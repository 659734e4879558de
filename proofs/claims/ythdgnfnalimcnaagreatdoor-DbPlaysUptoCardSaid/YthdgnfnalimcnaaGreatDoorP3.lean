/- A part of a path: the program's test. No condition beyond each theorem's own. -/
import Derived.Test.YthdgnfnalimcnaaGreatDoorP2
set_option linter.unusedSimpArgs false
set_option linter.unusedVariables false
set_option linter.unusedSectionVars false
set_option maxRecDepth 100000
/-! A part of a path: the program's test. -/
namespace Go.Proofs.YthdgnfnalimcnaaGreatDoor
open Go Go.Ab
open Classical
variable [Sel]
attribute [local simp] vc_skip hiLen zN capV cpyD appendZ clearV delV mdel copyVT extV ovV vc_label vc_region vc_drawn vc_seq vc_cond vc_block vc_exit vc_goto vc_ret vc_loop vc_scope vcOps_nil vcOps_cons vcPs_nil vcPs_cons vcDs_nil vcDs_cons vcD impB mkd wkOf isCallV rdOK_eq rdO_nil rdO_tmp rdO_const rdO_global rdO_func rdL_nil rdL_cons rdT_av rdT_cst rdT_pel rdT_tup rdT_junk rdT_loc St.app Op.operands Call.operands vcG_eq iteP wkOf isCallV vcOp putK_eq pureV ev co coC asI asB asS isNil nkOf derefV fieldAddrV indexAddrV indexV lowV boundsV sliceV pickV_eq unV convV convB bytesOf capOf lenV minV maxV withSrc slice3V lookupV mapOf mfind mput scalT mapUpdV makeSliceV appendM appendN growM growOK zM binI isConst binV St.put upd KSeq_n KSeq_x KSeq_g KSeq_r KBlock_n KBlock_x KBlock_g KBlock_r KScope_n KScope_x KScope_r KRet_n KRet_r resL retTV TV.er AV.er AV.ers AV.erk AV.erks Tok.k Heap.er_nil Heap.er_cons Heap.er_app HObj.er_var HObj.er_map Heap.keys_nil Heap.keys_cons Heap.keys_app hget hset subT getP setP_nil setP_one setP_two setPo_some storeV buildV buildL partsOf capTV argOK entry St.of lk_nil lk_cons leLoc siterOf_siter gB_undef gB_av gB_cst undef isNE_tmp isSlT nslD nslDs mslOf mstrV copyV copyK unsV ustrV hdel dataV sameP mtbD isSlN slNilV vcDo_nil vcDo_cons isLt sft sftD softV rangeMV entryMV cmpV

theorem sIndexFunc_ok (l : List UInt8) (hl : l.length ≤ 9223372036854775807) :
    PC Tryz.prog 146 [.av .str (.s l), .av .func (.fn 127 [])] (.av (.int .i64) (.i .i64 (badAt l))) := by
  refine PC.of <| ACalls.of_vc laid mixed Tryz.func146 rfl (by kernel_rfl) cf0 (by simp [Tryz.ntmps146]) fun imm0 w0 => ?_
  (simp (maxSteps := 2000000) (disch := first | omega | assumption) [i64_in, tnS, Int.toNat_add, Int.toNat_mul, List.getElem?_cons_zero, List.getElem_cons_zero])
  refine callV_pc (indexFunc_ok l hl) rfl rfl (by simp) (by simp [argLe, TV.er, AV.er, coC, AV.ers]) ?_
  (simp (maxSteps := 2000000) (disch := first | omega | assumption) [i64_in, tnS, Int.toNat_add, Int.toNat_mul, List.getElem?_cons_zero, List.getElem_cons_zero, Tryz.f146])
theorem containsFunc_ok (l : List UInt8) (hl : l.length ≤ 9223372036854775807) :
    PC Tryz.prog 126 [.av .str (.s l), .av .func (.fn 127 [])] (.av .bool (.b (!l.all fun b => signN b.toNat))) := by
  have hb : (0 ≤ badAt l) = ((!l.all fun b => signN b.toNat) = true) := by
    apply propext
    unfold badAt
    cases h : l.findIdx? (fun b => !signN b.toNat) with
    | none =>
      rw [List.findIdx?_eq_none_iff] at h
      simp at h ⊢
      exact h
    | some i =>
      rw [List.findIdx?_eq_some_iff_getElem] at h
      obtain ⟨hi, hp, _⟩ := h
      simp at hp ⊢
      exact ⟨_, List.getElem_mem hi, hp⟩
  refine PC.of <| ACalls.of_vc laid mixed Tryz.func126 rfl (by kernel_rfl) cf0 (by simp [Tryz.ntmps126]) fun imm0 w0 => ?_
  (simp (maxSteps := 2000000) (disch := first | omega | assumption) [i64_in, tnS, Int.toNat_add, Int.toNat_mul, List.getElem?_cons_zero, List.getElem_cons_zero])
  refine callV_pc (sIndexFunc_ok l hl) rfl rfl (by simp) (by simp [argLe, TV.er, AV.er, AV.ers]) ?_
  cases h : (!l.all fun b => signN b.toNat)
  · rw [h] at hb
    (simp (maxSteps := 2000000) (disch := first | omega | assumption) [i64_in, tnS, Int.toNat_add, Int.toNat_mul, List.getElem?_cons_zero, List.getElem_cons_zero, Tryz.f126, hb])
  · rw [h] at hb
    (simp (maxSteps := 2000000) (disch := first | omega | assumption) [i64_in, tnS, Int.toNat_add, Int.toNat_mul, List.getElem?_cons_zero, List.getElem_cons_zero, Tryz.f126, hb])
/-- is a text a part? -/
def partV (l : List UInt8) : Bool := decide (l ≠ [] ∧ l.length ≤ 64 ∧ l ≠ [46] ∧ l ≠ [46, 46]) && l.all fun b => signN b.toNat
set_option maxHeartbeats 4000000 in
theorem part_ok (l : List UInt8) (hl : l.length ≤ 9223372036854775807) : PC Tryz.prog 102 [.av .str (.s l)] (.av .bool (.b (partV l))) := by
  refine PC.of <| ACalls.of_vc laid mixed Tryz.func102 rfl (by kernel_rfl) cf0 (by simp [Tryz.ntmps102]) fun imm0 w0 => ?_
  by_cases h1 : l = []
  · (simp (maxSteps := 2000000) (disch := first | omega | assumption) [i64_in, tnS, Int.toNat_add, Int.toNat_mul, List.getElem?_cons_zero, List.getElem_cons_zero, h1, Tryz.f102, partV])
  by_cases h2 : l.length ≤ 64
  · have h2' : (l.length : Int) ≤ 64 := by omega
    by_cases h3 : l = [46]
    · (simp (maxSteps := 2000000) (disch := first | omega | assumption) [i64_in, tnS, Int.toNat_add, Int.toNat_mul, List.getElem?_cons_zero, List.getElem_cons_zero, h1, h3, Tryz.f102, partV])
    by_cases h4 : l = [46, 46]
    · (simp (maxSteps := 2000000) (disch := first | omega | assumption) [i64_in, tnS, Int.toNat_add, Int.toNat_mul, List.getElem?_cons_zero, List.getElem_cons_zero, h1, h4, Tryz.f102, partV])
    (simp (maxSteps := 2000000) (disch := first | omega | assumption) [i64_in, tnS, Int.toNat_add, Int.toNat_mul, List.getElem?_cons_zero, List.getElem_cons_zero, h1, h2', h3, h4])
    refine callV_pc (containsFunc_ok l hl) rfl rfl (by simp) (by simp [argLe, TV.er, AV.er, AV.ers]) ?_
    (simp (maxSteps := 2000000) (disch := first | omega | assumption) [i64_in, tnS, Int.toNat_add, Int.toNat_mul, List.getElem?_cons_zero, List.getElem_cons_zero, Tryz.f102, partV, h1, h2, h3, h4])
  · have h2' : ¬ (l.length : Int) ≤ 64 := by omega
    (simp (maxSteps := 2000000) (disch := first | omega | assumption) [i64_in, tnS, Int.toNat_add, Int.toNat_mul, List.getElem?_cons_zero, List.getElem_cons_zero, h1, h2', Tryz.f102, partV, h2])
end Go.Proofs.YthdgnfnalimcnaaGreatDoor
