/- Paths: a sign, a part. No condition beyond each theorem's own. -/
import Derived.Test.YthdgnfnalimcnaaGreatDoorL0
set_option linter.unusedSimpArgs false
set_option linter.unusedVariables false
set_option linter.unusedSectionVars false
set_option maxRecDepth 100000
/-! Paths: a sign, a part. -/
namespace Go.Proofs.YthdgnfnalimcnaaGreatDoor
open Go Go.Ab
open Classical
variable [Sel]
attribute [local simp] vc_skip hiLen zN capV cpyD appendZ clearV delV mdel copyVT extV ovV vc_label vc_region vc_drawn vc_seq vc_cond vc_block vc_exit vc_goto vc_ret vc_loop vc_scope vcOps_nil vcOps_cons vcPs_nil vcPs_cons vcDs_nil vcDs_cons vcD impB mkd wkOf isCallV rdOK_eq rdO_nil rdO_tmp rdO_const rdO_global rdO_func rdL_nil rdL_cons rdT_av rdT_cst rdT_pel rdT_tup rdT_junk rdT_loc St.app Op.operands Call.operands vcG_eq iteP wkOf isCallV vcOp putK_eq pureV ev co coC asI asB asS isNil nkOf derefV fieldAddrV indexAddrV indexV lowV boundsV sliceV pickV_eq unV convV convB bytesOf capOf lenV minV maxV withSrc slice3V lookupV mapOf mfind mput scalT mapUpdV makeSliceV appendM appendN growM growOK zM binI isConst binV St.put upd KSeq_n KSeq_x KSeq_g KSeq_r KBlock_n KBlock_x KBlock_g KBlock_r KScope_n KScope_x KScope_r KRet_n KRet_r resL retTV TV.er AV.er AV.ers AV.erk AV.erks Tok.k Heap.er_nil Heap.er_cons Heap.er_app HObj.er_var HObj.er_map Heap.keys_nil Heap.keys_cons Heap.keys_app hget hset subT getP setP_nil setP_one setP_two setPo_some storeV buildV buildL partsOf capTV argOK entry St.of lk_nil lk_cons leLoc siterOf_siter gB_undef gB_av gB_cst undef isNE_tmp isSlT nslD nslDs mslOf mstrV copyV copyK unsV ustrV hdel dataV sameP mtbD isSlN slNilV vcDo_nil vcDo_cons isLt sft sftD softV rangeMV entryMV cmpV

@[simp] theorem fnok128 : fnOK Tryz.prog 128 = true := by kernel_rfl
@[simp] theorem isne128 : isNE Tryz.prog (.func 128) = false := isNE_func fnok128
@[simp] theorem fnok127 : fnOK Tryz.prog 127 = true := by kernel_rfl
@[simp] theorem isne127 : isNE Tryz.prog (.func 127) = false := isNE_func fnok127
@[simp] theorem fnok153 : fnOK Tryz.prog 153 = true := by kernel_rfl
@[simp] theorem isne153 : isNE Tryz.prog (.func 153) = false := isNE_func fnok153
@[simp] theorem fnok146 : fnOK Tryz.prog 146 = true := by kernel_rfl
@[simp] theorem isne146 : isNE Tryz.prog (.func 146) = false := isNE_func fnok146
@[simp] theorem fnok126 : fnOK Tryz.prog 126 = true := by kernel_rfl
@[simp] theorem isne126 : isNE Tryz.prog (.func 126) = false := isNE_func fnok126
@[simp] theorem fnok102 : fnOK Tryz.prog 102 = true := by kernel_rfl
@[simp] theorem isne102 : isNE Tryz.prog (.func 102) = false := isNE_func fnok102
/-- may a part have it? (by its number) -/
def signN (n : Nat) : Bool := decide (97 ≤ n ∧ n ≤ 122 ∨ 65 ≤ n ∧ n ≤ 90 ∨ 48 ≤ n ∧ n ≤ 57 ∨ n = 95 ∨ n = 46 ∨ n = 45 ∨ n = 43)
theorem marks_index (n : Nat) (h : n < 128) : (0 ≤ Lib.indexByte [95, 46, 45, 43] (UInt8.ofNat n)) = (n = 95 ∨ n = 46 ∨ n = 45 ∨ n = 43) := by
  revert n
  decide +kernel
theorem u8_wrap {n : Nat} (h : n < 256) : IntKind.u8.wrap (n : Int) = ((UInt8.ofNat n).toNat : Int) := by
  simp [IntKind.wrap, IntKind.signed, IntKind.bits]
set_option maxHeartbeats 4000000 in
theorem sign_ok (n : Nat) (hn : n ≤ 1114111) : PC Tryz.prog 128 [.av (.int .i32) (.i .i32 n)] (.av .bool (.b (signN n))) := by
  refine PC.of <| ACalls.of_vc laid mixed Tryz.func128 rfl (by kernel_rfl) cf0 (by simp [Tryz.ntmps128]) fun imm0 w0 => ?_
  by_cases h1 : 97 ≤ n ∧ n ≤ 122
  · have h1' : (97 : Int) ≤ n := by omega
    have h2' : (n : Int) ≤ 122 := by omega
    (simp (maxSteps := 2000000) (disch := first | omega | assumption) [i64_in, tnS, Int.toNat_add, Int.toNat_mul, List.getElem?_cons_zero, List.getElem_cons_zero, h1', h2', Tryz.f128, signN, h1])
  by_cases h2 : 65 ≤ n ∧ n ≤ 90
  · have h1' : (65 : Int) ≤ n := by omega
    have h2' : (n : Int) ≤ 90 := by omega
    have h3' : ¬ (97 : Int) ≤ n := by omega
    (simp (maxSteps := 2000000) (disch := first | omega | assumption) [i64_in, tnS, Int.toNat_add, Int.toNat_mul, List.getElem?_cons_zero, List.getElem_cons_zero, h1', h2', h3', Tryz.f128, signN, h2])
  by_cases h3 : 48 ≤ n ∧ n ≤ 57
  · have h1' : (48 : Int) ≤ n := by omega
    have h2' : (n : Int) ≤ 57 := by omega
    have h3' : ¬ (97 : Int) ≤ n := by omega
    have h4' : ¬ (65 : Int) ≤ n := by omega
    (simp (maxSteps := 2000000) (disch := first | omega | assumption) [i64_in, tnS, Int.toNat_add, Int.toNat_mul, List.getElem?_cons_zero, List.getElem_cons_zero, h1', h2', h3', h4', Tryz.f128, signN, h3])
  have hsg : signN n = decide (n = 95 ∨ n = 46 ∨ n = 45 ∨ n = 43) := by unfold signN; congr 1; apply propext; omega
  rcases (by omega : 122 < n ∨ (90 < n ∧ n < 97) ∨ (57 < n ∧ n < 65) ∨ n < 48) with hc | hc | hc | hc
  · by_cases h4 : n < 128
    · have a0 : (97 : Int) ≤ n := by omega
      have b0 : ¬ (n : Int) ≤ 122 := by omega
      have a1 : (65 : Int) ≤ n := by omega
      have b1 : ¬ (n : Int) ≤ 90 := by omega
      have a2 : (48 : Int) ≤ n := by omega
      have b2 : ¬ (n : Int) ≤ 57 := by omega
      have h4' : (n : Int) < 128 := by omega
      have hu := u8_wrap (show n < 256 by omega)
      have hm := marks_index n h4
      (simp (maxSteps := 2000000) (disch := first | omega | assumption) [i64_in, tnS, Int.toNat_add, Int.toNat_mul, List.getElem?_cons_zero, List.getElem_cons_zero, a0, b0, a1, b1, a2, b2, h4', hu])
      refine callV_pc (indexByte_ok [95, 46, 45, 43] (UInt8.ofNat n)) rfl rfl (by simp) (by simp [argLe, coC, TV.er, AV.er]) ?_
      (simp (maxSteps := 2000000) (disch := first | omega | assumption) [i64_in, tnS, Int.toNat_add, Int.toNat_mul, List.getElem?_cons_zero, List.getElem_cons_zero, Tryz.f128, hsg, hm])
    · have a0 : (97 : Int) ≤ n := by omega
      have b0 : ¬ (n : Int) ≤ 122 := by omega
      have a1 : (65 : Int) ≤ n := by omega
      have b1 : ¬ (n : Int) ≤ 90 := by omega
      have a2 : (48 : Int) ≤ n := by omega
      have b2 : ¬ (n : Int) ≤ 57 := by omega
      have h4' : ¬ (n : Int) < 128 := by omega
      have h5 : ¬ (n = 95 ∨ n = 46 ∨ n = 45 ∨ n = 43) := by omega
      (simp (maxSteps := 2000000) (disch := first | omega | assumption) [i64_in, tnS, Int.toNat_add, Int.toNat_mul, List.getElem?_cons_zero, List.getElem_cons_zero, a0, b0, a1, b1, a2, b2, h4', hsg, h5, Tryz.f128])
  · by_cases h4 : n < 128
    · have a0 : ¬ (97 : Int) ≤ n := by omega
      have a1 : (65 : Int) ≤ n := by omega
      have b1 : ¬ (n : Int) ≤ 90 := by omega
      have a2 : (48 : Int) ≤ n := by omega
      have b2 : ¬ (n : Int) ≤ 57 := by omega
      have h4' : (n : Int) < 128 := by omega
      have hu := u8_wrap (show n < 256 by omega)
      have hm := marks_index n h4
      (simp (maxSteps := 2000000) (disch := first | omega | assumption) [i64_in, tnS, Int.toNat_add, Int.toNat_mul, List.getElem?_cons_zero, List.getElem_cons_zero, a0, a1, b1, a2, b2, h4', hu])
      refine callV_pc (indexByte_ok [95, 46, 45, 43] (UInt8.ofNat n)) rfl rfl (by simp) (by simp [argLe, coC, TV.er, AV.er]) ?_
      (simp (maxSteps := 2000000) (disch := first | omega | assumption) [i64_in, tnS, Int.toNat_add, Int.toNat_mul, List.getElem?_cons_zero, List.getElem_cons_zero, Tryz.f128, hsg, hm])
    · have a0 : ¬ (97 : Int) ≤ n := by omega
      have a1 : (65 : Int) ≤ n := by omega
      have b1 : ¬ (n : Int) ≤ 90 := by omega
      have a2 : (48 : Int) ≤ n := by omega
      have b2 : ¬ (n : Int) ≤ 57 := by omega
      have h4' : ¬ (n : Int) < 128 := by omega
      have h5 : ¬ (n = 95 ∨ n = 46 ∨ n = 45 ∨ n = 43) := by omega
      (simp (maxSteps := 2000000) (disch := first | omega | assumption) [i64_in, tnS, Int.toNat_add, Int.toNat_mul, List.getElem?_cons_zero, List.getElem_cons_zero, a0, a1, b1, a2, b2, h4', hsg, h5, Tryz.f128])
  · by_cases h4 : n < 128
    · have a0 : ¬ (97 : Int) ≤ n := by omega
      have a1 : ¬ (65 : Int) ≤ n := by omega
      have a2 : (48 : Int) ≤ n := by omega
      have b2 : ¬ (n : Int) ≤ 57 := by omega
      have h4' : (n : Int) < 128 := by omega
      have hu := u8_wrap (show n < 256 by omega)
      have hm := marks_index n h4
      (simp (maxSteps := 2000000) (disch := first | omega | assumption) [i64_in, tnS, Int.toNat_add, Int.toNat_mul, List.getElem?_cons_zero, List.getElem_cons_zero, a0, a1, a2, b2, h4', hu])
      refine callV_pc (indexByte_ok [95, 46, 45, 43] (UInt8.ofNat n)) rfl rfl (by simp) (by simp [argLe, coC, TV.er, AV.er]) ?_
      (simp (maxSteps := 2000000) (disch := first | omega | assumption) [i64_in, tnS, Int.toNat_add, Int.toNat_mul, List.getElem?_cons_zero, List.getElem_cons_zero, Tryz.f128, hsg, hm])
    · have a0 : ¬ (97 : Int) ≤ n := by omega
      have a1 : ¬ (65 : Int) ≤ n := by omega
      have a2 : (48 : Int) ≤ n := by omega
      have b2 : ¬ (n : Int) ≤ 57 := by omega
      have h4' : ¬ (n : Int) < 128 := by omega
      have h5 : ¬ (n = 95 ∨ n = 46 ∨ n = 45 ∨ n = 43) := by omega
      (simp (maxSteps := 2000000) (disch := first | omega | assumption) [i64_in, tnS, Int.toNat_add, Int.toNat_mul, List.getElem?_cons_zero, List.getElem_cons_zero, a0, a1, a2, b2, h4', hsg, h5, Tryz.f128])
  · by_cases h4 : n < 128
    · have a0 : ¬ (97 : Int) ≤ n := by omega
      have a1 : ¬ (65 : Int) ≤ n := by omega
      have a2 : ¬ (48 : Int) ≤ n := by omega
      have h4' : (n : Int) < 128 := by omega
      have hu := u8_wrap (show n < 256 by omega)
      have hm := marks_index n h4
      (simp (maxSteps := 2000000) (disch := first | omega | assumption) [i64_in, tnS, Int.toNat_add, Int.toNat_mul, List.getElem?_cons_zero, List.getElem_cons_zero, a0, a1, a2, h4', hu])
      refine callV_pc (indexByte_ok [95, 46, 45, 43] (UInt8.ofNat n)) rfl rfl (by simp) (by simp [argLe, coC, TV.er, AV.er]) ?_
      (simp (maxSteps := 2000000) (disch := first | omega | assumption) [i64_in, tnS, Int.toNat_add, Int.toNat_mul, List.getElem?_cons_zero, List.getElem_cons_zero, Tryz.f128, hsg, hm])
    · have a0 : ¬ (97 : Int) ≤ n := by omega
      have a1 : ¬ (65 : Int) ≤ n := by omega
      have a2 : ¬ (48 : Int) ≤ n := by omega
      have h4' : ¬ (n : Int) < 128 := by omega
      have h5 : ¬ (n = 95 ∨ n = 46 ∨ n = 45 ∨ n = 43) := by omega
      (simp (maxSteps := 2000000) (disch := first | omega | assumption) [i64_in, tnS, Int.toNat_add, Int.toNat_mul, List.getElem?_cons_zero, List.getElem_cons_zero, a0, a1, a2, h4', hsg, h5, Tryz.f128])
end Go.Proofs.YthdgnfnalimcnaaGreatDoor
