/- Numbers of texts: the document. No condition beyond each theorem's own. -/
import Derived.Test.YtmkpbigaafemnaaDoorP40
import Derived.Test.YtmkpbigaafemnaaDoorP21
set_option linter.unusedSimpArgs false
set_option linter.unusedVariables false
set_option linter.unusedSectionVars false
set_option maxRecDepth 100000
/-! Numbers of texts: the document. -/
namespace Go.Proofs.YtmkpbigaafemnaaDoor
open Go Go.Ab
open Classical
attribute [local simp] vc_skip vc_label vc_region vc_drawn vc_seq vc_cond vc_block vc_exit vc_goto vc_ret vc_loop vc_scope vcOps_nil vcOps_cons vcPs_nil vcPs_cons vcDs_nil vcDs_cons vcD impB mkd wkOf isCallV rdOK_eq rdO_nil rdO_tmp rdO_const rdO_global rdO_func rdL_nil rdL_cons rdT_av rdT_cst rdT_pel rdT_tup rdT_junk rdT_loc St.app Op.operands Call.operands vcG_eq iteP wkOf isCallV vcOp putK_eq pureV ev co coC asI asB asS isNil nkOf derefV fieldAddrV indexAddrV indexV lowV boundsV sliceV pickV_eq unV convV convB bytesOf capOf lenV minV withSrc slice3V lookupV mapOf mfind mput scalT mapUpdV makeSliceV appendM appendN growM growOK zM binI isConst binV St.put upd KSeq_n KSeq_x KSeq_g KSeq_r KBlock_n KBlock_x KBlock_g KBlock_r KScope_n KScope_x KScope_r KRet_n KRet_r resL retTV TV.er AV.er AV.ers AV.erk AV.erks Tok.k Heap.er_nil Heap.er_cons Heap.er_app HObj.er_var HObj.er_map Heap.keys_nil Heap.keys_cons Heap.keys_app hget hset subT getP setP_nil setP_one setP_two setPo_some storeV buildV buildL partsOf capTV argOK entry St.of lk_nil lk_cons leLoc siterOf_siter gB_undef gB_av gB_cst undef isNE_tmp isSlT nslD nslDs mslOf mstrV copyV copyK unsV ustrV hdel dataV sameP mtbD isSlN slNilV vcDo_nil vcDo_cons isLt sft sftD softV

@[simp] theorem fnok92 : fnOK Tryd.prog 92 = true := by kernel_rfl
@[simp] theorem isne92 : isNE Tryd.prog (.func 92) = false := isNE_func fnok92
@[simp] theorem fnok70 : fnOK Tryd.prog 70 = true := by kernel_rfl
@[simp] theorem isne70 : isNE Tryd.prog (.func 70) = false := isNE_func fnok70
theorem digit_ok (c : UInt8) : PC Tryd.prog 92 [.av (.int .u8) (.i .u8 c.toNat)] (.av .bool (.b (digB c))) := by
  refine PC.of <| ACalls.of_vc laid mixed Tryd.func92 rfl (by kernel_rfl) cf0 (by simp [Tryd.ntmps92]) fun imm0 w0 => ?_
  by_cases h1 : 48 ≤ c.toNat
  · have h1' : (48 : Int) ≤ c.toNat := by omega
    by_cases h2 : c.toNat ≤ 57
    · have h2' : (c.toNat : Int) ≤ 57 := by omega
      (simp (maxSteps := 2000000) (disch := first | omega | assumption) [i64_in, tnS, Int.toNat_add, Int.toNat_mul, List.getElem?_cons_zero, List.getElem_cons_zero, h1', h2', Tryd.f92, digB, h1, h2])
    · have h2' : ¬ (c.toNat : Int) ≤ 57 := by omega
      (simp (maxSteps := 2000000) (disch := first | omega | assumption) [i64_in, tnS, Int.toNat_add, Int.toNat_mul, List.getElem?_cons_zero, List.getElem_cons_zero, h1', h2', Tryd.f92, digB, h1, h2])
  · have h1' : ¬ (48 : Int) ≤ c.toNat := by omega
    (simp (maxSteps := 2000000) (disch := first | omega | assumption) [i64_in, tnS, Int.toNat_add, Int.toNat_mul, List.getElem?_cons_zero, List.getElem_cons_zero, h1', Tryd.f92, digB, h1])
theorem itoa_small {n : Int} (h0 : 0 ≤ n) (h1 : n < 10) : Lib.itoa n = [UInt8.ofNat (48 + n.toNat)] := by
  unfold Lib.itoa
  rw [if_neg (by omega), Lib.decDigits, dif_pos (by omega)]
theorem itoa_big {n : Int} (h : 10 ≤ n) : Lib.itoa n = Lib.itoa (n / 10) ++ Lib.itoa (n % 10) := by
  obtain ⟨u, rfl⟩ : ∃ u : Nat, n = (u : Int) := ⟨n.toNat, by omega⟩
  have e1 : ((u : Int) / 10) = ((u / 10 : Nat) : Int) := by omega
  have e2 : ((u : Int) % 10) = ((u % 10 : Nat) : Int) := by omega
  rw [e1, e2, itoa_nat, itoa_nat, itoa_nat, Lib.decDigits, dif_neg (by omega), Lib.decDigits.eq_1 (u % 10), dif_pos (by omega)]
theorem itoa_neg {n : Int} (h : n < 0) : Lib.itoa n = 45 :: Lib.itoa (-n) := by
  unfold Lib.itoa
  rw [if_pos h, if_neg (by omega)]
  congr 2; omega
theorem itoa_len (n : Int) : (Lib.itoa n).length ≤ n.natAbs + 2 := by
  unfold Lib.itoa
  split
  · have := decDigits_le n.natAbs
    simp; omega
  · have := decDigits_le n.toNat
    omega
set_option maxHeartbeats 4000000 in
theorem rnum0_ok (n : Int) (h0 : 0 ≤ n) (h1 : n < 10) : PC Tryd.prog 70 [.av (.int .i64) (.i .i64 n)] (.av .str (.s (Lib.itoa n))) := by
  refine PC.of <| ACalls.of_vc laid mixed Tryd.func70 rfl (by kernel_rfl) cf0 (by simp [Tryd.ntmps70]) fun imm0 w0 => ?_
  have e := itoa_small h0 h1
  have hw : IntKind.u8.wrap (48 + n) = 48 + n := by
    simp only [IntKind.wrap, IntKind.signed, IntKind.bits]; simp; omega
  have ht : (48 + n).toNat = 48 + n.toNat := by omega
  (simp (maxSteps := 2000000) (disch := first | omega | assumption) [i64_in, tnS, Int.toNat_add, Int.toNat_mul, List.getElem?_cons_zero, List.getElem_cons_zero, h0, h1, hw, ht, Tryd.f70, e])
set_option maxHeartbeats 4000000 in
theorem rnum_ok : ∀ (m : Nat) (n : Int), n.natAbs ≤ m → -9223372036854775808 ≤ n → n ≤ 9223372036854775807 → PC Tryd.prog 70 [.av (.int .i64) (.i .i64 n)] (.av .str (.s (Lib.itoa n))) := by
  intro m
  induction m using Nat.strongRecOn with
  | ind m ih =>
  intro n hm h0 h1
  by_cases ha : 0 ≤ n ∧ n < 10
  · exact rnum0_ok n ha.1 ha.2
  refine PC.of <| ACalls.of_vc laid mixed Tryd.func70 rfl (by kernel_rfl) cf0 (by simp [Tryd.ntmps70]) fun imm0 w0 => ?_
  by_cases hb : n < 0
  · have hnn : ¬ 0 ≤ n := by omega
    by_cases hc : -10 < n
    · have hi := itoa_neg hb
      (simp (maxSteps := 2000000) (disch := first | omega | assumption) [i64_in, tnS, Int.toNat_add, Int.toNat_mul, List.getElem?_cons_zero, List.getElem_cons_zero, hnn, hb, hc])
      refine callV_pc (rnum0_ok (-n) (by omega) (by omega)) rfl rfl (by simp) (by simp [argLe, TV.er, AV.er]) ?_
      have e := itoa_small (n := -n) (by omega) (by omega)
      (simp (maxSteps := 2000000) (disch := first | omega | assumption) [i64_in, tnS, Int.toNat_add, Int.toNat_mul, List.getElem?_cons_zero, List.getElem_cons_zero, e, Tryd.f70, hi])
    · obtain ⟨p, hp⟩ : ∃ p, p = -n := ⟨_, rfl⟩
      have hd : n.tdiv 10 = -(p / 10) := by
        have : n = -p := by omega
        rw [this, Int.neg_tdiv, Int.tdiv_eq_ediv_of_nonneg (by omega)]
      have ht : n.tmod 10 = -(p % 10) := by
        have : n = -p := by omega
        rw [this, Int.neg_tmod, Int.tmod_eq_emod_of_nonneg (by omega)]
      have hi : Lib.itoa (-(p / 10)) ++ Lib.itoa (p % 10) = Lib.itoa n := by
        rw [itoa_neg hb, itoa_neg (n := -(p / 10)) (by omega), ← hp, itoa_big (n := p) (by omega)]
        simp
      have hlen := itoa_len (-(p / 10))
      have hlen2 := itoa_len (p % 10)
      by_cases hz : p % 10 = 0
      · rw [hz] at ht hi hlen2
        (simp (maxSteps := 2000000) (disch := first | omega | assumption) [i64_in, tnS, Int.toNat_add, Int.toNat_mul, List.getElem?_cons_zero, List.getElem_cons_zero, hnn, hb, hc, ht, hd])
        refine callV_pc (ih (-(p / 10)).natAbs (by omega) (-(p / 10)) (Nat.le_refl _) (by omega) (by omega)) rfl rfl (by simp) (by simp [argLe, TV.er, AV.er]) ?_
        (simp (maxSteps := 2000000) (disch := first | omega | assumption) [i64_in, tnS, Int.toNat_add, Int.toNat_mul, List.getElem?_cons_zero, List.getElem_cons_zero])
        refine callV_pc (rnum0_ok 0 (by omega) (by omega)) rfl rfl (by simp) (by simp [argLe, TV.er, AV.er]) ?_
        (simp (maxSteps := 2000000) (disch := first | omega | assumption) [i64_in, tnS, Int.toNat_add, Int.toNat_mul, List.getElem?_cons_zero, List.getElem_cons_zero, hi, Tryd.f70])
        omega
      · have hz' : -(p % 10) < 0 := by omega
        have hz2 : 0 < p % 10 := by omega
        (simp (maxSteps := 2000000) (disch := first | omega | assumption) [i64_in, tnS, Int.toNat_add, Int.toNat_mul, List.getElem?_cons_zero, List.getElem_cons_zero, hnn, hb, hc, ht, hd, hz', hz2])
        refine callV_pc (ih (-(p / 10)).natAbs (by omega) (-(p / 10)) (Nat.le_refl _) (by omega) (by omega)) rfl rfl (by simp) (by simp [argLe, TV.er, AV.er]) ?_
        (simp (maxSteps := 2000000) (disch := first | omega | assumption) [i64_in, tnS, Int.toNat_add, Int.toNat_mul, List.getElem?_cons_zero, List.getElem_cons_zero])
        refine callV_pc (rnum0_ok (p % 10) (by omega) (by omega)) rfl rfl (by simp) (by simp [argLe, TV.er, AV.er]) ?_
        (simp (maxSteps := 2000000) (disch := first | omega | assumption) [i64_in, tnS, Int.toNat_add, Int.toNat_mul, List.getElem?_cons_zero, List.getElem_cons_zero, hi, Tryd.f70])
        omega
  · have hnn : 0 ≤ n := by omega
    have hc : ¬ n < 10 := by omega
    have hd : n.tdiv 10 = n / 10 := Int.tdiv_eq_ediv_of_nonneg hnn
    have ht : n.tmod 10 = n % 10 := Int.tmod_eq_emod_of_nonneg hnn
    have hz : ¬ n % 10 < 0 := by omega
    have hi : Lib.itoa (n / 10) ++ Lib.itoa (n % 10) = Lib.itoa n := (itoa_big (by omega)).symm
    have hlen := itoa_len (n / 10)
    have hlen2 := itoa_len (n % 10)
    (simp (maxSteps := 2000000) (disch := first | omega | assumption) [i64_in, tnS, Int.toNat_add, Int.toNat_mul, List.getElem?_cons_zero, List.getElem_cons_zero, hnn, hb, hc, hd, ht, hz])
    refine callV_pc (ih (n / 10).natAbs (by omega) (n / 10) (Nat.le_refl _) (by omega) (by omega)) rfl rfl (by simp) (by simp [argLe, TV.er, AV.er]) ?_
    (simp (maxSteps := 2000000) (disch := first | omega | assumption) [i64_in, tnS, Int.toNat_add, Int.toNat_mul, List.getElem?_cons_zero, List.getElem_cons_zero])
    refine callV_pc (rnum0_ok (n % 10) (by omega) (by omega)) rfl rfl (by simp) (by simp [argLe, TV.er, AV.er]) ?_
    (simp (maxSteps := 2000000) (disch := first | omega | assumption) [i64_in, tnS, Int.toNat_add, Int.toNat_mul, List.getElem?_cons_zero, List.getElem_cons_zero, hi, Tryd.f70])
    omega
end Go.Proofs.YtmkpbigaafemnaaDoor
