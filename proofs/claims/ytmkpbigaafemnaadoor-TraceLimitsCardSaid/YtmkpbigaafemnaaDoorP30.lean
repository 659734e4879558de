/- The law TraceLimits: the program. No condition beyond each theorem's own. -/
import Derived.Test.YtmkpbigaafemnaaDoorP29
set_option linter.unusedSimpArgs false
set_option linter.unusedVariables false
set_option linter.unusedSectionVars false
set_option maxRecDepth 100000
/-! The law TraceLimits: the program. -/
namespace Go.Proofs.YtmkpbigaafemnaaDoor
open Go Go.Ab
open Classical
attribute [local simp] vc_skip vc_label vc_region vc_drawn vc_seq vc_cond vc_block vc_exit vc_goto vc_ret vc_loop vc_scope vcOps_nil vcOps_cons vcPs_nil vcPs_cons vcDs_nil vcDs_cons vcD impB mkd wkOf isCallV rdOK_eq rdO_nil rdO_tmp rdO_const rdO_global rdO_func rdL_nil rdL_cons rdT_av rdT_cst rdT_pel rdT_tup rdT_junk rdT_loc St.app Op.operands Call.operands vcG_eq iteP wkOf isCallV vcOp putK_eq pureV ev co coC asI asB asS isNil nkOf derefV fieldAddrV indexAddrV indexV lowV boundsV sliceV pickV_eq unV convV convB bytesOf capOf lenV minV withSrc slice3V lookupV mapOf mfind mput scalT mapUpdV makeSliceV appendM appendN growM growOK zM binI isConst binV St.put upd KSeq_n KSeq_x KSeq_g KSeq_r KBlock_n KBlock_x KBlock_g KBlock_r KScope_n KScope_x KScope_r KRet_n KRet_r resL retTV TV.er AV.er AV.ers AV.erk AV.erks Tok.k Heap.er_nil Heap.er_cons Heap.er_app HObj.er_var HObj.er_map Heap.keys_nil Heap.keys_cons Heap.keys_app hget hset subT getP setP_nil setP_one setP_two setPo_some storeV buildV buildL partsOf capTV argOK entry St.of lk_nil lk_cons leLoc siterOf_siter gB_undef gB_av gB_cst undef isNE_tmp isSlT nslD nslDs mslOf mstrV copyV copyK unsV ustrV hdel dataV sameP mtbD

@[simp] theorem fnok21 : fnOK Tryd.prog 21 = true := by kernel_rfl
@[simp] theorem isne21 : isNE Tryd.prog (.func 21) = false := isNE_func fnok21
@[simp] theorem fnok4 : fnOK Tryd.prog 4 = true := by kernel_rfl
@[simp] theorem isne4 : isNE Tryd.prog (.func 4) = false := isNE_func fnok4
theorem name_ok (n : Nat) (hn : n < 2000) : PC Tryd.prog 21 [.av (.int .i64) (.i .i64 n)] (.av .str (.s (nameV n))) := by
  refine PC.of <| ACalls.of_vc laid mixed Tryd.func21 rfl (by kernel_rfl) cf0 (by simp [Tryd.ntmps21]) fun imm0 w0 => ?_
  (simp (maxSteps := 2000000) (disch := first | omega | assumption) [i64_in, tnS, Int.toNat_add, Int.toNat_mul, List.getElem?_cons_zero, List.getElem_cons_zero])
  refine AT.loop' (α := Nat) (fun k => St.of [(0, .av (.int .i64) (.i .i64 (n / 10 ^ k : Nat))), (3, .av .str (.s ((nameV n).drop (4 - k)))), (4, .av (.int .i64) (.i .i64 k))] [] (fun _ => 0) [])
    (fun k => k ≤ 4) (fun k => 4 - k) 0 ?_ ?_ ?_
  · refine Le.of ?_ ?_ ?_ ?_ ?_ <;> simp [leTV, locsIn, encDigs, encTraces, encWant, encTrace, encReads, encRead, encMades, encMade, nameV] <;> try omega
  · simp
  rintro k hk KL hN hE
  refine vc_sound (cf := cf0) laid mixed _ _ _ (by kernel_rfl) ?_
  by_cases hlt : k < 4
  · have hlt' : (k : Int) < 4 := by omega
    obtain ⟨m, hm⟩ : ∃ m, m = n / 10 ^ k := ⟨_, rfl⟩
    have hmn : m ≤ n := by rw [hm]; exact Nat.div_le_self _ _
    rw [← hm]
    have ht : (m : Int).tmod 10 = ((m % 10 : Nat) : Int) := by
      rw [Int.tmod_eq_emod_of_nonneg (by omega)]; rfl
    have hw : IntKind.i64.wrap (48 + ((m % 10 : Nat) : Int)) = 48 + ((m % 10 : Nat) : Int) := i64_in (by omega) (by omega)
    have hby : UInt8.ofNat (IntKind.u8.wrap (48 + ((m % 10 : Nat) : Int))).toNat = UInt8.ofNat (48 + m % 10) := by
      have : IntKind.u8.wrap (48 + ((m % 10 : Nat) : Int)) = 48 + ((m % 10 : Nat) : Int) := by
        simp only [IntKind.wrap, IntKind.signed, IntKind.bits]
        simp; omega
      rw [this]
      congr 1
    have hl4 : (nameV n).length = 4 := rfl
    have hdr : (nameV n).drop (4 - (k+1)) = UInt8.ofNat (48 + m % 10) :: (nameV n).drop (4 - k) := by
      rw [hm]
      rcases (by omega : k = 0 ∨ k = 1 ∨ k = 2 ∨ k = 3) with rfl | rfl | rfl | rfl <;> simp [nameV]
    have hdr' : (nameV n).drop (3 - k) = UInt8.ofNat (IntKind.u8.wrap (48 + (m : Int) % 10)).toNat :: (nameV n).drop (4 - k) := by
      have e : ((m % 10 : Nat) : Int) = (m : Int) % 10 := by omega
      rw [show 3 - k = 4 - (k+1) by omega, hdr, ← hby, e]
    have hm10 : n / 10 ^ (k+1) = m / 10 := by rw [hm, Nat.pow_succ, Nat.div_div_eq_div_mul]
    (simp (maxSteps := 2000000) (disch := first | omega | assumption) [i64_in, tnS, Int.toNat_add, Int.toNat_mul, List.getElem?_cons_zero, List.getElem_cons_zero, hlt', ht, hw, hby, hl4])
    refine ⟨by omega, hN _ (k+1) ?_ (by omega) (by omega)⟩
    refine Le.of ?_ ?_ ?_ ?_ ?_ <;> simp [leTV, locsIn, encDigs, encTraces, encWant, encTrace, encReads, encRead, encMades, encMade, hm10, hdr'] <;> try omega
  · have hlt' : ¬ (k : Int) < 4 := by omega
    have hk4 : k = 4 := by omega
    subst hk4
    (simp (maxSteps := 2000000) (disch := first | omega | assumption) [i64_in, tnS, Int.toNat_add, Int.toNat_mul, List.getElem?_cons_zero, List.getElem_cons_zero, hlt'])
    refine hE _ _ (by simp) ?_
    (simp (maxSteps := 2000000) (disch := first | omega | assumption) [i64_in, tnS, Int.toNat_add, Int.toNat_mul, List.getElem?_cons_zero, List.getElem_cons_zero, Tryd.f21])
end Go.Proofs.YtmkpbigaafemnaaDoor
