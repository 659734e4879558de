/- Rows of texts taken apart: the program. No condition beyond each theorem's own. -/
import Derived.Test.YtmkpbigaafemnaaDoorP40
import Derived.Test.YtmkpbigaafemnaaDoorP21
set_option linter.unusedSimpArgs false
set_option linter.unusedVariables false
set_option linter.unusedSectionVars false
set_option maxRecDepth 100000
/-! Rows of texts taken apart: the program. -/
namespace Go.Proofs.YtmkpbigaafemnaaDoor
open Go Go.Ab
open Classical
attribute [local simp] vc_skip vc_label vc_region vc_drawn vc_seq vc_cond vc_block vc_exit vc_goto vc_ret vc_loop vc_scope vcOps_nil vcOps_cons vcPs_nil vcPs_cons vcDs_nil vcDs_cons vcD impB mkd wkOf isCallV rdOK_eq rdO_nil rdO_tmp rdO_const rdO_global rdO_func rdL_nil rdL_cons rdT_av rdT_cst rdT_pel rdT_tup rdT_junk rdT_loc St.app Op.operands Call.operands vcG_eq iteP wkOf isCallV vcOp putK_eq pureV ev co coC asI asB asS isNil nkOf derefV fieldAddrV indexAddrV indexV lowV boundsV sliceV pickV_eq unV convV convB bytesOf capOf lenV minV withSrc slice3V lookupV mapOf mfind mput scalT mapUpdV makeSliceV appendM appendN growM growOK zM binI isConst binV St.put upd KSeq_n KSeq_x KSeq_g KSeq_r KBlock_n KBlock_x KBlock_g KBlock_r KScope_n KScope_x KScope_r KRet_n KRet_r resL retTV TV.er AV.er AV.ers AV.erk AV.erks Tok.k Heap.er_nil Heap.er_cons Heap.er_app HObj.er_var HObj.er_map Heap.keys_nil Heap.keys_cons Heap.keys_app hget hset subT getP setP_nil setP_one setP_two setPo_some storeV buildV buildL partsOf capTV argOK entry St.of lk_nil lk_cons leLoc siterOf_siter gB_undef gB_av gB_cst undef isNE_tmp isSlT nslD nslDs mslOf mstrV copyV copyK unsV ustrV hdel dataV sameP mtbD isSlN slNilV vcDo_nil vcDo_cons isLt sft sftD softV

@[simp] theorem fnok90 : fnOK Tryd.prog 90 = true := by kernel_rfl
@[simp] theorem isne90 : isNE Tryd.prog (.func 90) = false := isNE_func fnok90
@[simp] theorem fnok61 : fnOK Tryd.prog 61 = true := by kernel_rfl
@[simp] theorem isne61 : isNE Tryd.prog (.func 61) = false := isNE_func fnok61
noncomputable def headTV : HeadR → TV
  | .ok n rest => .tup [(.int .i64, .i .i64 n), (.str, .s rest), (.int .i64, .i .i64 0)]
  | .err e => .tup [(.int .i64, .i .i64 0), (.str, .s []), (.int .i64, .i .i64 e)]
theorem u8_sub48 {c : UInt8} (h : 48 ≤ c.toNat) : IntKind.u8.wrap ((c.toNat : Int) - 48) = ((c.toNat - 48 : Nat) : Int) := by
  have := c.toNat_lt
  have e : ((c.toNat : Int) - 48) = ((c.toNat - 48 : Nat) : Int) := by omega
  rw [e]
  simp only [IntKind.wrap, IntKind.signed, IntKind.bits]
  simp; omega
set_option maxHeartbeats 8000000 in
theorem head_ok (b : List UInt8) (hb : b.length ≤ 1000000000) : PC Tryd.prog 90 [.av .str (.s b)] (headTV (headV 0 0 b)) := by
  obtain ⟨R, hR⟩ : ∃ R, headV 0 0 b = R := ⟨_, rfl⟩
  rw [hR]
  refine PC.of <| ACalls.of_vc laid mixed Tryd.func90 rfl (by kernel_rfl) cf0 (by simp [Tryd.ntmps90]) fun imm0 w0 => ?_
  (simp (maxSteps := 2000000) (disch := first | omega | assumption) [i64_in, tnS, Int.toNat_add, Int.toNat_mul, List.getElem?_cons_zero, List.getElem_cons_zero])
  refine AT.loop' (α := Nat × Nat) (fun k => St.of [(0, .av .str (.s b)), (5, .av (.int .i64) (.i .i64 k.2)), (9, .av (.int .i64) (.i .i64 b.length)), (10, .av (.int .i64) (.i .i64 k.1))] [] (fun _ => 0) [])
    (fun k => k.1 ≤ b.length ∧ headV k.1 k.2 (b.drop k.1) = R ∧ k.1 ≤ 9 ∧ k.2 < 10 ^ k.1) (fun k => b.length - k.1) (0, 0) ?_ ?_ ?_
  · refine Le.of ?_ ?_ ?_ ?_ ?_ <;> simp [leTV, locsIn, encDigs, encTraces, encWant, encTrace, encReads, encRead, encMades, encMade, ] <;> try omega
  · simp [hR]
  rintro ⟨k, n⟩ ⟨hk, hh, h9, hn⟩ KL hN hE
  simp only at hk hh h9 hn hN
  have hn9 : n < 1000000000 := Nat.lt_of_lt_of_le hn (Nat.pow_le_pow_right (by decide) h9)
  refine vc_sound (cf := cf0) laid mixed _ _ _ (by kernel_rfl) ?_
  by_cases hlt : k < b.length
  · have hlt' : (k : Int) < b.length := by omega
    have hd : b.drop k = b[k] :: b.drop (k+1) := (List.getElem_cons_drop (h := hlt)).symm
    obtain ⟨c, hc⟩ : ∃ c, b[k] = c := ⟨_, rfl⟩
    rw [hc] at hd
    have hc256 : c.toNat < 256 := c.toNat_lt
    rw [hd] at hh
    unfold headV at hh
    rcases Nat.eq_zero_or_pos k with rfl | hk0
    · have hn00 : n = 0 := by simpa using hn
      subst hn00
      have hlt0 : (0 : Int) < b.length := by omega
      by_cases h58 : c = 58
      · subst h58
        rw [if_neg (by simp), if_pos (.inl (by decide))] at hh
        (simp (maxSteps := 2000000) (disch := first | omega | assumption) [i64_in, tnS, Int.toNat_add, Int.toNat_mul, List.getElem?_cons_zero, List.getElem_cons_zero, hlt0, hlt, hc])
        refine hE _ _ (by simp) ?_
        (simp (maxSteps := 2000000) (disch := first | omega | assumption) [i64_in, tnS, Int.toNat_add, Int.toNat_mul, List.getElem?_cons_zero, List.getElem_cons_zero, Tryd.f90, ← hh, headTV])
      have h58' : ¬ (c.toNat : Int) = 58 := by have := u8_ne (n := 58) (by omega) h58; simpa using this
      rw [if_neg (by simp [h58])] at hh
      by_cases hlo : c.toNat < 48
      · have hlo' : (c.toNat : Int) < 48 := by omega
        rw [if_pos (.inl (by simp [digB]; omega))] at hh
        (simp (maxSteps := 2000000) (disch := first | omega | assumption) [i64_in, tnS, Int.toNat_add, Int.toNat_mul, List.getElem?_cons_zero, List.getElem_cons_zero, hlt0, hlt, hc, h58', hlo'])
        refine hE _ _ (by simp) ?_
        (simp (maxSteps := 2000000) (disch := first | omega | assumption) [i64_in, tnS, Int.toNat_add, Int.toNat_mul, List.getElem?_cons_zero, List.getElem_cons_zero, Tryd.f90, ← hh, headTV])
      have hlo' : ¬ (c.toNat : Int) < 48 := by omega
      by_cases hhi : 57 < c.toNat
      · have hhi' : (57 : Int) < c.toNat := by omega
        rw [if_pos (.inl (by simp [digB]; omega))] at hh
        (simp (maxSteps := 2000000) (disch := first | omega | assumption) [i64_in, tnS, Int.toNat_add, Int.toNat_mul, List.getElem?_cons_zero, List.getElem_cons_zero, hlt0, hlt, hc, h58', hlo', hhi'])
        refine hE _ _ (by simp) ?_
        (simp (maxSteps := 2000000) (disch := first | omega | assumption) [i64_in, tnS, Int.toNat_add, Int.toNat_mul, List.getElem?_cons_zero, List.getElem_cons_zero, Tryd.f90, ← hh, headTV])
      have hhi' : ¬ (57 : Int) < c.toNat := by omega
      have hsub := u8_sub48 (c := c) (by omega)
      rw [if_neg (by simp only [digB, Bool.and_eq_false_iff, decide_eq_false_iff_not]; omega)] at hh
      (simp (maxSteps := 2000000) (disch := first | omega | assumption) [i64_in, tnS, Int.toNat_add, Int.toNat_mul, List.getElem?_cons_zero, List.getElem_cons_zero, hlt0, hlt, hc, h58', hlo', hhi', hsub])
      refine hN _ (1, c.toNat - 48) ?_ ⟨by omega, by simpa using hh, by omega, by simp only [Nat.pow_one]; omega⟩ (by simp only; omega)
      refine Le.of ?_ ?_ ?_ ?_ ?_ <;> simp [leTV, locsIn, encDigs, encTraces, encWant, encTrace, encReads, encRead, encMades, encMade, ] <;> try omega
    have hk0' : (0 : Int) < k := by omega
    by_cases h58 : c = 58
    · subst h58
      rw [if_pos ⟨rfl, hk0⟩] at hh
      (simp (maxSteps := 2000000) (disch := first | omega | assumption) [i64_in, tnS, Int.toNat_add, Int.toNat_mul, List.getElem?_cons_zero, List.getElem_cons_zero, hlt', hc, hk0', hk0])
      (repeat ((with_reducible refine And.intro ?_ ?_); (· first | omega | (show barB _ _ = true; kernel_rfl) | (show rdJ _ _ _ _ _ = true; kernel_rfl) | (show tailB _ _ _ = true; kernel_rfl) | (show sftB _ _ _ = true; kernel_rfl))))
      refine hE _ _ (by simp) ?_
      (simp (maxSteps := 2000000) (disch := first | omega | assumption) [i64_in, tnS, Int.toNat_add, Int.toNat_mul, List.getElem?_cons_zero, List.getElem_cons_zero, Tryd.f90, ← hh, headTV])
    have h58' : ¬ (c.toNat : Int) = 58 := by have := u8_ne (n := 58) (by omega) h58; simpa using this
    rw [if_neg (by simp [h58])] at hh
    by_cases hlo : c.toNat < 48
    · have hlo' : (c.toNat : Int) < 48 := by omega
      rw [if_pos (.inl (by simp [digB]; omega))] at hh
      (simp (maxSteps := 2000000) (disch := first | omega | assumption) [i64_in, tnS, Int.toNat_add, Int.toNat_mul, List.getElem?_cons_zero, List.getElem_cons_zero, hlt', hc, h58', hlo'])
      refine hE _ _ (by simp) ?_
      (simp (maxSteps := 2000000) (disch := first | omega | assumption) [i64_in, tnS, Int.toNat_add, Int.toNat_mul, List.getElem?_cons_zero, List.getElem_cons_zero, Tryd.f90, ← hh, headTV])
    have hlo' : ¬ (c.toNat : Int) < 48 := by omega
    by_cases hhi : 57 < c.toNat
    · have hhi' : (57 : Int) < c.toNat := by omega
      rw [if_pos (.inl (by simp [digB]; omega))] at hh
      (simp (maxSteps := 2000000) (disch := first | omega | assumption) [i64_in, tnS, Int.toNat_add, Int.toNat_mul, List.getElem?_cons_zero, List.getElem_cons_zero, hlt', hc, h58', hlo', hhi'])
      refine hE _ _ (by simp) ?_
      (simp (maxSteps := 2000000) (disch := first | omega | assumption) [i64_in, tnS, Int.toNat_add, Int.toNat_mul, List.getElem?_cons_zero, List.getElem_cons_zero, Tryd.f90, ← hh, headTV])
    have hhi' : ¬ (57 : Int) < c.toNat := by omega
    by_cases hk9 : k = 9
    · rw [if_pos (.inr (.inl hk9))] at hh
      subst hk9
      have hlt9 : (9 : Int) < b.length := by omega
      (simp (maxSteps := 2000000) (disch := first | omega | assumption) [i64_in, tnS, Int.toNat_add, Int.toNat_mul, List.getElem?_cons_zero, List.getElem_cons_zero, hlt9, hlt, hc, h58', hlo', hhi'])
      refine hE _ _ (by simp) ?_
      (simp (maxSteps := 2000000) (disch := first | omega | assumption) [i64_in, tnS, Int.toNat_add, Int.toNat_mul, List.getElem?_cons_zero, List.getElem_cons_zero, Tryd.f90, ← hh, headTV])
    have hk9' : ¬ (k : Int) = 9 := by omega
    have hsub := u8_sub48 (c := c) (by omega)
    by_cases hn0 : n = 0
    · subst hn0
      rw [if_pos (.inr (.inr ⟨hk0, rfl⟩))] at hh
      (simp (maxSteps := 2000000) (disch := first | omega | assumption) [i64_in, tnS, Int.toNat_add, Int.toNat_mul, List.getElem?_cons_zero, List.getElem_cons_zero, hlt', hc, h58', hlo', hhi', hk9', hk0', hk0])
      refine hE _ _ (by simp) ?_
      (simp (maxSteps := 2000000) (disch := first | omega | assumption) [i64_in, tnS, Int.toNat_add, Int.toNat_mul, List.getElem?_cons_zero, List.getElem_cons_zero, Tryd.f90, ← hh, headTV])
    · have hn0' : ¬ (n : Int) = 0 := by omega
      rw [if_neg (by simp only [digB, Bool.and_eq_false_iff, decide_eq_false_iff_not]; omega)] at hh
      (simp (maxSteps := 2000000) (disch := first | omega | assumption) [i64_in, tnS, Int.toNat_add, Int.toNat_mul, List.getElem?_cons_zero, List.getElem_cons_zero, hlt', hc, h58', hlo', hhi', hk9', hk0', hk0, hn0', hn0, hsub])
      refine hN _ (k + 1, 10 * n + (c.toNat - 48)) ?_ ⟨by omega, hh, by omega, by simp only [Nat.pow_succ]; omega⟩ (by simp only; omega)
      refine Le.of ?_ ?_ ?_ ?_ ?_ <;> simp [leTV, locsIn, encDigs, encTraces, encWant, encTrace, encReads, encRead, encMades, encMade, ] <;> try omega
  · have hlt' : ¬ (k : Int) < b.length := by omega
    rw [List.drop_eq_nil_of_le (by omega)] at hh
    simp only [headV] at hh
    (simp (maxSteps := 2000000) (disch := first | omega | assumption) [i64_in, tnS, Int.toNat_add, Int.toNat_mul, List.getElem?_cons_zero, List.getElem_cons_zero, hlt'])
    refine hE _ _ (by simp) ?_
    (simp (maxSteps := 2000000) (disch := first | omega | assumption) [i64_in, tnS, Int.toNat_add, Int.toNat_mul, List.getElem?_cons_zero, List.getElem_cons_zero, Tryd.f90, ← hh, headTV])
end Go.Proofs.YtmkpbigaafemnaaDoor
