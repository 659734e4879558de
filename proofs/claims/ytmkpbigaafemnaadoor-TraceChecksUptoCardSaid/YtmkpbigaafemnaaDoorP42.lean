/- Rows of texts taken apart: the program, all of a row. No condition beyond each theorem's own. -/
import Derived.Test.YtmkpbigaafemnaaDoorP41
set_option linter.unusedSimpArgs false
set_option linter.unusedVariables false
set_option linter.unusedSectionVars false
set_option maxRecDepth 100000
/-! Rows of texts taken apart: the program, all of a row. -/
namespace Go.Proofs.YtmkpbigaafemnaaDoor
open Go Go.Ab
open Classical
attribute [local simp] vc_skip vc_label vc_region vc_drawn vc_seq vc_cond vc_block vc_exit vc_goto vc_ret vc_loop vc_scope vcOps_nil vcOps_cons vcPs_nil vcPs_cons vcDs_nil vcDs_cons vcD impB mkd wkOf isCallV rdOK_eq rdO_nil rdO_tmp rdO_const rdO_global rdO_func rdL_nil rdL_cons rdT_av rdT_cst rdT_pel rdT_tup rdT_junk rdT_loc St.app Op.operands Call.operands vcG_eq iteP wkOf isCallV vcOp putK_eq pureV ev co coC asI asB asS isNil nkOf derefV fieldAddrV indexAddrV indexV lowV boundsV sliceV pickV_eq unV convV convB bytesOf capOf lenV minV withSrc slice3V lookupV mapOf mfind mput scalT mapUpdV makeSliceV appendM appendN growM growOK zM binI isConst binV St.put upd KSeq_n KSeq_x KSeq_g KSeq_r KBlock_n KBlock_x KBlock_g KBlock_r KScope_n KScope_x KScope_r KRet_n KRet_r resL retTV TV.er AV.er AV.ers AV.erk AV.erks Tok.k Heap.er_nil Heap.er_cons Heap.er_app HObj.er_var HObj.er_map Heap.keys_nil Heap.keys_cons Heap.keys_app hget hset subT getP setP_nil setP_one setP_two setPo_some storeV buildV buildL partsOf capTV argOK entry St.of lk_nil lk_cons leLoc siterOf_siter gB_undef gB_av gB_cst undef isNE_tmp isSlT nslD nslDs mslOf mstrV copyV copyK unsV ustrV hdel dataV sameP mtbD isSlN slNilV vcDo_nil vcDo_cons isLt sft sftD softV

theorem headV_err : ∀ {b : List UInt8} {k n : Nat} {e : Int}, headV k n b = .err e → e = 3 ∨ e = 4
  | [], _, _, _, h => by simp [headV] at h; omega
  | c :: r, k, n, e, h => by
    unfold headV at h
    split at h
    · cases h
    · split at h
      · simp only [HeadR.err.injEq] at h; omega
      · exact headV_err h
noncomputable def textsTV (x : List (List UInt8) × Int) : TV := .tup [(.slice 9, .sl .no (strs' x.1)), (.int .i64, .i .i64 x.2)]
set_option maxHeartbeats 8000000 in
theorem texts_ok (b : List UInt8) (hb : b.length ≤ 1000000000) : PC Tryd.prog 61 [.av .str (.s b)] (textsTV (textsV b)) := by
  obtain ⟨R, hR⟩ : ∃ R, textsV b = R := ⟨_, rfl⟩
  rw [hR]
  unfold textsV at hR
  refine PC.of <| ACalls.of_vc laid mixed Tryd.func61 rfl (by kernel_rfl) cf0 (by simp [Tryd.ntmps61]) fun imm0 w0 => ?_
  (simp (maxSteps := 2000000) (disch := first | omega | assumption) [i64_in, tnS, Int.toNat_add, Int.toNat_mul, List.getElem?_cons_zero, List.getElem_cons_zero])
  refine AT.loop' (α := Nat × Nat × List (List UInt8) × List UInt8) (fun x => St.of [(0, .av .str (.s x.2.2.2)), (4, .av (.slice 9) (.sl (if x.1 = 0 then .full else .own 30 x.1) (strs' x.2.2.1)))] [] (fun j => if j = 30 then x.1 else 0) [])
    (fun x => textsA x.2.1 x.2.2.1 x.2.2.2 = R ∧ x.2.2.2.length < x.2.1 ∧ x.2.2.2.length + x.2.2.1.length ≤ b.length ∧ (x.1 = 0 → x.2.2.1 = [])) (fun x => x.2.1) (0, b.length + 1, [], b) ?_ ?_ ?_
  · refine Le.of ?_ ?_ ?_ ?_ ?_ <;> simp [leTV, locsIn, encDigs, encTraces, encWant, encTrace, encReads, encRead, encMades, encMade, strs'] <;> try omega
  · exact ⟨hR, by simp, by simp, fun _ => rfl⟩
  rintro ⟨tk, f, out, r⟩ ⟨hr, hf, hlen, h0⟩ KL hN hE
  simp only at hr hf hlen h0 hN
  refine vc_sound (cf := cf0) laid mixed _ _ _ (by kernel_rfl) ?_
  cases f with
  | zero => omega
  | succ f =>
  unfold textsA at hr
  by_cases hre : r = []
  · rw [if_pos hre] at hr
    subst hre
    (simp (maxSteps := 2000000) (disch := first | omega | assumption) [i64_in, tnS, Int.toNat_add, Int.toNat_mul, List.getElem?_cons_zero, List.getElem_cons_zero])
    refine hE _ _ (by simp) ?_
    (simp (maxSteps := 2000000) (disch := first | omega | assumption) [i64_in, tnS, Int.toNat_add, Int.toNat_mul, List.getElem?_cons_zero, List.getElem_cons_zero, Tryd.f61, ← hr, textsTV])
  rw [if_neg hre] at hr
  (simp (maxSteps := 2000000) (disch := first | omega | assumption) [i64_in, tnS, Int.toNat_add, Int.toNat_mul, List.getElem?_cons_zero, List.getElem_cons_zero, hre])
  refine callV_pc (head_ok r (by omega)) rfl rfl (by simp) (by simp [argLe, TV.er, AV.er]) ?_
  cases hh : headV 0 0 r with
  | err e =>
    rw [hh] at hr
    have he : ¬ e = 0 := by rcases headV_err hh with h | h <;> omega
    (simp (maxSteps := 2000000) (disch := first | omega | assumption) [i64_in, tnS, Int.toNat_add, Int.toNat_mul, List.getElem?_cons_zero, List.getElem_cons_zero, headTV, he])
    refine hE _ _ (by simp) ?_
    (simp (maxSteps := 2000000) (disch := first | omega | assumption) [i64_in, tnS, Int.toNat_add, Int.toNat_mul, List.getElem?_cons_zero, List.getElem_cons_zero, Tryd.f61, ← hr, textsTV, strs'])
  | ok n rest =>
    rw [hh] at hr
    simp only at hr
    have hl := headV_len hh
    by_cases hn : rest.length < n
    · have hn' : (rest.length : Int) < n := by omega
      rw [if_pos hn] at hr
      (simp (maxSteps := 2000000) (disch := first | omega | assumption) [i64_in, tnS, Int.toNat_add, Int.toNat_mul, List.getElem?_cons_zero, List.getElem_cons_zero, headTV, hn'])
      refine hE _ _ (by simp) ?_
      (simp (maxSteps := 2000000) (disch := first | omega | assumption) [i64_in, tnS, Int.toNat_add, Int.toNat_mul, List.getElem?_cons_zero, List.getElem_cons_zero, Tryd.f61, ← hr, textsTV, strs'])
    · have hn' : ¬ (rest.length : Int) < n := by omega
      have hn2 : (n : Int) ≤ rest.length := by omega
      rw [if_neg hn] at hr
      cases tk with
      | zero =>
        obtain rfl := h0 rfl
        (simp (maxSteps := 2000000) (disch := first | omega | assumption) [i64_in, tnS, Int.toNat_add, Int.toNat_mul, List.getElem?_cons_zero, List.getElem_cons_zero, headTV, hn', hn2, appendV, strs'])
        refine hN _ (1, f, [rest.take n], rest.drop n) ?_ ⟨by simpa using hr, by simp; omega, by simp at hlen ⊢; omega, by simp⟩ (by simp only; omega)
        refine Le.of ?_ ?_ ?_ ?_ ?_ <;> simp [leTV, locsIn, encDigs, encTraces, encWant, encTrace, encReads, encRead, encMades, encMade, strs'] <;> try omega
      | succ tk =>
        (simp (maxSteps := 2000000) (disch := first | omega | assumption) [i64_in, tnS, Int.toNat_add, Int.toNat_mul, List.getElem?_cons_zero, List.getElem_cons_zero, headTV, hn', hn2, appendV])
        refine ⟨by omega, by omega, ?_⟩
        refine hN _ (tk + 2, f, out ++ [rest.take n], rest.drop n) ?_ ⟨hr, by simp; omega, by simp; omega, by simp⟩ (by simp only; omega)
        refine Le.of ?_ ?_ ?_ ?_ ?_ <;> simp [leTV, locsIn, encDigs, encTraces, encWant, encTrace, encReads, encRead, encMades, encMade, strs'] <;> try omega
        all_goals (intro j; by_cases hj : j = 30 <;> simp [hj])
end Go.Proofs.YtmkpbigaafemnaaDoor
