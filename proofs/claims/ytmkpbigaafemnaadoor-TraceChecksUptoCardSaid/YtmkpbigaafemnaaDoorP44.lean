/- Rows of texts taken apart: the document. No condition beyond each theorem's own. -/
import Derived.Test.YtmkpbigaafemnaaDoorP42
import Derived.Test.YtmkpbigaafemnaaDoorP43
set_option linter.unusedSimpArgs false
set_option linter.unusedVariables false
set_option linter.unusedSectionVars false
set_option maxRecDepth 100000
/-! Rows of texts taken apart: the document. -/
namespace Go.Proofs.YtmkpbigaafemnaaDoor
open Go Go.Ab
open Classical
attribute [local simp] vc_skip vc_label vc_region vc_drawn vc_seq vc_cond vc_block vc_exit vc_goto vc_ret vc_loop vc_scope vcOps_nil vcOps_cons vcPs_nil vcPs_cons vcDs_nil vcDs_cons vcD impB mkd wkOf isCallV rdOK_eq rdO_nil rdO_tmp rdO_const rdO_global rdO_func rdL_nil rdL_cons rdT_av rdT_cst rdT_pel rdT_tup rdT_junk rdT_loc St.app Op.operands Call.operands vcG_eq iteP wkOf isCallV vcOp putK_eq pureV ev co coC asI asB asS isNil nkOf derefV fieldAddrV indexAddrV indexV lowV boundsV sliceV pickV_eq unV convV convB bytesOf capOf lenV minV withSrc slice3V lookupV mapOf mfind mput scalT mapUpdV makeSliceV appendM appendN growM growOK zM binI isConst binV St.put upd KSeq_n KSeq_x KSeq_g KSeq_r KBlock_n KBlock_x KBlock_g KBlock_r KScope_n KScope_x KScope_r KRet_n KRet_r resL retTV TV.er AV.er AV.ers AV.erk AV.erks Tok.k Heap.er_nil Heap.er_cons Heap.er_app HObj.er_var HObj.er_map Heap.keys_nil Heap.keys_cons Heap.keys_app hget hset subT getP setP_nil setP_one setP_two setPo_some storeV buildV buildL partsOf capTV argOK entry St.of lk_nil lk_cons leLoc siterOf_siter gB_undef gB_av gB_cst undef isNE_tmp isSlT nslD nslDs mslOf mstrV copyV copyK unsV ustrV hdel dataV sameP mtbD isSlN slNilV vcDo_nil vcDo_cons isLt sft sftD softV

@[simp] theorem fnok66 : fnOK Tryd.prog 66 = true := by kernel_rfl
@[simp] theorem isne66 : isNE Tryd.prog (.func 66) = false := isNE_func fnok66
set_option maxHeartbeats 16000000 in
theorem rtexts_ok (b : List UInt8) (hb : b.length ≤ 1000000000) : PC Tryd.prog 66 [.av .str (.s b)] (textsTV (textsV b)) := by
  obtain ⟨R, hR⟩ : ∃ R, textsV b = R := ⟨_, rfl⟩
  rw [hR]
  unfold textsV at hR
  refine PC.of <| ACalls.of_vc laid mixed Tryd.func66 rfl (by kernel_rfl) cf0 (by simp [Tryd.ntmps66]) fun imm0 w0 => ?_
  (simp (maxSteps := 2000000) (disch := first | omega | assumption) [i64_in, tnS, Int.toNat_add, Int.toNat_mul, List.getElem?_cons_zero, List.getElem_cons_zero])
  refine AT.loop' (α := Nat × Nat × List (List UInt8) × Nat) (fun x => St.of [(0, .av .str (.s b)), (4, .av (.slice 9) (.sl (if x.1 = 0 then .full else .own 73 x.1) (strs' x.2.2.1))), (5, .av (.int .i64) (.i .i64 x.2.2.2))] [] (fun j => if j = 73 then x.1 else 0) [])
    (fun x => textsA x.2.1 x.2.2.1 (b.drop x.2.2.2) = R ∧ x.2.2.2 ≤ b.length ∧ b.length - x.2.2.2 < x.2.1 ∧ x.2.2.1.length ≤ x.2.2.2 ∧ (x.1 = 0 → x.2.2.1 = [])) (fun x => x.2.1) (0, b.length + 1, [], 0) ?_ ?_ ?_
  · refine Le.of ?_ ?_ ?_ ?_ ?_ <;> simp [leTV, locsIn, encDigs, encTraces, encWant, encTrace, encReads, encRead, encMades, encMade, strs'] <;> try omega
  · exact ⟨by simpa using hR, by simp, by simp, by simp, fun _ => rfl⟩
  rintro ⟨tk, f, out, p⟩ ⟨hr, hp, hf, hlen, h0⟩ KL hN hE
  simp only at hr hp hf hlen h0 hN
  refine vc_sound (cf := cf0) laid mixed _ _ _ (by kernel_rfl) ?_
  cases f with
  | zero => omega
  | succ f =>
  unfold textsA at hr
  by_cases hlt : p < b.length
  rotate_left
  · have hlt' : ¬ (p : Int) < b.length := by omega
    rw [if_pos (List.drop_eq_nil_of_le (by omega))] at hr
    (simp (maxSteps := 2000000) (disch := first | omega | assumption) [i64_in, tnS, Int.toNat_add, Int.toNat_mul, List.getElem?_cons_zero, List.getElem_cons_zero, hlt'])
    refine hE _ _ (by simp) ?_
    (simp (maxSteps := 2000000) (disch := first | omega | assumption) [i64_in, tnS, Int.toNat_add, Int.toNat_mul, List.getElem?_cons_zero, List.getElem_cons_zero, Tryd.f66, ← hr, textsTV])
  have hlt' : (p : Int) < b.length := by omega
  rw [if_neg (by intro e; have := congrArg List.length e; simp at this; omega)] at hr
  obtain ⟨Hd, hHd⟩ : ∃ Hd, headV 0 0 (b.drop p) = Hd := ⟨_, rfl⟩
  rw [hHd] at hr
  (simp (maxSteps := 2000000) (disch := first | omega | assumption) [i64_in, tnS, Int.toNat_add, Int.toNat_mul, List.getElem?_cons_zero, List.getElem_cons_zero, hlt'])
  refine AT.loop' (α := Nat × Nat) (fun x => St.of [(0, .av .str (.s b)), (4, .av (.slice 9) (.sl (if tk = 0 then .full else .own 73 tk) (strs' out))), (5, .av (.int .i64) (.i .i64 (p + x.1 : Nat))), (6, .av (.int .i64) (.i .i64 x.2)), (7, .av (.int .i64) (.i .i64 x.1))] [] (fun j => if j = 73 then tk else 0) [])
    (fun x => headV x.1 x.2 (b.drop (p + x.1)) = Hd ∧ p + x.1 ≤ b.length ∧ x.1 ≤ 9 ∧ x.2 < 10 ^ x.1) (fun x => b.length - x.1) (0, 0) ?_ ?_ ?_
  · refine Le.of ?_ ?_ ?_ ?_ ?_ <;> simp [leTV, locsIn, encDigs, encTraces, encWant, encTrace, encReads, encRead, encMades, encMade, ] <;> try omega
  · exact ⟨hHd, by simp; omega, by simp, by simp⟩
  rintro ⟨k, n⟩ ⟨hh, hk, h9, hn⟩ KL2 hN2 hE2
  simp only at hh hk h9 hn hN2
  have hn9 : n < 1000000000 := Nat.lt_of_lt_of_le hn (Nat.pow_le_pow_right (by decide) h9)
  obtain ⟨q, hq⟩ : ∃ q, q = p + k := ⟨_, rfl⟩
  rw [← hq] at hh hk
  have hpk : (p : Int) + k = q := by omega
  refine vc_sound (cf := cf0) laid mixed _ _ _ (by kernel_rfl) ?_
  by_cases hqe : q = b.length
  · have hq' : ¬ (q : Int) < b.length := by omega
    have hq2 : (q : Int) = b.length := by omega
    rw [List.drop_eq_nil_of_le (by omega)] at hh
    simp only [headV] at hh
    rw [← hh] at hr
    simp only at hr
    (simp (maxSteps := 2000000) (disch := first | omega | assumption) [i64_in, tnS, Int.toNat_add, Int.toNat_mul, List.getElem?_cons_zero, List.getElem_cons_zero, hpk, hq', hqe])
    refine hE2 _ _ (by simp) ?_
    (simp (maxSteps := 2000000) (disch := first | omega | assumption) [i64_in, tnS, Int.toNat_add, Int.toNat_mul, List.getElem?_cons_zero, List.getElem_cons_zero, hpk, hqe])
    refine hE _ _ (by simp) ?_
    (simp (maxSteps := 2000000) (disch := first | omega | assumption) [i64_in, tnS, Int.toNat_add, Int.toNat_mul, List.getElem?_cons_zero, List.getElem_cons_zero, Tryd.f66, ← hr, textsTV, strs'])
  have hql : q < b.length := by omega
  have hq' : (q : Int) < b.length := by omega
  have hd : b.drop q = b[q] :: b.drop (q+1) := (List.getElem_cons_drop (h := hql)).symm
  obtain ⟨c, hc⟩ : ∃ c, b[q] = c := ⟨_, rfl⟩
  rw [hc] at hd
  have hc256 : c.toNat < 256 := c.toNat_lt
  rw [hd] at hh
  unfold headV at hh
  (simp (maxSteps := 2000000) (disch := first | omega | assumption) [i64_in, tnS, Int.toNat_add, Int.toNat_mul, List.getElem?_cons_zero, List.getElem_cons_zero, hpk, hq', hql, hc])
  refine callV_pc (digit_ok c) rfl rfl (by simp) (by simp [argLe, TV.er, AV.er]) ?_
  by_cases hdg : digB c = true
  · have hd48 : 48 ≤ c.toNat := by simp only [digB, Bool.and_eq_true, decide_eq_true_eq] at hdg; exact hdg.1
    have h58 : ¬ c = 58 := by rintro rfl; simp [digB] at hdg
    rw [if_neg (by simp [h58])] at hh
    rcases Nat.eq_zero_or_pos k with rfl | hk0
    · have hn00 : n = 0 := by simpa using hn
      subst hn00
      rw [if_neg (by simp [hdg])] at hh
      (simp (maxSteps := 2000000) (disch := first | omega | assumption) [i64_in, tnS, Int.toNat_add, Int.toNat_mul, List.getElem?_cons_zero, List.getElem_cons_zero, hdg, hql, hc])
      refine hN2 _ (1, c.toNat - 48) ?_ ⟨by simp only; rw [show p + 1 = q + 1 by omega]; simpa using hh, by simp only; omega, by simp, by simp only [Nat.pow_one]; have : c.toNat ≤ 57 := by { simp only [digB, Bool.and_eq_true, decide_eq_true_eq] at hdg; exact hdg.2 }; omega⟩ (by simp only; omega)
      refine Le.of ?_ ?_ ?_ ?_ ?_ <;> simp [leTV, locsIn, encDigs, encTraces, encWant, encTrace, encReads, encRead, encMades, encMade, ] <;> try omega
    have hk0' : (0 : Int) < k := by omega
    by_cases hn0 : n = 0
    · subst hn0
      rw [if_pos (.inr (.inr ⟨hk0, rfl⟩))] at hh
      rw [← hh] at hr
      simp only at hr
      (simp (maxSteps := 2000000) (disch := first | omega | assumption) [i64_in, tnS, Int.toNat_add, Int.toNat_mul, List.getElem?_cons_zero, List.getElem_cons_zero, hdg, hk0, hk0'])
      refine hE2 _ _ (by simp) ?_
      (simp (maxSteps := 2000000) (disch := first | omega | assumption) [i64_in, tnS, Int.toNat_add, Int.toNat_mul, List.getElem?_cons_zero, List.getElem_cons_zero])
      refine hE _ _ (by simp) ?_
      (simp (maxSteps := 2000000) (disch := first | omega | assumption) [i64_in, tnS, Int.toNat_add, Int.toNat_mul, List.getElem?_cons_zero, List.getElem_cons_zero, Tryd.f66, ← hr, textsTV, strs'])
    have hn0' : ¬ (n : Int) = 0 := by omega
    by_cases hk9 : k = 9
    · rw [if_pos (.inr (.inl hk9))] at hh
      subst hk9
      rw [← hh] at hr
      simp only at hr
      (simp (maxSteps := 2000000) (disch := first | omega | assumption) [i64_in, tnS, Int.toNat_add, Int.toNat_mul, List.getElem?_cons_zero, List.getElem_cons_zero, hdg, hn0, hn0'])
      refine hE2 _ _ (by simp) ?_
      (simp (maxSteps := 2000000) (disch := first | omega | assumption) [i64_in, tnS, Int.toNat_add, Int.toNat_mul, List.getElem?_cons_zero, List.getElem_cons_zero])
      refine hE _ _ (by simp) ?_
      (simp (maxSteps := 2000000) (disch := first | omega | assumption) [i64_in, tnS, Int.toNat_add, Int.toNat_mul, List.getElem?_cons_zero, List.getElem_cons_zero, Tryd.f66, ← hr, textsTV, strs'])
    have hk9' : ¬ (k : Int) = 9 := by omega
    rw [if_neg (by simp [hdg, hk9, hn0])] at hh
    (simp (maxSteps := 2000000) (disch := first | omega | assumption) [i64_in, tnS, Int.toNat_add, Int.toNat_mul, List.getElem?_cons_zero, List.getElem_cons_zero, hdg, hk0, hk0', hn0, hn0', hk9, hk9', hql, hc])
    refine hN2 _ (k + 1, 10 * n + (c.toNat - 48)) ?_ ⟨by simp only; rw [show p + (k + 1) = q + 1 by omega]; exact hh, by simp only; omega, by simp only; omega, by simp only [Nat.pow_succ]; have : c.toNat ≤ 57 := by { simp only [digB, Bool.and_eq_true, decide_eq_true_eq] at hdg; exact hdg.2 }; omega⟩ (by simp only; omega)
    refine Le.of ?_ ?_ ?_ ?_ ?_ <;> simp [leTV, locsIn, encDigs, encTraces, encWant, encTrace, encReads, encRead, encMades, encMade, ] <;> try omega
  have hdg' : digB c = false := by simpa using hdg
  have hqe' : ¬ (q : Int) = b.length := by omega
  (simp (maxSteps := 2000000) (disch := first | omega | assumption) [i64_in, tnS, Int.toNat_add, Int.toNat_mul, List.getElem?_cons_zero, List.getElem_cons_zero, hdg'])
  refine hE2 _ _ (by simp) ?_
  by_cases hck : c = 58 ∧ 0 < k
  rotate_left
  · rw [if_neg hck, if_pos (.inl hdg')] at hh
    rw [← hh] at hr
    simp only at hr
    rcases Nat.eq_zero_or_pos k with rfl | hk0
    · (simp (maxSteps := 2000000) (disch := first | omega | assumption) [i64_in, tnS, Int.toNat_add, Int.toNat_mul, List.getElem?_cons_zero, List.getElem_cons_zero, hpk, hqe, hqe'])
      refine hE _ _ (by simp) ?_
      (simp (maxSteps := 2000000) (disch := first | omega | assumption) [i64_in, tnS, Int.toNat_add, Int.toNat_mul, List.getElem?_cons_zero, List.getElem_cons_zero, Tryd.f66, ← hr, textsTV, strs'])
    · have hkz : ¬ k = 0 := by omega
      have hkz' : ¬ (k : Int) = 0 := by omega
      have h58 : ¬ c = 58 := fun e => hck ⟨e, hk0⟩
      have h58' : ¬ (c.toNat : Int) = 58 := by have := u8_ne (n := 58) (by omega) h58; simpa using this
      (simp (maxSteps := 2000000) (disch := first | omega | assumption) [i64_in, tnS, Int.toNat_add, Int.toNat_mul, List.getElem?_cons_zero, List.getElem_cons_zero, hpk, hqe, hqe', hkz, hkz', hql, hc, h58'])
      refine hE _ _ (by simp) ?_
      (simp (maxSteps := 2000000) (disch := first | omega | assumption) [i64_in, tnS, Int.toNat_add, Int.toNat_mul, List.getElem?_cons_zero, List.getElem_cons_zero, Tryd.f66, ← hr, textsTV, strs'])
  obtain ⟨rfl, hk0⟩ := hck
  have hkz : ¬ k = 0 := by omega
  have hkz' : ¬ (k : Int) = 0 := by omega
  rw [if_pos ⟨rfl, hk0⟩] at hh
  rw [← hh] at hr
  simp only [List.length_drop] at hr
  by_cases hsh : b.length - (q + 1) < n
  · have hsh' : (b.length : Int) - (q + 1) < n := by omega
    rw [if_pos hsh] at hr
    (simp (maxSteps := 2000000) (disch := first | omega | assumption) [i64_in, tnS, Int.toNat_add, Int.toNat_mul, List.getElem?_cons_zero, List.getElem_cons_zero, hpk, hqe, hqe', hkz, hkz', hql, hc, hsh'])
    refine hE _ _ (by simp) ?_
    (simp (maxSteps := 2000000) (disch := first | omega | assumption) [i64_in, tnS, Int.toNat_add, Int.toNat_mul, List.getElem?_cons_zero, List.getElem_cons_zero, Tryd.f66, ← hr, textsTV, strs'])
  have hsh' : ¬ (b.length : Int) - (q + 1) < n := by omega
  rw [if_neg hsh] at hr
  have hs1 : List.drop (q + 1) (List.take (q + 1 + n) b) = List.take n (List.drop (q + 1) b) := by
    rw [List.drop_take]; congr 1; omega
  have hle : (q : Int) + 1 + n ≤ b.length := by omega
  rw [List.drop_drop] at hr
  cases tk with
  | zero =>
    obtain rfl := h0 rfl
    (simp (maxSteps := 2000000) (disch := first | omega | assumption) [i64_in, tnS, Int.toNat_add, Int.toNat_mul, List.getElem?_cons_zero, List.getElem_cons_zero, hpk, hqe, hqe', hkz, hkz', hql, hc, hsh', hs1, hle, appendV, strs'])
    (repeat ((with_reducible refine And.intro ?_ ?_); (· first | omega | (show barB _ _ = true; kernel_rfl) | (show rdJ _ _ _ _ _ = true; kernel_rfl) | (show tailB _ _ _ = true; kernel_rfl) | (show sftB _ _ _ = true; kernel_rfl))))
    refine hN _ (1, f, [(b.drop (q + 1)).take n], q + 1 + n) ?_ ⟨by simpa using hr, by simp only; omega, by simp only; omega, by simp only [List.length_cons, List.length_nil]; omega, by simp⟩ (by simp only; omega)
    refine Le.of ?_ ?_ ?_ ?_ ?_ <;> simp [leTV, locsIn, encDigs, encTraces, encWant, encTrace, encReads, encRead, encMades, encMade, strs'] <;> try omega
  | succ tk =>
    (simp (maxSteps := 2000000) (disch := first | omega | assumption) [i64_in, tnS, Int.toNat_add, Int.toNat_mul, List.getElem?_cons_zero, List.getElem_cons_zero, hpk, hqe, hqe', hkz, hkz', hql, hc, hsh', hs1, hle, appendV])
    (repeat ((with_reducible refine And.intro ?_ ?_); (· first | omega | (show barB _ _ = true; kernel_rfl) | (show rdJ _ _ _ _ _ = true; kernel_rfl) | (show tailB _ _ _ = true; kernel_rfl) | (show sftB _ _ _ = true; kernel_rfl))))
    refine hN _ (tk + 2, f, out ++ [(b.drop (q + 1)).take n], q + 1 + n) ?_ ⟨hr, by simp only; omega, by simp only; omega, by simp; omega, by simp⟩ (by simp only; omega)
    refine Le.of ?_ ?_ ?_ ?_ ?_ <;> simp [leTV, locsIn, encDigs, encTraces, encWant, encTrace, encReads, encRead, encMades, encMade, strs'] <;> try omega
    all_goals (intro j; by_cases hj : j = 73 <;> simp [hj])
end Go.Proofs.YtmkpbigaafemnaaDoor
