/- Has a trace more than statements look at? No condition beyond each theorem's own. -/
import Derived.Test.YthdgnfnalimcnaaGreatDoorP14
set_option linter.unusedSimpArgs false
set_option linter.unusedVariables false
set_option linter.unusedSectionVars false
set_option maxRecDepth 100000
/-! Has a trace more than statements look at? -/
namespace Go.Proofs.YthdgnfnalimcnaaGreatDoor
open Go Go.Ab
open Classical
variable [Sel]
attribute [local simp] vc_skip hiLen zN capV cpyD appendZ clearV delV mdel copyVT extV ovV vc_label vc_region vc_drawn vc_seq vc_cond vc_block vc_exit vc_goto vc_ret vc_loop vc_scope vcOps_nil vcOps_cons vcPs_nil vcPs_cons vcDs_nil vcDs_cons vcD impB mkd wkOf isCallV rdOK_eq rdO_nil rdO_tmp rdO_const rdO_global rdO_func rdL_nil rdL_cons rdT_av rdT_cst rdT_pel rdT_tup rdT_junk rdT_loc St.app Op.operands Call.operands vcG_eq iteP wkOf isCallV vcOp putK_eq pureV ev co coC asI asB asS isNil nkOf derefV fieldAddrV indexAddrV indexV lowV boundsV sliceV pickV_eq unV convV convB bytesOf capOf lenV minV maxV withSrc slice3V lookupV mapOf mfind mput scalT mapUpdV makeSliceV appendM appendN growM growOK zM binI isConst binV St.put upd KSeq_n KSeq_x KSeq_g KSeq_r KBlock_n KBlock_x KBlock_g KBlock_r KScope_n KScope_x KScope_r KRet_n KRet_r resL retTV TV.er AV.er AV.ers AV.erk AV.erks Tok.k Heap.er_nil Heap.er_cons Heap.er_app HObj.er_var HObj.er_map Heap.keys_nil Heap.keys_cons Heap.keys_app hget hset subT getP setP_nil setP_one setP_two setPo_some storeV buildV buildL partsOf capTV argOK entry St.of lk_nil lk_cons leLoc siterOf_siter gB_undef gB_av gB_cst undef isNE_tmp isSlT nslD nslDs mslOf mstrV copyV copyK unsV ustrV hdel dataV sameP mtbD isSlN slNilV vcDo_nil vcDo_cons isLt sft sftD softV rangeMV entryMV cmpV

@[simp] theorem fnok26 : fnOK Tryz.prog 26 = true := by kernel_rfl
@[simp] theorem isne26 : isNE Tryz.prog (.func 26) = false := isNE_func fnok26
@[simp] theorem fnok10 : fnOK Tryz.prog 10 = true := by kernel_rfl
@[simp] theorem isne10 : isNE Tryz.prog (.func 10) = false := isNE_func fnok10
def sumR (l : List Read) : Nat := (l.map fun r => min r.path.length 3000).sum
def sumM (l : List Made) : Nat := (l.map fun r => min r.path.length 3000).sum
theorem sumR_le : ∀ l, sumR l ≤ 3000 * l.length
  | [] => by simp [sumR]
  | r :: l => by have := sumR_le l; simp only [sumR, List.map_cons, List.sum_cons, List.length_cons] at this ⊢; omega
theorem sumM_le : ∀ l, sumM l ≤ 3000 * l.length
  | [] => by simp [sumM]
  | r :: l => by have := sumM_le l; simp only [sumM, List.map_cons, List.sum_cons, List.length_cons] at this ⊢; omega
def wideTV (t : Trace) : Bool := if 60 < t.reads.length then true else if 60 < t.outs.length then true else decide (3000 < sumR t.reads + sumM t.outs)
set_option maxHeartbeats 4000000 in
theorem wide_ok (t : Trace) (hl : t.reads.length ≤ 9223372036854775807) (hm : t.outs.length ≤ 9223372036854775807) (hlp : ∀ r ∈ t.reads, r.path.length ≤ 9223372036854775807) (hmp : ∀ r ∈ t.outs, r.path.length ≤ 9223372036854775807) :
    PC Tryz.prog 26 [.av (tyOf Tryz.prog 34) (encTrace t)] (.av .bool (.b (wideTV t))) := by
  refine PC.of <| ACalls.of_vc laid mixed Tryz.func26 rfl (by kernel_rfl) cf0 (by simp [Tryz.ntmps26]) fun imm0 w0 => ?_
  by_cases h1 : 60 < t.reads.length
  · have h1' : (60 : Int) < t.reads.length := by omega
    (simp (maxSteps := 2000000) (disch := first | omega | assumption) [i64_in, tnS, Int.toNat_add, Int.toNat_mul, List.getElem?_cons_zero, List.getElem_cons_zero, encTrace, encReads, encMades, h1', Tryz.f26, wideTV, h1])
  have h1' : ¬ (60 : Int) < t.reads.length := by omega
  by_cases h2 : 60 < t.outs.length
  · have h2' : (60 : Int) < t.outs.length := by omega
    (simp (maxSteps := 2000000) (disch := first | omega | assumption) [i64_in, tnS, Int.toNat_add, Int.toNat_mul, List.getElem?_cons_zero, List.getElem_cons_zero, encTrace, encReads, encMades, h1', h2', Tryz.f26, wideTV, h1, h2])
  have h2' : ¬ (60 : Int) < t.outs.length := by omega
  (simp (maxSteps := 2000000) (disch := first | omega | assumption) [i64_in, tnS, Int.toNat_add, Int.toNat_mul, List.getElem?_cons_zero, List.getElem_cons_zero, encTrace, encReads, encMades, h1', h2'])
  refine AT.loop' (α := Nat) (fun k => St.of [(1, .loc 1 []), (3, .av (.int .i64) (.i .i64 (sumR (t.reads.take k)))), (4, .av (.int .i64) (.i .i64 k))] [(1, (tyOf Tryz.prog 34, encTrace t))] (fun _ => 0) [])
    (fun k => k ≤ t.reads.length) (fun k => t.reads.length - k) 0 ?_ ?_ ?_
  · refine Le.of ?_ ?_ ?_ ?_ ?_ <;> simp [leTV, locsIn, encDigs, encTraces, encWant, encTrace, encReads, encRead, encMades, encMade, encReads, encTrace, encMades, sumR] <;> try omega
  · simp
  · rintro k hk KL hN hE
    have hs := sumR_le (t.reads.take k)
    rw [List.length_take] at hs
    refine vc_sound (cf := cf0) laid mixed _ _ _ (by kernel_rfl) ?_
    by_cases hlt : k < t.reads.length
    · have hlt' : (k : Int) < t.reads.length := by omega
      have hg := map_get encRead t.reads k hlt
      have hp := hlp t.reads[k] (List.getElem_mem _)
      have htk : (sumR (t.reads.take (k+1)) : Int) = sumR (t.reads.take k) + if (3000 : Int) < t.reads[k].path.length then 3000 else t.reads[k].path.length := by
        rw [List.take_succ_eq_append_getElem hlt]
        simp only [sumR, List.map_append, List.sum_append, List.map_cons, List.sum_cons, List.map_nil, List.sum_nil]
        split <;> omega
      by_cases hm3 : (3000 : Int) < t.reads[k].path.length
      · rw [if_pos hm3] at htk
        (simp (maxSteps := 2000000) (disch := first | omega | assumption) [i64_in, tnS, Int.toNat_add, Int.toNat_mul, List.getElem?_cons_zero, List.getElem_cons_zero, hlt', encTrace, encReads, encRead, hg, hm3])
        (repeat ((with_reducible refine And.intro ?_ ?_); (· first | omega | (show barB _ _ = true; kernel_rfl) | (show rdJ _ _ _ _ _ = true; kernel_rfl) | (show tailB _ _ _ = true; kernel_rfl) | (show sftB _ _ _ = true; kernel_rfl))))
        refine hN _ (k+1) ?_ (by omega) (by omega)
        refine Le.of ?_ ?_ ?_ ?_ ?_ <;> simp [leTV, locsIn, encDigs, encTraces, encWant, encTrace, encReads, encRead, encMades, encMade, encReads, encTrace, htk] <;> try omega
      · rw [if_neg hm3] at htk
        (simp (maxSteps := 2000000) (disch := first | omega | assumption) [i64_in, tnS, Int.toNat_add, Int.toNat_mul, List.getElem?_cons_zero, List.getElem_cons_zero, hlt', encTrace, encReads, encRead, hg, hm3])
        (repeat ((with_reducible refine And.intro ?_ ?_); (· first | omega | (show barB _ _ = true; kernel_rfl) | (show rdJ _ _ _ _ _ = true; kernel_rfl) | (show tailB _ _ _ = true; kernel_rfl) | (show sftB _ _ _ = true; kernel_rfl))))
        refine hN _ (k+1) ?_ (by omega) (by omega)
        refine Le.of ?_ ?_ ?_ ?_ ?_ <;> simp [leTV, locsIn, encDigs, encTraces, encWant, encTrace, encReads, encRead, encMades, encMade, encReads, encTrace, htk] <;> try omega
    · have hlt' : ¬ (k : Int) < t.reads.length := by omega
      have hkn : k = t.reads.length := by omega
      subst hkn
      (simp (maxSteps := 2000000) (disch := first | omega | assumption) [i64_in, tnS, Int.toNat_add, Int.toNat_mul, List.getElem?_cons_zero, List.getElem_cons_zero, hlt', encTrace, encReads])
      refine hE _ _ (by simp) ?_
      clear hN hE
      rw [List.take_length] at hs
      (simp (maxSteps := 2000000) (disch := first | omega | assumption) [i64_in, tnS, Int.toNat_add, Int.toNat_mul, List.getElem?_cons_zero, List.getElem_cons_zero])
      refine AT.loop' (α := Nat) (fun k => St.of [(1, .loc 1 []), (3, .av (.int .i64) (.i .i64 (sumR t.reads + sumM (t.outs.take k) : Nat))), (5, .av (.int .i64) (.i .i64 k))] [(1, (tyOf Tryz.prog 34, encTrace t))] (fun _ => 0) [])
        (fun k => k ≤ t.outs.length) (fun k => t.outs.length - k) 0 ?_ ?_ ?_
      · refine Le.of ?_ ?_ ?_ ?_ ?_ <;> simp [leTV, locsIn, encDigs, encTraces, encWant, encTrace, encReads, encRead, encMades, encMade, encReads, encTrace, encMades, sumM] <;> try omega
      · simp
      rintro k hk KL2 hN hE
      have hs2 := sumM_le (t.outs.take k)
      rw [List.length_take] at hs2
      refine vc_sound (cf := cf0) laid mixed _ _ _ (by kernel_rfl) ?_
      by_cases hlt : k < t.outs.length
      · have hlt' : (k : Int) < t.outs.length := by omega
        have hg := map_get encMade t.outs k hlt
        have hp := hmp t.outs[k] (List.getElem_mem _)
        have htk : ((sumR t.reads + sumM (t.outs.take (k+1)) : Nat) : Int) = (sumR t.reads + sumM (t.outs.take k) : Nat) + if (3000 : Int) < t.outs[k].path.length then 3000 else t.outs[k].path.length := by
          rw [List.take_succ_eq_append_getElem hlt]
          simp only [sumM, List.map_append, List.sum_append, List.map_cons, List.sum_cons, List.map_nil, List.sum_nil]
          split <;> omega
        by_cases hm3 : (3000 : Int) < t.outs[k].path.length
        · rw [if_pos hm3] at htk
          (simp (maxSteps := 2000000) (disch := first | omega | assumption) [i64_in, tnS, Int.toNat_add, Int.toNat_mul, List.getElem?_cons_zero, List.getElem_cons_zero, hlt', encTrace, encMades, encMade, hg, hm3])
          (repeat ((with_reducible refine And.intro ?_ ?_); (· first | omega | (show barB _ _ = true; kernel_rfl) | (show rdJ _ _ _ _ _ = true; kernel_rfl) | (show tailB _ _ _ = true; kernel_rfl) | (show sftB _ _ _ = true; kernel_rfl))))
          refine hN _ (k+1) ?_ (by omega) (by omega)
          refine Le.of ?_ ?_ ?_ ?_ ?_ <;> simp [leTV, locsIn, encDigs, encTraces, encWant, encTrace, encReads, encRead, encMades, encMade, encMades, encTrace, htk] <;> try omega
        · rw [if_neg hm3] at htk
          (simp (maxSteps := 2000000) (disch := first | omega | assumption) [i64_in, tnS, Int.toNat_add, Int.toNat_mul, List.getElem?_cons_zero, List.getElem_cons_zero, hlt', encTrace, encMades, encMade, hg, hm3])
          (repeat ((with_reducible refine And.intro ?_ ?_); (· first | omega | (show barB _ _ = true; kernel_rfl) | (show rdJ _ _ _ _ _ = true; kernel_rfl) | (show tailB _ _ _ = true; kernel_rfl) | (show sftB _ _ _ = true; kernel_rfl))))
          refine hN _ (k+1) ?_ (by omega) (by omega)
          refine Le.of ?_ ?_ ?_ ?_ ?_ <;> simp [leTV, locsIn, encDigs, encTraces, encWant, encTrace, encReads, encRead, encMades, encMade, encMades, encTrace, htk] <;> try omega
      · have hlt' : ¬ (k : Int) < t.outs.length := by omega
        have hkn : k = t.outs.length := by omega
        subst hkn
        (simp (maxSteps := 2000000) (disch := first | omega | assumption) [i64_in, tnS, Int.toNat_add, Int.toNat_mul, List.getElem?_cons_zero, List.getElem_cons_zero, hlt', encTrace, encMades])
        refine hE _ _ (by simp) ?_
        rw [List.take_length] at hs2
        by_cases h3 : 3000 < sumR t.reads + sumM t.outs
        · have h3' : (3000 : Int) < (sumR t.reads : Int) + sumM t.outs := by omega
          (simp (maxSteps := 2000000) (disch := first | omega | assumption) [i64_in, tnS, Int.toNat_add, Int.toNat_mul, List.getElem?_cons_zero, List.getElem_cons_zero, Tryz.f26, wideTV, h1, h2, h3, h3'])
        · have h3' : ¬ (3000 : Int) < (sumR t.reads : Int) + sumM t.outs := by omega
          (simp (maxSteps := 2000000) (disch := first | omega | assumption) [i64_in, tnS, Int.toNat_add, Int.toNat_mul, List.getElem?_cons_zero, List.getElem_cons_zero, Tryz.f26, wideTV, h1, h2, h3, h3'])
end Go.Proofs.YthdgnfnalimcnaaGreatDoor
