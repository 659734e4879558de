/- The trace of an outcome: the document. No condition beyond each theorem's own. -/
import Derived.Test.YtmkpbigaafemnaaDoorP34
import Derived.Test.YtmkpbigaafemnaaDoorP17
set_option linter.unusedSimpArgs false
set_option linter.unusedVariables false
set_option linter.unusedSectionVars false
set_option maxRecDepth 100000
/-! The trace of an outcome: the document. -/
namespace Go.Proofs.YtmkpbigaafemnaaDoor
open Go Go.Ab
open Classical
attribute [local simp] vc_skip vc_label vc_region vc_drawn vc_seq vc_cond vc_block vc_exit vc_goto vc_ret vc_loop vc_scope vcOps_nil vcOps_cons vcPs_nil vcPs_cons vcDs_nil vcDs_cons vcD impB mkd wkOf isCallV rdOK_eq rdO_nil rdO_tmp rdO_const rdO_global rdO_func rdL_nil rdL_cons rdT_av rdT_cst rdT_pel rdT_tup rdT_junk rdT_loc St.app Op.operands Call.operands vcG_eq iteP wkOf isCallV vcOp putK_eq pureV ev co coC asI asB asS isNil nkOf derefV fieldAddrV indexAddrV indexV lowV boundsV sliceV pickV_eq unV convV convB bytesOf capOf lenV minV withSrc slice3V lookupV mapOf mfind mput scalT mapUpdV makeSliceV appendM appendN growM growOK zM binI isConst binV St.put upd KSeq_n KSeq_x KSeq_g KSeq_r KBlock_n KBlock_x KBlock_g KBlock_r KScope_n KScope_x KScope_r KRet_n KRet_r resL retTV TV.er AV.er AV.ers AV.erk AV.erks Tok.k Heap.er_nil Heap.er_cons Heap.er_app HObj.er_var HObj.er_map Heap.keys_nil Heap.keys_cons Heap.keys_app hget hset subT getP setP_nil setP_one setP_two setPo_some storeV buildV buildL partsOf capTV argOK entry St.of lk_nil lk_cons leLoc siterOf_siter gB_undef gB_av gB_cst undef isNE_tmp isSlT nslD nslDs mslOf mstrV copyV copyK unsV ustrV hdel dataV sameP mtbD isSlN slNilV vcDo_nil vcDo_cons isLt sft sftD softV

@[simp] theorem fnok31 : fnOK Tryd.prog 31 = true := by kernel_rfl
@[simp] theorem isne31 : isNE Tryd.prog (.func 31) = false := isNE_func fnok31
abbrev cfROf : Cfg := ⟨fun _ => false, fun n => n == 32 || n == 58⟩
set_option maxHeartbeats 4000000 in
theorem rof_ok (key : Dig) (o : OutV) (ho : OutOK o) :
    PC Tryd.prog 31 [.av (tyOf Tryd.prog 24) (encD key), .av (tyOf Tryd.prog 56) (encOut o)] (ofTV key o) := by
  obtain ⟨hr1, ho1, hr2, ho2⟩ := ho
  obtain ⟨kind, why, outs, reads⟩ := o
  simp only at hr1 ho1 hr2 ho2
  refine PC.of <| ACalls.of_vc laid mixed Tryd.func31 rfl (by kernel_rfl) cfROf (by simp [Tryd.ntmps31]) fun imm0 w0 => ?_
  by_cases hk : kind = 1
  rotate_left
  · (simp (maxSteps := 2000000) (disch := first | omega | assumption) [i64_in, tnS, Int.toNat_add, Int.toNat_mul, List.getElem?_cons_zero, List.getElem_cons_zero, encOut, hk, Tryd.f31, ofTV, ofT, ofE, tr0, encTrace, encReads, encMades, encD_zero])
  subst hk
  (simp (maxSteps := 2000000) (disch := first | omega | assumption) [i64_in, tnS, Int.toNat_add, Int.toNat_mul, List.getElem?_cons_zero, List.getElem_cons_zero, encOut])
  refine AT.loop' (α := Nat) (fun k => St.of [(3, .loc 3 []), (4, .loc 4 []), (5, .cst (.int .i64 0)), (6, .loc 6 []), (7, .av (.int .i64) (.i .i64 k))] [(3, (tyOf Tryd.prog 56, encOut ⟨1, why, outs, reads⟩)), (4, (tyOf Tryd.prog 28, .agg [encD zero32, .sl .full [], .sl .full []])), (6, (tyOf Tryd.prog 28, .agg [encD key, .sl (tkO 31 k) ((reads.take k).map encRead), .sl .full []]))] (fun j => if j = 31 then k else 0) [])
    (fun k => k ≤ reads.length) (fun k => reads.length - k) 0 ?_ ?_ ?_
  · refine Le.of ?_ ?_ ?_ ?_ ?_ <;> simp [leTV, locsIn, encDigs, encTraces, encWant, encTrace, encReads, encRead, encMades, encMade, encD_zero, tkO, encOut] <;> try omega
  · simp
  rintro k hk KL hN hE
  refine vc_sound (cf := cfROf) laid mixed _ _ _ (by kernel_rfl) ?_
  by_cases hlt : k < reads.length
  · have hg := map_get encRead reads k hlt
    have hst : (reads.map encRead).take (k+1) = (reads.map encRead).take k ++ [encRead reads[k]] := by
      rw [← List.map_take, List.take_succ_eq_append_getElem hlt, List.map_append, List.map_cons, List.map_nil, List.map_take]
    have htl : ((reads.map encRead).take k).length = k := by rw [List.length_take, List.length_map]; omega
    obtain ⟨f, hf⟩ : ∃ f, f = reads[k] := ⟨_, rfl⟩
    rw [← hf] at hg hst
    clear hf
    cases k with
    | zero =>
      have hlt' : (0 : Int) < reads.length := by omega
      (simp (maxSteps := 2000000) (disch := first | omega | assumption) [i64_in, tnS, Int.toNat_add, Int.toNat_mul, List.getElem?_cons_zero, List.getElem_cons_zero, hlt', hlt, hg, encOut, encReads, tkO])
      (simp (maxSteps := 2000000) (disch := first | omega | assumption) [i64_in, tnS, Int.toNat_add, Int.toNat_mul, List.getElem?_cons_zero, List.getElem_cons_zero, appendV])
      (repeat ((with_reducible refine And.intro ?_ ?_); (· first | omega | (show barB _ _ = true; kernel_rfl) | (show rdJ _ _ _ _ _ = true; kernel_rfl) | (show tailB _ _ _ = true; kernel_rfl) | (show sftB _ _ _ = true; kernel_rfl))))
      refine hN _ 1 ?_ (by omega) (by omega)
      refine Le.of ?_ ?_ ?_ ?_ ?_ <;> simp [leTV, locsIn, encDigs, encTraces, encWant, encTrace, encReads, encRead, encMades, encMade, tkO, hst, encOut] <;> try omega
    | succ k =>
      have hlt' : (k : Int) + 1 < reads.length := by omega
      have hge : (0 : Int) ≤ (k : Int) + 1 := by omega
      (simp (maxSteps := 2000000) (disch := first | omega | assumption) [i64_in, tnS, Int.toNat_add, Int.toNat_mul, List.getElem?_cons_zero, List.getElem_cons_zero, hlt', hlt, hg, encOut, encReads, tkO])
      (simp (maxSteps := 2000000) (disch := first | omega | assumption) [i64_in, tnS, Int.toNat_add, Int.toNat_mul, List.getElem?_cons_zero, List.getElem_cons_zero, appendV, htl])
      (repeat ((with_reducible refine And.intro ?_ ?_); (· first | omega | (show barB _ _ = true; kernel_rfl) | (show rdJ _ _ _ _ _ = true; kernel_rfl) | (show tailB _ _ _ = true; kernel_rfl) | (show sftB _ _ _ = true; kernel_rfl))))
      refine hN _ (k+2) ?_ (by omega) (by omega)
      refine Le.of ?_ ?_ ?_ ?_ ?_ <;> simp [leTV, locsIn, encDigs, encTraces, encWant, encTrace, encReads, encRead, encMades, encMade, tkO, hst, encOut] <;> try omega
      all_goals (intro j; by_cases hj : j = 31 <;> simp [hj])
  have hkn : k = reads.length := by omega
  have hlt' : ¬ (k : Int) < reads.length := by omega
  have htr : (reads.map encRead).take k = reads.map encRead := List.take_of_length_le (by simp; omega)
  (simp (maxSteps := 2000000) (disch := first | omega | assumption) [i64_in, tnS, Int.toNat_add, Int.toNat_mul, List.getElem?_cons_zero, List.getElem_cons_zero, hlt', encOut, encReads])
  refine hE _ _ (by simp) ?_
  clear hN hE
  (simp (maxSteps := 2000000) (disch := first | omega | assumption) [i64_in, tnS, Int.toNat_add, Int.toNat_mul, List.getElem?_cons_zero, List.getElem_cons_zero, htr])
  refine AT.loop' (α := Nat) (fun k2 => St.of [(3, .loc 3 []), (4, .loc 4 []), (5, .cst (.int .i64 0)), (6, .loc 6 []), (8, .av (.int .i64) (.i .i64 k2))] [(3, (tyOf Tryd.prog 56, encOut ⟨1, why, outs, reads⟩)), (4, (tyOf Tryd.prog 28, .agg [encD zero32, .sl .full [], .sl .full []])), (6, (tyOf Tryd.prog 28, .agg [encD key, .sl (tkO 31 k) (reads.map encRead), .sl (tkO 57 k2) ((outs.map mdA).take k2)]))] (fun j => if j = 57 then k2 else if j = 31 then k else 0) [])
    (fun k2 => k2 ≤ outs.length) (fun k2 => outs.length - k2) 0 ?_ ?_ ?_
  · refine Le.of ?_ ?_ ?_ ?_ ?_ <;> simp [leTV, locsIn, encDigs, encTraces, encWant, encTrace, encReads, encRead, encMades, encMade, encD_zero, tkO, encOut] <;> try omega
    all_goals (intro j; by_cases hj : j = 57 <;> simp [hj])
  · simp
  rintro k2 hk2 KL2 hN hE
  refine vc_sound (cf := cfROf) laid mixed _ _ _ (by kernel_rfl) ?_
  by_cases hlt2 : k2 < outs.length
  · have hg := map_getF outs k2 hlt2
    have hd := ho2 outs[k2] (List.getElem_mem hlt2)
    have hst : (outs.map mdA).take (k2+1) = (outs.map mdA).take k2 ++ [mdA outs[k2]] := by
      rw [← List.map_take, List.take_succ_eq_append_getElem hlt2, List.map_append, List.map_take]; rfl
    have htl : ((outs.map mdA).take k2).length = k2 := by rw [List.length_take, List.length_map]; omega
    obtain ⟨f, hf⟩ : ∃ f, f = outs[k2] := ⟨_, rfl⟩
    rw [← hf] at hg hd hst
    clear hf
    cases k2 with
    | zero =>
      have hlt' : (0 : Int) < outs.length := by omega
      (simp (maxSteps := 2000000) (disch := first | omega | assumption) [i64_in, tnS, Int.toNat_add, Int.toNat_mul, List.getElem?_cons_zero, List.getElem_cons_zero, hlt', hlt2, hg, encOut, encFiles, encFile, tkO])
      (repeat ((with_reducible refine And.intro ?_ ?_); (· first | omega | (show barB _ _ = true; kernel_rfl) | (show rdJ _ _ _ _ _ = true; kernel_rfl) | (show tailB _ _ _ = true; kernel_rfl) | (show sftB _ _ _ = true; kernel_rfl))))
      refine callD_pc (rsum_ok f.data (by omega)) rfl rfl (by simp) (by simp [argLe, TV.er, AV.er, AV.ers]) ?_
      (simp (maxSteps := 2000000) (disch := first | omega | assumption) [i64_in, tnS, Int.toNat_add, Int.toNat_mul, List.getElem?_cons_zero, List.getElem_cons_zero, appendV])
      (repeat ((with_reducible refine And.intro ?_ ?_); (· first | omega | (show barB _ _ = true; kernel_rfl) | (show rdJ _ _ _ _ _ = true; kernel_rfl) | (show tailB _ _ _ = true; kernel_rfl) | (show sftB _ _ _ = true; kernel_rfl))))
      refine hN _ 1 ?_ (by omega) (by omega)
      refine Le.of ?_ ?_ ?_ ?_ ?_ <;> simp [leTV, locsIn, encDigs, encTraces, encWant, encTrace, encReads, encRead, encMades, encMade, tkO, hst, mdA, encOut, encFiles] <;> try omega
      all_goals (intro j; by_cases hj : j = 57 <;> simp [hj])
    | succ k2 =>
      have hlt' : (k2 : Int) + 1 < outs.length := by omega
      have hge : (0 : Int) ≤ (k2 : Int) + 1 := by omega
      (simp (maxSteps := 2000000) (disch := first | omega | assumption) [i64_in, tnS, Int.toNat_add, Int.toNat_mul, List.getElem?_cons_zero, List.getElem_cons_zero, hlt', hlt2, hg, encOut, encFiles, encFile, tkO])
      (repeat ((with_reducible refine And.intro ?_ ?_); (· first | omega | (show barB _ _ = true; kernel_rfl) | (show rdJ _ _ _ _ _ = true; kernel_rfl) | (show tailB _ _ _ = true; kernel_rfl) | (show sftB _ _ _ = true; kernel_rfl))))
      refine callD_pc (rsum_ok f.data (by omega)) rfl rfl (by simp) (by simp [argLe, TV.er, AV.er, AV.ers]) ?_
      (simp (maxSteps := 2000000) (disch := first | omega | assumption) [i64_in, tnS, Int.toNat_add, Int.toNat_mul, List.getElem?_cons_zero, List.getElem_cons_zero, appendV, htl])
      (repeat ((with_reducible refine And.intro ?_ ?_); (· first | omega | (show barB _ _ = true; kernel_rfl) | (show rdJ _ _ _ _ _ = true; kernel_rfl) | (show tailB _ _ _ = true; kernel_rfl) | (show sftB _ _ _ = true; kernel_rfl))))
      refine hN _ (k2+2) ?_ (by omega) (by omega)
      refine Le.of ?_ ?_ ?_ ?_ ?_ <;> simp [leTV, locsIn, encDigs, encTraces, encWant, encTrace, encReads, encRead, encMades, encMade, tkO, hst, mdA, encOut, encFiles] <;> try omega
      all_goals (intro j; by_cases hj : j = 57 <;> simp [hj])
  have hkn2 : k2 = outs.length := by omega
  have hlt2' : ¬ (k2 : Int) < outs.length := by omega
  (simp (maxSteps := 2000000) (disch := first | omega | assumption) [i64_in, tnS, Int.toNat_add, Int.toNat_mul, List.getElem?_cons_zero, List.getElem_cons_zero, hlt2', encOut, encFiles])
  refine hE _ _ (by simp) ?_
  clear hN hE
  have hmd : outs.map mdA = (outs.map mdOf).map encMade := by rw [List.map_map]; rfl
  have htake : (outs.map mdA).take k2 = (outs.map mdOf).map encMade := by rw [List.take_of_length_le (by simp; omega), hmd]
  have htp : TrP (trOf key ⟨1, why, outs, reads⟩) := by
    refine ⟨⟨by simp only [trOf]; omega, fun r hr => Nat.le_trans (hr2 r hr) (by decide)⟩, by simp only [trOf, List.length_map]; omega, fun r hr => ?_⟩
    obtain ⟨f, hf, rfl⟩ := List.mem_map.1 hr
    exact Nat.le_trans (ho2 f hf).1 (by decide)
  have hp1 : ∀ r ∈ (trOf key ⟨1, why, outs, reads⟩).reads, r.path.length ≤ 1000000000 := fun r hr => Nat.le_trans (hr2 r hr) (by decide)
  have hp2 : ∀ r ∈ (trOf key ⟨1, why, outs, reads⟩).outs, r.path.length ≤ 1000000000 := fun r hr => by
    obtain ⟨f, hf, rfl⟩ := List.mem_map.1 hr
    exact Nat.le_trans (ho2 f hf).1 (by decide)
  (simp (maxSteps := 2000000) (disch := first | omega | assumption) [i64_in, tnS, Int.toNat_add, Int.toNat_mul, List.getElem?_cons_zero, List.getElem_cons_zero, htake])
  refine callV_pc (rcheck_ok _ htp hp1 hp2) rfl rfl (by simp) (by simp [argLe, TV.er, encTrace, trOf, AV.er, AV.ers, AV.ers_eq, encReads, encMades, List.map_map, Function.comp_def]) ?_
  by_cases hc : checkV (trOf key ⟨1, why, outs, reads⟩) = 0
  · have h1 := ofTV_ok (o := ⟨1, why, outs, reads⟩) rfl hc
    (simp (maxSteps := 2000000) (disch := first | omega | assumption) [i64_in, tnS, Int.toNat_add, Int.toNat_mul, List.getElem?_cons_zero, List.getElem_cons_zero, hc, Tryd.f31, h1])
  · have h1 := ofTV_no (o := ⟨1, why, outs, reads⟩) rfl hc
    (simp (maxSteps := 2000000) (disch := first | omega | assumption) [i64_in, tnS, Int.toNat_add, Int.toNat_mul, List.getElem?_cons_zero, List.getElem_cons_zero, hc, Tryd.f31, h1])
end Go.Proofs.YtmkpbigaafemnaaDoor
