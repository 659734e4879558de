/- The trace of an outcome: the program. No condition beyond each theorem's own. -/
import Derived.Test.YtmkpbigaafemnaaDoorP33
import Derived.Test.YtmkpbigaafemnaaDoorS8
set_option linter.unusedSimpArgs false
set_option linter.unusedVariables false
set_option linter.unusedSectionVars false
set_option maxRecDepth 100000
/-! The trace of an outcome: the program. -/
namespace Go.Proofs.YtmkpbigaafemnaaDoor
open Go Go.Ab
open Classical
attribute [local simp] vc_skip vc_label vc_region vc_drawn vc_seq vc_cond vc_block vc_exit vc_goto vc_ret vc_loop vc_scope vcOps_nil vcOps_cons vcPs_nil vcPs_cons vcDs_nil vcDs_cons vcD impB mkd wkOf isCallV rdOK_eq rdO_nil rdO_tmp rdO_const rdO_global rdO_func rdL_nil rdL_cons rdT_av rdT_cst rdT_pel rdT_tup rdT_junk rdT_loc St.app Op.operands Call.operands vcG_eq iteP wkOf isCallV vcOp putK_eq pureV ev co coC asI asB asS isNil nkOf derefV fieldAddrV indexAddrV indexV lowV boundsV sliceV pickV_eq unV convV convB bytesOf capOf lenV minV withSrc slice3V lookupV mapOf mfind mput scalT mapUpdV makeSliceV appendM appendN growM growOK zM binI isConst binV St.put upd KSeq_n KSeq_x KSeq_g KSeq_r KBlock_n KBlock_x KBlock_g KBlock_r KScope_n KScope_x KScope_r KRet_n KRet_r resL retTV TV.er AV.er AV.ers AV.erk AV.erks Tok.k Heap.er_nil Heap.er_cons Heap.er_app HObj.er_var HObj.er_map Heap.keys_nil Heap.keys_cons Heap.keys_app hget hset subT getP setP_nil setP_one setP_two setPo_some storeV buildV buildL partsOf capTV argOK entry St.of lk_nil lk_cons leLoc siterOf_siter gB_undef gB_av gB_cst undef isNE_tmp isSlT nslD nslDs mslOf mstrV copyV copyK unsV ustrV hdel dataV sameP mtbD isSlN slNilV vcDo_nil vcDo_cons isLt sft sftD softV

@[simp] theorem fnok30 : fnOK Tryd.prog 30 = true := by kernel_rfl
@[simp] theorem isne30 : isNE Tryd.prog (.func 30) = false := isNE_func fnok30
def mdOf (f : FileV) : Made := ⟨f.path, sha f.data⟩
def mdA (f : FileV) : AV := .agg [.s f.path, encD (sha f.data)]
def trOf (key : Dig) (o : OutV) : Trace := ⟨key, o.reads, o.outs.map mdOf⟩
def tr0 : Trace := ⟨zero32, [], []⟩
noncomputable def ofT (key : Dig) (o : OutV) : Trace := if o.kind ≠ 1 then tr0 else if checkV (trOf key o) = 0 then trOf key o else tr0
noncomputable def ofE (key : Dig) (o : OutV) : Int := if o.kind ≠ 1 then 19 else checkV (trOf key o)
noncomputable def ofTV (key : Dig) (o : OutV) : TV := .tup [(tyOf Tryd.prog 28, encTrace (ofT key o)), (.int .i64, .i .i64 (ofE key o))]
def tkO (d : Nat) : Nat → Tok
  | 0 => .full
  | k+1 => .own d (k+1)
def OutOK (o : OutV) : Prop := o.reads.length ≤ 1000 ∧ o.outs.length ≤ 1000 ∧ (∀ r ∈ o.reads, r.path.length ≤ 1000) ∧ ∀ f ∈ o.outs, f.path.length ≤ 1000 ∧ f.data.length ≤ 1000
theorem ofTV_ok {key : Dig} {o : OutV} (h : o.kind = 1) (hc : checkV (trOf key o) = 0) : ofTV key o = .tup [(tyOf Tryd.prog 28, .agg [encD key, .sl .no (AV.ers (o.reads.map encRead)), .sl .no (AV.ers (o.outs.map (encMade ∘ mdOf)))]), (.int .i64, .i .i64 0)] := by
  have h1 : ofT key o = trOf key o := by simp [ofT, h, hc]
  have h2 : ofE key o = 0 := by simp [ofE, h, hc]
  simp only [ofTV, h1, h2]
  simp [trOf, encTrace, encReads, encMades, AV.ers_eq, Function.comp_def]
theorem ofTV_no {key : Dig} {o : OutV} (h : o.kind = 1) (hc : ¬ checkV (trOf key o) = 0) : ofTV key o = .tup [(tyOf Tryd.prog 28, .agg [.agg (List.replicate 32 (.i .u8 0)), .sl .no [], .sl .no []]), (.int .i64, .i .i64 (checkV (trOf key o)))] := by
  have h1 : ofT key o = tr0 := by simp [ofT, h, hc]
  have h2 : ofE key o = checkV (trOf key o) := by simp [ofE, h]
  simp only [ofTV, h1, h2]
  simp only [tr0, encTrace, encReads, encMades, encD_zero, List.map_nil]
abbrev cfOf : Cfg := ⟨fun _ => false, fun n => n == 37⟩
theorem map_getF (l : List FileV) (k : Nat) (h : k < l.length) : (l.map encFile)[k]? = some (encFile l[k]) := map_get encFile l k h
set_option maxHeartbeats 4000000 in
theorem of_ok (key : Dig) (o : OutV) (ho : OutOK o) :
    PC Tryd.prog 30 [.av (tyOf Tryd.prog 24) (encD key), .av (tyOf Tryd.prog 56) (encOut o)] (ofTV key o) := by
  obtain ⟨hr1, ho1, hr2, ho2⟩ := ho
  obtain ⟨kind, why, outs, reads⟩ := o
  simp only at hr1 ho1 hr2 ho2
  refine PC.of <| ACalls.of_vc laid mixed Tryd.func30 rfl (by kernel_rfl) cfOf (by simp [Tryd.ntmps30]) fun imm0 w0 => ?_
  by_cases hk : kind = 1
  rotate_left
  · (simp (maxSteps := 2000000) (disch := first | omega | assumption) [i64_in, tnS, Int.toNat_add, Int.toNat_mul, List.getElem?_cons_zero, List.getElem_cons_zero, encOut, hk, Tryd.f30, ofTV, ofT, ofE, tr0, encTrace, encReads, encMades, encD_zero])
  subst hk
  (simp (maxSteps := 2000000) (disch := first | omega | assumption) [i64_in, tnS, Int.toNat_add, Int.toNat_mul, List.getElem?_cons_zero, List.getElem_cons_zero, encOut])
  (repeat ((with_reducible refine And.intro ?_ ?_); (· first | omega | (show barB _ _ = true; kernel_rfl) | (show rdJ _ _ _ _ _ = true; kernel_rfl) | (show tailB _ _ _ = true; kernel_rfl) | (show sftB _ _ _ = true; kernel_rfl))))
  refine callD_pc (clone_ok reads hr1) rfl rfl (by simp) (by simp [argLe, TV.er]) ?_
  (simp (maxSteps := 2000000) (disch := first | omega | assumption) [i64_in, tnS, Int.toNat_add, Int.toNat_mul, List.getElem?_cons_zero, List.getElem_cons_zero, encReads, encFiles])
  (repeat ((with_reducible refine And.intro ?_ ?_); (· first | omega | (show barB _ _ = true; kernel_rfl) | (show rdJ _ _ _ _ _ = true; kernel_rfl) | (show tailB _ _ _ = true; kernel_rfl) | (show sftB _ _ _ = true; kernel_rfl))))
  refine AT.loop' (α := Nat) (fun k => St.of [(4, .loc 4 []), (5, .cst (.int .i64 0)), (6, .loc 6 []), (20, .av (.slice 58) (.sl .no (outs.map encFile))), (21, .av (.int .i64) (.i .i64 outs.length)), (22, .av (.int .i64) (.i .i64 k))] [(4, (tyOf Tryd.prog 28, .agg [encD zero32, .sl .full [], .sl .full []])), (6, (tyOf Tryd.prog 28, .agg [encD key, .sl .no (reads.map encRead), .sl (tkO 36 k) ((outs.map mdA).take k)]))] (fun j => if j = 36 then k else 0) [])
    (fun k => k ≤ outs.length) (fun k => outs.length - k) 0 ?_ ?_ ?_
  · refine Le.of ?_ ?_ ?_ ?_ ?_ <;> simp [leTV, locsIn, encDigs, encTraces, encWant, encTrace, encReads, encRead, encMades, encMade, encD_zero, tkO] <;> try omega
  · simp
  rintro k hk KL hN hE
  refine vc_sound (cf := cfOf) laid mixed _ _ _ (by kernel_rfl) ?_
  by_cases hlt : k < outs.length
  · have hlt' : (k : Int) < outs.length := by omega
    have hg := map_getF outs k hlt
    have hd := ho2 outs[k] (List.getElem_mem hlt)
    have hst : (outs.map mdA).take (k+1) = (outs.map mdA).take k ++ [mdA outs[k]] := by
      rw [← List.map_take, List.take_succ_eq_append_getElem hlt, List.map_append, List.map_take]; rfl
    have htl : ((outs.map mdA).take k).length = k := by rw [List.length_take, List.length_map]; omega
    obtain ⟨f, hf⟩ : ∃ f, f = outs[k] := ⟨_, rfl⟩
    rw [← hf] at hg hd hst
    clear hf
    cases k with
    | zero =>
      have hlt' : (0 : Int) < outs.length := by omega
      (simp (maxSteps := 2000000) (disch := first | omega | assumption) [i64_in, tnS, Int.toNat_add, Int.toNat_mul, List.getElem?_cons_zero, List.getElem_cons_zero, hlt', hlt, hg, encFile, tkO])
      (repeat ((with_reducible refine And.intro ?_ ?_); (· first | omega | (show barB _ _ = true; kernel_rfl) | (show rdJ _ _ _ _ _ = true; kernel_rfl) | (show tailB _ _ _ = true; kernel_rfl) | (show sftB _ _ _ = true; kernel_rfl))))
      refine callD_pc (sum_ok f.data (by omega)) rfl rfl (by simp) (by simp [argLe, TV.er, AV.er, AV.ers, strs1]) ?_
      (simp (maxSteps := 2000000) (disch := first | omega | assumption) [i64_in, tnS, Int.toNat_add, Int.toNat_mul, List.getElem?_cons_zero, List.getElem_cons_zero, appendV])
      (repeat ((with_reducible refine And.intro ?_ ?_); (· first | omega | (show barB _ _ = true; kernel_rfl) | (show rdJ _ _ _ _ _ = true; kernel_rfl) | (show tailB _ _ _ = true; kernel_rfl) | (show sftB _ _ _ = true; kernel_rfl))))
      refine hN _ 1 ?_ (by omega) (by omega)
      refine Le.of ?_ ?_ ?_ ?_ ?_ <;> simp [leTV, locsIn, encDigs, encTraces, encWant, encTrace, encReads, encRead, encMades, encMade, tkO, hst, mdA] <;> try omega
    | succ k =>
      have hlt' : (k : Int) + 1 < outs.length := by omega
      have hge : (0 : Int) ≤ (k : Int) + 1 := by omega
      (simp (maxSteps := 2000000) (disch := first | omega | assumption) [i64_in, tnS, Int.toNat_add, Int.toNat_mul, List.getElem?_cons_zero, List.getElem_cons_zero, hlt', hlt, hg, encFile, tkO])
      (repeat ((with_reducible refine And.intro ?_ ?_); (· first | omega | (show barB _ _ = true; kernel_rfl) | (show rdJ _ _ _ _ _ = true; kernel_rfl) | (show tailB _ _ _ = true; kernel_rfl) | (show sftB _ _ _ = true; kernel_rfl))))
      refine callD_pc (sum_ok f.data (by omega)) rfl rfl (by simp) (by simp [argLe, TV.er, AV.er, AV.ers, strs1]) ?_
      (simp (maxSteps := 2000000) (disch := first | omega | assumption) [i64_in, tnS, Int.toNat_add, Int.toNat_mul, List.getElem?_cons_zero, List.getElem_cons_zero, appendV, htl])
      (repeat ((with_reducible refine And.intro ?_ ?_); (· first | omega | (show barB _ _ = true; kernel_rfl) | (show rdJ _ _ _ _ _ = true; kernel_rfl) | (show tailB _ _ _ = true; kernel_rfl) | (show sftB _ _ _ = true; kernel_rfl))))
      refine hN _ (k+2) ?_ (by omega) (by omega)
      refine Le.of ?_ ?_ ?_ ?_ ?_ <;> simp [leTV, locsIn, encDigs, encTraces, encWant, encTrace, encReads, encRead, encMades, encMade, tkO, hst, mdA] <;> try omega
      all_goals (intro j; by_cases hj : j = 36 <;> simp [hj])
  · have hkn : k = outs.length := by omega
    have hlt' : ¬ (k : Int) < outs.length := by omega
    subst hkn
    (simp (maxSteps := 2000000) (disch := first | omega | assumption) [i64_in, tnS, Int.toNat_add, Int.toNat_mul, List.getElem?_cons_zero, List.getElem_cons_zero, hlt'])
    refine hE _ _ (by simp) ?_
    clear hN hE
    have hmd : outs.map mdA = (outs.map mdOf).map encMade := by rw [List.map_map]; rfl
    have htake : (outs.map mdA).take outs.length = (outs.map mdOf).map encMade := by rw [List.take_of_length_le (by simp), hmd]
    have htp : TrP (trOf key ⟨1, why, outs, reads⟩) := by
      refine ⟨⟨by simp only [trOf]; omega, fun r hr => Nat.le_trans (hr2 r hr) (by decide)⟩, by simp only [trOf, List.length_map]; omega, fun r hr => ?_⟩
      obtain ⟨f, hf, rfl⟩ := List.mem_map.1 hr
      exact Nat.le_trans (ho2 f hf).1 (by decide)
    (simp (maxSteps := 2000000) (disch := first | omega | assumption) [i64_in, tnS, Int.toNat_add, Int.toNat_mul, List.getElem?_cons_zero, List.getElem_cons_zero, htake])
    refine callV_pc (check_ok _ htp) rfl rfl (by simp) (by simp [argLe, TV.er, encTrace, trOf, AV.er, AV.ers, AV.ers_eq, encReads, encMades, List.map_map, Function.comp_def]) ?_
    by_cases hc : checkV (trOf key ⟨1, why, outs, reads⟩) = 0
    · have h1 := ofTV_ok (o := ⟨1, why, outs, reads⟩) rfl hc
      (simp (maxSteps := 2000000) (disch := first | omega | assumption) [i64_in, tnS, Int.toNat_add, Int.toNat_mul, List.getElem?_cons_zero, List.getElem_cons_zero, hc, Tryd.f30, h1])
    · have h1 := ofTV_no (o := ⟨1, why, outs, reads⟩) rfl hc
      (simp (maxSteps := 2000000) (disch := first | omega | assumption) [i64_in, tnS, Int.toNat_add, Int.toNat_mul, List.getElem?_cons_zero, List.getElem_cons_zero, hc, Tryd.f30, h1])
end Go.Proofs.YtmkpbigaafemnaaDoor
