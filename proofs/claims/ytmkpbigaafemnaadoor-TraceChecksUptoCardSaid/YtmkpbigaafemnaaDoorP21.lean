/- The laws' own helpers: alive, wide, empty, knows. No condition beyond each theorem's own. -/
import Derived.Test.YtmkpbigaafemnaaDoorP20
import Derived.Test.YtmkpbigaafemnaaDoorP13
set_option linter.unusedSimpArgs false
set_option linter.unusedVariables false
set_option linter.unusedSectionVars false
set_option maxRecDepth 100000
/-! The laws' own helpers: alive, wide, empty, knows. -/
namespace Go.Proofs.YtmkpbigaafemnaaDoor
open Go Go.Ab
open Classical
attribute [local simp] vc_skip vc_label vc_region vc_drawn vc_seq vc_cond vc_block vc_exit vc_goto vc_ret vc_loop vc_scope vcOps_nil vcOps_cons vcPs_nil vcPs_cons vcDs_nil vcDs_cons vcD impB mkd wkOf isCallV rdOK_eq rdO_nil rdO_tmp rdO_const rdO_global rdO_func rdL_nil rdL_cons rdT_av rdT_cst rdT_pel rdT_tup rdT_junk rdT_loc St.app Op.operands Call.operands vcG_eq iteP wkOf isCallV vcOp putK_eq pureV ev co coC asI asB asS isNil nkOf derefV fieldAddrV indexAddrV indexV lowV boundsV sliceV pickV_eq unV convV convB bytesOf capOf lenV minV withSrc slice3V lookupV mapOf mfind mput scalT mapUpdV makeSliceV appendM appendN growM growOK zM binI isConst binV St.put upd KSeq_n KSeq_x KSeq_g KSeq_r KBlock_n KBlock_x KBlock_g KBlock_r KScope_n KScope_x KScope_r KRet_n KRet_r resL retTV TV.er AV.er AV.ers AV.erk AV.erks Tok.k Heap.er_nil Heap.er_cons Heap.er_app HObj.er_var HObj.er_map Heap.keys_nil Heap.keys_cons Heap.keys_app hget hset subT getP setP_nil setP_one setP_two setPo_some storeV buildV buildL partsOf capTV argOK entry St.of lk_nil lk_cons leLoc siterOf_siter gB_undef gB_av gB_cst undef isNE_tmp isSlT nslD nslDs mslOf mstrV copyV copyK unsV ustrV hdel dataV sameP mtbD isSlN slNilV vcDo_nil vcDo_cons isLt sft sftD softV

@[simp] theorem fnok20 : fnOK Tryd.prog 20 = true := by kernel_rfl
@[simp] theorem isne20 : isNE Tryd.prog (.func 20) = false := isNE_func fnok20
@[simp] theorem fnok23 : fnOK Tryd.prog 23 = true := by kernel_rfl
@[simp] theorem isne23 : isNE Tryd.prog (.func 23) = false := isNE_func fnok23
@[simp] theorem fnok26 : fnOK Tryd.prog 26 = true := by kernel_rfl
@[simp] theorem isne26 : isNE Tryd.prog (.func 26) = false := isNE_func fnok26
@[simp] theorem fnok27 : fnOK Tryd.prog 27 = true := by kernel_rfl
@[simp] theorem isne27 : isNE Tryd.prog (.func 27) = false := isNE_func fnok27
def tA : Trace := ⟨zero32, [⟨[97], false, zero32⟩], []⟩
theorem tA_may : mayV [97] = true := by decide
theorem tA_check : checkV tA = 0 := by
  simp [checkV, tA, readsV, tA_may, outsV]
theorem itoa32 : Lib.itoa 32 = [51, 50] := by simp [Lib.itoa, Lib.decDigits]
theorem itoa1 : Lib.itoa 1 = [49] := by simp [Lib.itoa, Lib.decDigits]
theorem itoa0 : Lib.itoa 0 = [48] := by simp [Lib.itoa, Lib.decDigits]
theorem zero32_len : zero32.length = 32 := by simp [zero32]
theorem tA_bytes : rowV (bytesL tA) = [51, 50, 58] ++ (zero32 ++ [49, 58, 49, 49, 58, 97, 48, 58]) := by
  simp [bytesL, tA, rowV, readT, zero32_len, itoa32, itoa1, itoa0, -List.reduceReplicate]
theorem tA_bytes_len : (rowV (bytesL tA)).length = 43 := by rw [tA_bytes]; simp [zero32_len]
theorem tA_bytes3 : (rowV (bytesL tA)).take 3 = [51, 50, 58] := by rw [tA_bytes]; rfl
theorem tA_bytes35 : (rowV (bytesL tA)).drop 35 = [49, 58, 49, 49, 58, 97, 48, 58] := by rw [tA_bytes]; rfl
theorem tA_bytesTV : bytesTV tA = .tup [(.str, .s (rowV (bytesL tA))), (.int .i64, .i .i64 0)] := by simp [bytesTV, tA_check]
theorem tA_holds : holdsTV (holdsV [] tA.reads) = .tup [(.bool, .b false), (.str, .s [97])] := by simp [holdsV, tA, holdsTV]
set_option maxHeartbeats 4000000 in
theorem alive_ok : PC Tryd.prog 20 [] (.av .bool (.b true)) := by
  obtain ⟨row, hrow⟩ : ∃ row, row = rowV (bytesL tA) := ⟨_, rfl⟩
  have h1 := tA_bytes_len
  have h2 := tA_bytes3
  have h3 := tA_bytes35
  have h4 := tA_bytesTV
  rw [← hrow] at h1 h2 h3 h4
  refine PC.of <| ACalls.of_vc laid mixed Tryd.func20 rfl (by kernel_rfl) cf0 (by simp [Tryd.ntmps20]) fun imm0 w0 => ?_
  (simp (maxSteps := 2000000) (disch := first | omega | assumption) [i64_in, tnS, Int.toNat_add, Int.toNat_mul, List.getElem?_cons_zero, List.getElem_cons_zero])
  refine callV_pc (bytes_ok tA ⟨⟨by simp [tA], by simp [tA]⟩, ⟨by simp [tA], by simp [tA]⟩⟩ ⟨by simp [tA, zero32], by simp [tA, zero32], by simp [tA]⟩ (fun _ => by rw [tA_bytes_len]; omega)) rfl rfl (by simp) (by simp [argLe, TV.er, AV.er, AV.ers, encTrace, encReads, encMades, encRead, tA, zero32, encD]) ?_
  (simp (maxSteps := 2000000) (disch := first | omega | assumption) [i64_in, tnS, Int.toNat_add, Int.toNat_mul, List.getElem?_cons_zero, List.getElem_cons_zero, h4])
  refine callV_pc (holds_ok tA [] (by simp) (by simp [tA])) rfl rfl (by simp) (by simp [argLe, TV.er, AV.er, AV.ers, encTrace, encReads, encMades, encRead, tA, zero32, encD]) ?_
  have h5 : row.take 43 = row := List.take_of_length_le (by omega)
  (simp (maxSteps := 2000000) (disch := first | omega | assumption) [i64_in, tnS, Int.toNat_add, Int.toNat_mul, List.getElem?_cons_zero, List.getElem_cons_zero, tA_holds, h1, h2, h3, h5, Tryd.f20])
def knowsV (l : List Read) (q : List UInt8) : Bool := l.any fun x => decide (x.path = q)
theorem knows_ok (l : List Read) (q : List UInt8) (hl : l.length ≤ 9223372036854775807) :
    PC Tryd.prog 27 [.av (.slice 43) (encReads l), .av .str (.s q)] (.av .bool (.b (knowsV l q))) := by
  refine PC.of <| ACalls.of_vc laid mixed Tryd.func27 rfl (by kernel_rfl) cf0 (by simp [Tryd.ntmps27]) fun imm0 w0 => ?_
  (simp (maxSteps := 2000000) (disch := first | omega | assumption) [i64_in, tnS, Int.toNat_add, Int.toNat_mul, List.getElem?_cons_zero, List.getElem_cons_zero, encReads])
  refine AT.loop' (α := Nat) (fun k => St.of [(0, .av (.slice 43) (encReads l)), (1, .av .str (.s q)), (5, .av (.int .i64) (.i .i64 k))] [] (fun _ => 0) [])
    (fun k => k ≤ l.length ∧ knowsV l q = knowsV (l.drop k) q) (fun k => l.length - k) 0 ?_ ?_ ?_
  · refine Le.of ?_ ?_ ?_ ?_ ?_ <;> simp [leTV, locsIn, encDigs, encTraces, encWant, encTrace, encReads, encRead, encMades, encMade, encReads] <;> try omega
  · simp
  rintro k ⟨hk', hpk⟩ KL hN hE
  refine vc_sound (cf := cf0) laid mixed _ _ _ (by kernel_rfl) ?_
  by_cases hlt : k < l.length
  · have hlt' : (k : Int) < l.length := by omega
    have hg := map_get encRead l k hlt
    have hdr : l.drop k = l[k] :: l.drop (k+1) := (List.getElem_cons_drop hlt).symm
    by_cases hp : l[k].path = q
    · have : knowsV l q = true := by rw [hpk, hdr]; simp only [knowsV, List.any_cons, hp, decide_true, decide_false, Bool.true_or, Bool.false_or]
      (simp (maxSteps := 2000000) (disch := first | omega | assumption) [i64_in, tnS, Int.toNat_add, Int.toNat_mul, List.getElem?_cons_zero, List.getElem_cons_zero, hlt', encReads, encRead, hg, hp])
      refine hE _ _ (by simp) ?_
      (simp (maxSteps := 2000000) (disch := first | omega | assumption) [i64_in, tnS, Int.toNat_add, Int.toNat_mul, List.getElem?_cons_zero, List.getElem_cons_zero, Tryd.f27, this])
    · have : knowsV l q = knowsV (l.drop (k+1)) q := by rw [hpk, hdr]; simp only [knowsV, List.any_cons, hp, decide_true, decide_false, Bool.true_or, Bool.false_or]
      (simp (maxSteps := 2000000) (disch := first | omega | assumption) [i64_in, tnS, Int.toNat_add, Int.toNat_mul, List.getElem?_cons_zero, List.getElem_cons_zero, hlt', encReads, encRead, hg, hp])
      (repeat ((with_reducible refine And.intro ?_ ?_); (· first | omega | (show barB _ _ = true; kernel_rfl) | (show rdJ _ _ _ _ _ = true; kernel_rfl) | (show tailB _ _ _ = true; kernel_rfl) | (show sftB _ _ _ = true; kernel_rfl))))
      refine hN _ (k+1) ?_ ⟨by omega, this⟩ (by omega)
      refine Le.of ?_ ?_ ?_ ?_ ?_ <;> simp [leTV, locsIn, encDigs, encTraces, encWant, encTrace, encReads, encRead, encMades, encMade, encReads] <;> try omega
  · have hlt' : ¬ (k : Int) < l.length := by omega
    rw [List.drop_of_length_le (by omega)] at hpk
    (simp (maxSteps := 2000000) (disch := first | omega | assumption) [i64_in, tnS, Int.toNat_add, Int.toNat_mul, List.getElem?_cons_zero, List.getElem_cons_zero, hlt', encReads])
    refine hE _ _ (by simp) ?_
    have hf : knowsV l q = false := by rw [hpk]; rfl
    (simp (maxSteps := 2000000) (disch := first | omega | assumption) [i64_in, tnS, Int.toNat_add, Int.toNat_mul, List.getElem?_cons_zero, List.getElem_cons_zero, Tryd.f27, hf])
def emptyV (t : Trace) : Bool := t.reads.any fun x => decide (x.path = [])
theorem empty_ok (t : Trace) (hl : t.reads.length ≤ 9223372036854775807) :
    PC Tryd.prog 26 [.av (tyOf Tryd.prog 28) (encTrace t)] (.av .bool (.b (emptyV t))) := by
  refine PC.of <| ACalls.of_vc laid mixed Tryd.func26 rfl (by kernel_rfl) cf0 (by simp [Tryd.ntmps26]) fun imm0 w0 => ?_
  (simp (maxSteps := 2000000) (disch := first | omega | assumption) [i64_in, tnS, Int.toNat_add, Int.toNat_mul, List.getElem?_cons_zero, List.getElem_cons_zero])
  refine AT.loop' (α := Nat) (fun k => St.of [(1, .loc 1 []), (3, .av (.int .i64) (.i .i64 k))] [(1, (tyOf Tryd.prog 28, encTrace t))] (fun _ => 0) [])
    (fun k => k ≤ t.reads.length ∧ t.reads.any (fun x => decide (x.path = [])) = (t.reads.drop k).any (fun x => decide (x.path = []))) (fun k => t.reads.length - k) 0 ?_ ?_ ?_
  · refine Le.of ?_ ?_ ?_ ?_ ?_ <;> simp [leTV, locsIn, encDigs, encTraces, encWant, encTrace, encReads, encRead, encMades, encMade, encReads, encTrace] <;> try omega
  · simp
  rintro k ⟨hk', hpk⟩ KL hN hE
  refine vc_sound (cf := cf0) laid mixed _ _ _ (by kernel_rfl) ?_
  by_cases hlt : k < t.reads.length
  · have hlt' : (k : Int) < t.reads.length := by omega
    have hg := map_get encRead t.reads k hlt
    have hdr : t.reads.drop k = t.reads[k] :: t.reads.drop (k+1) := (List.getElem_cons_drop hlt).symm
    by_cases hp : t.reads[k].path = []
    · have : emptyV t = true := by unfold emptyV; rw [hpk, hdr]; simp only [List.any_cons, hp, decide_true, decide_false, Bool.true_or, Bool.false_or]
      (simp (maxSteps := 2000000) (disch := first | omega | assumption) [i64_in, tnS, Int.toNat_add, Int.toNat_mul, List.getElem?_cons_zero, List.getElem_cons_zero, hlt', encTrace, encReads, encRead, hg, hp])
      refine hE _ _ (by simp) ?_
      (simp (maxSteps := 2000000) (disch := first | omega | assumption) [i64_in, tnS, Int.toNat_add, Int.toNat_mul, List.getElem?_cons_zero, List.getElem_cons_zero, Tryd.f26, this])
    · have : t.reads.any (fun x => decide (x.path = [])) = (t.reads.drop (k+1)).any (fun x => decide (x.path = [])) := by rw [hpk, hdr]; simp only [List.any_cons, hp, decide_true, decide_false, Bool.true_or, Bool.false_or]
      (simp (maxSteps := 2000000) (disch := first | omega | assumption) [i64_in, tnS, Int.toNat_add, Int.toNat_mul, List.getElem?_cons_zero, List.getElem_cons_zero, hlt', encTrace, encReads, encRead, hg, hp])
      (repeat ((with_reducible refine And.intro ?_ ?_); (· first | omega | (show barB _ _ = true; kernel_rfl) | (show rdJ _ _ _ _ _ = true; kernel_rfl) | (show tailB _ _ _ = true; kernel_rfl) | (show sftB _ _ _ = true; kernel_rfl))))
      refine hN _ (k+1) ?_ ⟨by omega, this⟩ (by omega)
      refine Le.of ?_ ?_ ?_ ?_ ?_ <;> simp [leTV, locsIn, encDigs, encTraces, encWant, encTrace, encReads, encRead, encMades, encMade, encReads, encTrace] <;> try omega
  · have hlt' : ¬ (k : Int) < t.reads.length := by omega
    rw [List.drop_of_length_le (by omega)] at hpk
    (simp (maxSteps := 2000000) (disch := first | omega | assumption) [i64_in, tnS, Int.toNat_add, Int.toNat_mul, List.getElem?_cons_zero, List.getElem_cons_zero, hlt', encTrace, encReads])
    refine hE _ _ (by simp) ?_
    have hf : emptyV t = false := by unfold emptyV; rw [hpk]; rfl
    (simp (maxSteps := 2000000) (disch := first | omega | assumption) [i64_in, tnS, Int.toNat_add, Int.toNat_mul, List.getElem?_cons_zero, List.getElem_cons_zero, Tryd.f26, hf])
def sumR (l : List Read) : Nat := (l.map fun r => min r.path.length 3000).sum
def sumM (l : List Made) : Nat := (l.map fun r => min r.path.length 3000).sum
theorem sumR_le : ∀ l, sumR l ≤ 3000 * l.length
  | [] => by simp [sumR]
  | r :: l => by have := sumR_le l; simp only [sumR, List.map_cons, List.sum_cons, List.length_cons] at this ⊢; omega
theorem sumM_le : ∀ l, sumM l ≤ 3000 * l.length
  | [] => by simp [sumM]
  | r :: l => by have := sumM_le l; simp only [sumM, List.map_cons, List.sum_cons, List.length_cons] at this ⊢; omega
def wideTV (t : Trace) : Bool := if 60 < t.reads.length then true else if 60 < t.outs.length then true else decide (3000 < sumR t.reads + sumM t.outs)
set_option maxHeartbeats 4000000 in
theorem wide_ok (t : Trace) (hl : t.reads.length ≤ 9223372036854775807) (hm : t.outs.length ≤ 9223372036854775807) (hlp : ∀ r ∈ t.reads, r.path.length ≤ 9223372036854775807) (hmp : ∀ r ∈ t.outs, r.path.length ≤ 9223372036854775807) :
    PC Tryd.prog 23 [.av (tyOf Tryd.prog 28) (encTrace t)] (.av .bool (.b (wideTV t))) := by
  refine PC.of <| ACalls.of_vc laid mixed Tryd.func23 rfl (by kernel_rfl) cf0 (by simp [Tryd.ntmps23]) fun imm0 w0 => ?_
  by_cases h1 : 60 < t.reads.length
  · have h1' : (60 : Int) < t.reads.length := by omega
    (simp (maxSteps := 2000000) (disch := first | omega | assumption) [i64_in, tnS, Int.toNat_add, Int.toNat_mul, List.getElem?_cons_zero, List.getElem_cons_zero, encTrace, encReads, encMades, h1', Tryd.f23, wideTV, h1])
  have h1' : ¬ (60 : Int) < t.reads.length := by omega
  by_cases h2 : 60 < t.outs.length
  · have h2' : (60 : Int) < t.outs.length := by omega
    (simp (maxSteps := 2000000) (disch := first | omega | assumption) [i64_in, tnS, Int.toNat_add, Int.toNat_mul, List.getElem?_cons_zero, List.getElem_cons_zero, encTrace, encReads, encMades, h1', h2', Tryd.f23, wideTV, h1, h2])
  have h2' : ¬ (60 : Int) < t.outs.length := by omega
  (simp (maxSteps := 2000000) (disch := first | omega | assumption) [i64_in, tnS, Int.toNat_add, Int.toNat_mul, List.getElem?_cons_zero, List.getElem_cons_zero, encTrace, encReads, encMades, h1', h2'])
  refine AT.loop' (α := Nat) (fun k => St.of [(1, .loc 1 []), (3, .av (.int .i64) (.i .i64 (sumR (t.reads.take k)))), (4, .av (.int .i64) (.i .i64 k))] [(1, (tyOf Tryd.prog 28, encTrace t))] (fun _ => 0) [])
    (fun k => k ≤ t.reads.length) (fun k => t.reads.length - k) 0 ?_ ?_ ?_
  · refine Le.of ?_ ?_ ?_ ?_ ?_ <;> simp [leTV, locsIn, encDigs, encTraces, encWant, encTrace, encReads, encRead, encMades, encMade, encReads, encTrace, encMades, sumR] <;> try omega
  · simp
  · rintro k hk KL hN hE
    have hs := sumR_le (t.reads.take k)
    rw [List.length_take] at hs
    refine vc_sound (cf := cf0) laid mixed _ _ _ (by kernel_rfl) ?_
    by_cases hlt : k < t.reads.length
    · have hlt' : (k : Int) < t.reads.length := by omega
      have hg := map_get encRead t.reads k hlt
      have hp := hlp t.reads[k] (List.getElem_mem _)
      have htk : (sumR (t.reads.take (k+1)) : Int) = sumR (t.reads.take k) + if (3000 : Int) < t.reads[k].path.length then 3000 else t.reads[k].path.length := by
        rw [List.take_succ_eq_append_getElem hlt]
        simp only [sumR, List.map_append, List.sum_append, List.map_cons, List.sum_cons, List.map_nil, List.sum_nil]
        split <;> omega
      by_cases hm3 : (3000 : Int) < t.reads[k].path.length
      · rw [if_pos hm3] at htk
        (simp (maxSteps := 2000000) (disch := first | omega | assumption) [i64_in, tnS, Int.toNat_add, Int.toNat_mul, List.getElem?_cons_zero, List.getElem_cons_zero, hlt', encTrace, encReads, encRead, hg, hm3])
        (repeat ((with_reducible refine And.intro ?_ ?_); (· first | omega | (show barB _ _ = true; kernel_rfl) | (show rdJ _ _ _ _ _ = true; kernel_rfl) | (show tailB _ _ _ = true; kernel_rfl) | (show sftB _ _ _ = true; kernel_rfl))))
        refine hN _ (k+1) ?_ (by omega) (by omega)
        refine Le.of ?_ ?_ ?_ ?_ ?_ <;> simp [leTV, locsIn, encDigs, encTraces, encWant, encTrace, encReads, encRead, encMades, encMade, encReads, encTrace, htk] <;> try omega
      · rw [if_neg hm3] at htk
        (simp (maxSteps := 2000000) (disch := first | omega | assumption) [i64_in, tnS, Int.toNat_add, Int.toNat_mul, List.getElem?_cons_zero, List.getElem_cons_zero, hlt', encTrace, encReads, encRead, hg, hm3])
        (repeat ((with_reducible refine And.intro ?_ ?_); (· first | omega | (show barB _ _ = true; kernel_rfl) | (show rdJ _ _ _ _ _ = true; kernel_rfl) | (show tailB _ _ _ = true; kernel_rfl) | (show sftB _ _ _ = true; kernel_rfl))))
        refine hN _ (k+1) ?_ (by omega) (by omega)
        refine Le.of ?_ ?_ ?_ ?_ ?_ <;> simp [leTV, locsIn, encDigs, encTraces, encWant, encTrace, encReads, encRead, encMades, encMade, encReads, encTrace, htk] <;> try omega
    · have hlt' : ¬ (k : Int) < t.reads.length := by omega
      have hkn : k = t.reads.length := by omega
      subst hkn
      (simp (maxSteps := 2000000) (disch := first | omega | assumption) [i64_in, tnS, Int.toNat_add, Int.toNat_mul, List.getElem?_cons_zero, List.getElem_cons_zero, hlt', encTrace, encReads])
      refine hE _ _ (by simp) ?_
      clear hN hE
      rw [List.take_length] at hs
      (simp (maxSteps := 2000000) (disch := first | omega | assumption) [i64_in, tnS, Int.toNat_add, Int.toNat_mul, List.getElem?_cons_zero, List.getElem_cons_zero])
      refine AT.loop' (α := Nat) (fun k => St.of [(1, .loc 1 []), (3, .av (.int .i64) (.i .i64 (sumR t.reads + sumM (t.outs.take k) : Nat))), (5, .av (.int .i64) (.i .i64 k))] [(1, (tyOf Tryd.prog 28, encTrace t))] (fun _ => 0) [])
        (fun k => k ≤ t.outs.length) (fun k => t.outs.length - k) 0 ?_ ?_ ?_
      · refine Le.of ?_ ?_ ?_ ?_ ?_ <;> simp [leTV, locsIn, encDigs, encTraces, encWant, encTrace, encReads, encRead, encMades, encMade, encReads, encTrace, encMades, sumM] <;> try omega
      · simp
      rintro k hk KL2 hN hE
      have hs2 := sumM_le (t.outs.take k)
      rw [List.length_take] at hs2
      refine vc_sound (cf := cf0) laid mixed _ _ _ (by kernel_rfl) ?_
      by_cases hlt : k < t.outs.length
      · have hlt' : (k : Int) < t.outs.length := by omega
        have hg := map_get encMade t.outs k hlt
        have hp := hmp t.outs[k] (List.getElem_mem _)
        have htk : ((sumR t.reads + sumM (t.outs.take (k+1)) : Nat) : Int) = (sumR t.reads + sumM (t.outs.take k) : Nat) + if (3000 : Int) < t.outs[k].path.length then 3000 else t.outs[k].path.length := by
          rw [List.take_succ_eq_append_getElem hlt]
          simp only [sumM, List.map_append, List.sum_append, List.map_cons, List.sum_cons, List.map_nil, List.sum_nil]
          split <;> omega
        by_cases hm3 : (3000 : Int) < t.outs[k].path.length
        · rw [if_pos hm3] at htk
          (simp (maxSteps := 2000000) (disch := first | omega | assumption) [i64_in, tnS, Int.toNat_add, Int.toNat_mul, List.getElem?_cons_zero, List.getElem_cons_zero, hlt', encTrace, encMades, encMade, hg, hm3])
          (repeat ((with_reducible refine And.intro ?_ ?_); (· first | omega | (show barB _ _ = true; kernel_rfl) | (show rdJ _ _ _ _ _ = true; kernel_rfl) | (show tailB _ _ _ = true; kernel_rfl) | (show sftB _ _ _ = true; kernel_rfl))))
          refine hN _ (k+1) ?_ (by omega) (by omega)
          refine Le.of ?_ ?_ ?_ ?_ ?_ <;> simp [leTV, locsIn, encDigs, encTraces, encWant, encTrace, encReads, encRead, encMades, encMade, encMades, encTrace, htk] <;> try omega
        · rw [if_neg hm3] at htk
          (simp (maxSteps := 2000000) (disch := first | omega | assumption) [i64_in, tnS, Int.toNat_add, Int.toNat_mul, List.getElem?_cons_zero, List.getElem_cons_zero, hlt', encTrace, encMades, encMade, hg, hm3])
          (repeat ((with_reducible refine And.intro ?_ ?_); (· first | omega | (show barB _ _ = true; kernel_rfl) | (show rdJ _ _ _ _ _ = true; kernel_rfl) | (show tailB _ _ _ = true; kernel_rfl) | (show sftB _ _ _ = true; kernel_rfl))))
          refine hN _ (k+1) ?_ (by omega) (by omega)
          refine Le.of ?_ ?_ ?_ ?_ ?_ <;> simp [leTV, locsIn, encDigs, encTraces, encWant, encTrace, encReads, encRead, encMades, encMade, encMades, encTrace, htk] <;> try omega
      · have hlt' : ¬ (k : Int) < t.outs.length := by omega
        have hkn : k = t.outs.length := by omega
        subst hkn
        (simp (maxSteps := 2000000) (disch := first | omega | assumption) [i64_in, tnS, Int.toNat_add, Int.toNat_mul, List.getElem?_cons_zero, List.getElem_cons_zero, hlt', encTrace, encMades])
        refine hE _ _ (by simp) ?_
        rw [List.take_length] at hs2
        by_cases h3 : 3000 < sumR t.reads + sumM t.outs
        · have h3' : (3000 : Int) < (sumR t.reads : Int) + sumM t.outs := by omega
          (simp (maxSteps := 2000000) (disch := first | omega | assumption) [i64_in, tnS, Int.toNat_add, Int.toNat_mul, List.getElem?_cons_zero, List.getElem_cons_zero, Tryd.f23, wideTV, h1, h2, h3, h3'])
        · have h3' : ¬ (3000 : Int) < (sumR t.reads : Int) + sumM t.outs := by omega
          (simp (maxSteps := 2000000) (disch := first | omega | assumption) [i64_in, tnS, Int.toNat_add, Int.toNat_mul, List.getElem?_cons_zero, List.getElem_cons_zero, Tryd.f23, wideTV, h1, h2, h3, h3'])
end Go.Proofs.YtmkpbigaafemnaaDoor
