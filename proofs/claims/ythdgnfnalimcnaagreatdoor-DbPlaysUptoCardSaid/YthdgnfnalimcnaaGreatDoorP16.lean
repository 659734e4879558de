/- May a trace be? The program's check of outs. No condition beyond each theorem's own. -/
import Derived.Test.YthdgnfnalimcnaaGreatDoorP15
set_option linter.unusedSimpArgs false
set_option linter.unusedVariables false
set_option linter.unusedSectionVars false
set_option maxRecDepth 100000
/-! May a trace be? The program's check of outs. -/
namespace Go.Proofs.YthdgnfnalimcnaaGreatDoor
open Go Go.Ab
open Classical
variable [Sel]
attribute [local simp] vc_skip hiLen zN capV cpyD appendZ clearV delV mdel copyVT extV ovV vc_label vc_region vc_drawn vc_seq vc_cond vc_block vc_exit vc_goto vc_ret vc_loop vc_scope vcOps_nil vcOps_cons vcPs_nil vcPs_cons vcDs_nil vcDs_cons vcD impB mkd wkOf isCallV rdOK_eq rdO_nil rdO_tmp rdO_const rdO_global rdO_func rdL_nil rdL_cons rdT_av rdT_cst rdT_pel rdT_tup rdT_junk rdT_loc St.app Op.operands Call.operands vcG_eq iteP wkOf isCallV vcOp putK_eq pureV ev co coC asI asB asS isNil nkOf derefV fieldAddrV indexAddrV indexV lowV boundsV sliceV pickV_eq unV convV convB bytesOf capOf lenV minV maxV withSrc slice3V lookupV mapOf mfind mput scalT mapUpdV makeSliceV appendM appendN growM growOK zM binI isConst binV St.put upd KSeq_n KSeq_x KSeq_g KSeq_r KBlock_n KBlock_x KBlock_g KBlock_r KScope_n KScope_x KScope_r KRet_n KRet_r resL retTV TV.er AV.er AV.ers AV.erk AV.erks Tok.k Heap.er_nil Heap.er_cons Heap.er_app HObj.er_var HObj.er_map Heap.keys_nil Heap.keys_cons Heap.keys_app hget hset subT getP setP_nil setP_one setP_two setPo_some storeV buildV buildL partsOf capTV argOK entry St.of lk_nil lk_cons leLoc siterOf_siter gB_undef gB_av gB_cst undef isNE_tmp isSlT nslD nslDs mslOf mstrV copyV copyK unsV ustrV hdel dataV sameP mtbD isSlN slNilV vcDo_nil vcDo_cons isLt sft sftD softV rangeMV entryMV cmpV

def prevO (l : List Made) (k : Nat) : Option (List UInt8) := if k = 0 then none else (l[k-1]?).map (·.path)
set_option maxHeartbeats 8000000 in
theorem outs_ok (l : List Made) (hl : MdOK l) : PC Tryz.prog 55 [.av (.slice 73) (encMades l)] (.av (.int .i64) (.i .i64 (outsV none l))) := by
  obtain ⟨hl1, hl2⟩ := hl
  refine PC.of <| ACalls.of_vc laid mixed Tryz.func55 rfl (by kernel_rfl) cf0 (by simp [Tryz.ntmps55]) fun imm0 w0 => ?_
  (simp (maxSteps := 2000000) (disch := first | omega | assumption) [i64_in, tnS, Int.toNat_add, Int.toNat_mul, List.getElem?_cons_zero, List.getElem_cons_zero, encMades])
  refine AT.loop' (α := Nat) (fun k => St.of [(0, .av (.slice 73) (encMades l)), (5, .av (.slice 73) (encMades l)), (6, .av (.int .i64) (.i .i64 l.length)), (7, .av (.int .i64) (.i .i64 k))] [] (fun _ => 0) [])
    (fun k => k ≤ l.length ∧ outsV none l = outsV (prevO l k) (l.drop k)) (fun k => l.length - k) 0 ?_ ?_ ?_
  · refine Le.of ?_ ?_ ?_ ?_ ?_ <;> simp [leTV, locsIn, encDigs, encTraces, encWant, encTrace, encReads, encRead, encMades, encMade, encMades] <;> try omega
  · simp [prevO]
  rintro k ⟨hk, hpk⟩ KL hN hE
  refine vc_sound (cf := cf0) laid mixed _ _ _ (by kernel_rfl) ?_
  by_cases hlt : k < l.length
  · have hlt' : (k : Int) < l.length := by omega
    have hdr : l.drop k = l[k] :: l.drop (k+1) := (List.getElem_cons_drop hlt).symm
    have hpn : prevO l (k+1) = some l[k].path := by simp [prevO, List.getElem?_eq_getElem hlt]
    have hg := map_get encMade l k hlt
    have hpl := hl2 l[k] (List.getElem_mem _)
    by_cases h0 : k = 0
    · have h0' : ¬ 0 < k := by omega
      obtain ⟨m, hm⟩ : ∃ m, m = l[k] := ⟨_, rfl⟩
      rw [← hm] at hdr hpn hg hpl
      rw [hdr, prevO, if_pos h0, outsV] at hpk
      (simp (maxSteps := 2000000) (disch := first | omega | assumption) [i64_in, tnS, Int.toNat_add, Int.toNat_mul, List.getElem?_cons_zero, List.getElem_cons_zero, hlt', hg, encMades, encMade])
      refine callV_pc (under_ok m.path outT (by omega) (by decide)) rfl rfl (by simp) (by simp [argLe, TV.er, AV.er, coC, outT]) ?_
      cases hu : underV m.path outT
      · rw [if_pos hu] at hpk
        (simp (maxSteps := 2000000) (disch := first | omega | assumption) [i64_in, tnS, Int.toNat_add, Int.toNat_mul, List.getElem?_cons_zero, List.getElem_cons_zero])
        refine hE _ _ (by simp) ?_
        (simp (maxSteps := 2000000) (disch := first | omega | assumption) [i64_in, tnS, Int.toNat_add, Int.toNat_mul, List.getElem?_cons_zero, List.getElem_cons_zero, Tryz.f55, hpk])
      · rw [if_neg (by simp [hu])] at hpk
        (simp (maxSteps := 2000000) (disch := first | omega | assumption) [i64_in, tnS, Int.toNat_add, Int.toNat_mul, List.getElem?_cons_zero, List.getElem_cons_zero, h0'])
        refine hN _ (k+1) ?_ ⟨by omega, by rw [hpn]; exact hpk⟩ (by omega)
        refine Le.of ?_ ?_ ?_ ?_ ?_ <;> simp [leTV, locsIn, encDigs, encTraces, encWant, encTrace, encReads, encRead, encMades, encMade, encMades] <;> try omega
    · have h0' : 0 < k := by omega
      have hk1 : k - 1 < l.length := by omega
      have hk1' : (k : Int) - 1 < l.length := by omega
      have hk1'' : (1 : Int) ≤ k := by omega
      have hgp := map_get encMade l (k-1) hk1
      have hprev : prevO l k = some l[k-1].path := by simp [prevO, h0, List.getElem?_eq_getElem hk1]
      obtain ⟨q, hq⟩ : ∃ q, q = l[k-1] := ⟨_, rfl⟩
      obtain ⟨m, hm⟩ : ∃ m, m = l[k] := ⟨_, rfl⟩
      rw [← hm] at hdr hpn hg hpl
      rw [← hq] at hgp hprev
      rw [hdr, hprev, outsV] at hpk
      (simp (maxSteps := 2000000) (disch := first | omega | assumption) [i64_in, tnS, Int.toNat_add, Int.toNat_mul, List.getElem?_cons_zero, List.getElem_cons_zero, hlt', hg, encMades, encMade])
      refine callV_pc (under_ok m.path outT (by omega) (by decide)) rfl rfl (by simp) (by simp [argLe, TV.er, AV.er, coC, outT]) ?_
      cases hu : underV m.path outT
      · rw [if_pos hu] at hpk
        (simp (maxSteps := 2000000) (disch := first | omega | assumption) [i64_in, tnS, Int.toNat_add, Int.toNat_mul, List.getElem?_cons_zero, List.getElem_cons_zero])
        refine hE _ _ (by simp) ?_
        (simp (maxSteps := 2000000) (disch := first | omega | assumption) [i64_in, tnS, Int.toNat_add, Int.toNat_mul, List.getElem?_cons_zero, List.getElem_cons_zero, Tryz.f55, hpk])
      rw [if_neg (by simp [hu])] at hpk
      by_cases he : m.path = q.path
      · rw [if_pos he] at hpk
        (simp (maxSteps := 2000000) (disch := first | omega | assumption) [i64_in, tnS, Int.toNat_add, Int.toNat_mul, List.getElem?_cons_zero, List.getElem_cons_zero, h0', hk1', hk1'', hgp, he, encMade])
        (repeat ((with_reducible refine And.intro ?_ ?_); (· first | omega | (show barB _ _ = true; kernel_rfl) | (show rdJ _ _ _ _ _ = true; kernel_rfl) | (show tailB _ _ _ = true; kernel_rfl) | (show sftB _ _ _ = true; kernel_rfl))))
        refine hE _ _ (by simp) ?_
        (simp (maxSteps := 2000000) (disch := first | omega | assumption) [i64_in, tnS, Int.toNat_add, Int.toNat_mul, List.getElem?_cons_zero, List.getElem_cons_zero, Tryz.f55, hpk])
      rw [if_neg he] at hpk
      cases hbl : Op.bytesLess m.path q.path
      · rw [if_neg (by simp [hbl])] at hpk
        (simp (maxSteps := 2000000) (disch := first | omega | assumption) [i64_in, tnS, Int.toNat_add, Int.toNat_mul, List.getElem?_cons_zero, List.getElem_cons_zero, h0', hk1', hk1'', hgp, he, encMade, hbl])
        (repeat ((with_reducible refine And.intro ?_ ?_); (· first | omega | (show barB _ _ = true; kernel_rfl) | (show rdJ _ _ _ _ _ = true; kernel_rfl) | (show tailB _ _ _ = true; kernel_rfl) | (show sftB _ _ _ = true; kernel_rfl))))
        refine hN _ (k+1) ?_ ⟨by omega, by rw [hpn]; exact hpk⟩ (by omega)
        refine Le.of ?_ ?_ ?_ ?_ ?_ <;> simp [leTV, locsIn, encDigs, encTraces, encWant, encTrace, encReads, encRead, encMades, encMade, encMades] <;> try omega
      · rw [if_pos hbl] at hpk
        (simp (maxSteps := 2000000) (disch := first | omega | assumption) [i64_in, tnS, Int.toNat_add, Int.toNat_mul, List.getElem?_cons_zero, List.getElem_cons_zero, h0', hk1', hk1'', hgp, he, encMade, hbl])
        (repeat ((with_reducible refine And.intro ?_ ?_); (· first | omega | (show barB _ _ = true; kernel_rfl) | (show rdJ _ _ _ _ _ = true; kernel_rfl) | (show tailB _ _ _ = true; kernel_rfl) | (show sftB _ _ _ = true; kernel_rfl))))
        refine hE _ _ (by simp) ?_
        (simp (maxSteps := 2000000) (disch := first | omega | assumption) [i64_in, tnS, Int.toNat_add, Int.toNat_mul, List.getElem?_cons_zero, List.getElem_cons_zero, Tryz.f55, hpk])
  · have hlt' : ¬ (k : Int) < l.length := by omega
    (simp (maxSteps := 2000000) (disch := first | omega | assumption) [i64_in, tnS, Int.toNat_add, Int.toNat_mul, List.getElem?_cons_zero, List.getElem_cons_zero, hlt'])
    refine hE _ _ (by simp) ?_
    rw [List.drop_of_length_le (by omega)] at hpk
    have hz : ∀ o, outsV o [] = 0 := fun o => by cases o <;> rfl
    rw [hz] at hpk
    (simp (maxSteps := 2000000) (disch := first | omega | assumption) [i64_in, tnS, Int.toNat_add, Int.toNat_mul, List.getElem?_cons_zero, List.getElem_cons_zero, Tryz.f55, hpk])
def TrP (t : Trace) : Prop := RdOK t.reads ∧ MdOK t.outs
set_option maxHeartbeats 4000000 in
theorem check_ok (t : Trace) (ht : TrP t) : PC Tryz.prog 27 [.av (tyOf Tryz.prog 34) (encTrace t)] (.av (.int .i64) (.i .i64 (checkV t))) := by
  refine PC.of <| ACalls.of_vc laid mixed Tryz.func27 rfl (by kernel_rfl) cf0 (by simp [Tryz.ntmps27]) fun imm0 w0 => ?_
  by_cases h1 : 500 < t.reads.length
  · have h1' : (500 : Int) < t.reads.length := by omega
    (simp (maxSteps := 2000000) (disch := first | omega | assumption) [i64_in, tnS, Int.toNat_add, Int.toNat_mul, List.getElem?_cons_zero, List.getElem_cons_zero, encTrace, encReads, encMades, h1', Tryz.f27, checkV, h1])
  have h1' : ¬ (500 : Int) < t.reads.length := by omega
  by_cases h2 : 1000 < t.outs.length
  · have h2' : (1000 : Int) < t.outs.length := by omega
    (simp (maxSteps := 2000000) (disch := first | omega | assumption) [i64_in, tnS, Int.toNat_add, Int.toNat_mul, List.getElem?_cons_zero, List.getElem_cons_zero, encTrace, encReads, encMades, h1', h2', Tryz.f27, checkV, h1, h2])
  have h2' : ¬ (1000 : Int) < t.outs.length := by omega
  (simp (maxSteps := 2000000) (disch := first | omega | assumption) [i64_in, tnS, Int.toNat_add, Int.toNat_mul, List.getElem?_cons_zero, List.getElem_cons_zero, encTrace, encReads, encMades, h1', h2'])
  refine callV_pc (reads_ok t.reads ht.1) rfl rfl (by simp) (by simp [argLe, TV.er, AV.er, AV.ers_eq, Function.comp_def, encReads]) ?_
  by_cases h3 : readsV [] t.reads = 0
  · (simp (maxSteps := 2000000) (disch := first | omega | assumption) [i64_in, tnS, Int.toNat_add, Int.toNat_mul, List.getElem?_cons_zero, List.getElem_cons_zero, h3])
    refine callV_pc (outs_ok t.outs ht.2) rfl rfl (by simp) (by simp [argLe, TV.er, AV.er, AV.ers_eq, Function.comp_def, encMades]) ?_
    (simp (maxSteps := 2000000) (disch := first | omega | assumption) [i64_in, tnS, Int.toNat_add, Int.toNat_mul, List.getElem?_cons_zero, List.getElem_cons_zero, Tryz.f27, checkV, h1, h2, h3])
  · (simp (maxSteps := 2000000) (disch := first | omega | assumption) [i64_in, tnS, Int.toNat_add, Int.toNat_mul, List.getElem?_cons_zero, List.getElem_cons_zero, h3, Tryz.f27, checkV, h1, h2])
end Go.Proofs.YthdgnfnalimcnaaGreatDoor
