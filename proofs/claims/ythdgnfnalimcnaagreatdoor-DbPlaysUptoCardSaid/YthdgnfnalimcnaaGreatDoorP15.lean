/- May a trace be? The program's check. No condition beyond each theorem's own. -/
import Derived.Test.YthdgnfnalimcnaaGreatDoorP12
import Derived.Test.YthdgnfnalimcnaaGreatDoorP14
set_option linter.unusedSimpArgs false
set_option linter.unusedVariables false
set_option linter.unusedSectionVars false
set_option maxRecDepth 100000
/-! May a trace be? The program's check. -/
namespace Go.Proofs.YthdgnfnalimcnaaGreatDoor
open Go Go.Ab
open Classical
variable [Sel]
attribute [local simp] vc_skip hiLen zN capV cpyD appendZ clearV delV mdel copyVT extV ovV vc_label vc_region vc_drawn vc_seq vc_cond vc_block vc_exit vc_goto vc_ret vc_loop vc_scope vcOps_nil vcOps_cons vcPs_nil vcPs_cons vcDs_nil vcDs_cons vcD impB mkd wkOf isCallV rdOK_eq rdO_nil rdO_tmp rdO_const rdO_global rdO_func rdL_nil rdL_cons rdT_av rdT_cst rdT_pel rdT_tup rdT_junk rdT_loc St.app Op.operands Call.operands vcG_eq iteP wkOf isCallV vcOp putK_eq pureV ev co coC asI asB asS isNil nkOf derefV fieldAddrV indexAddrV indexV lowV boundsV sliceV pickV_eq unV convV convB bytesOf capOf lenV minV maxV withSrc slice3V lookupV mapOf mfind mput scalT mapUpdV makeSliceV appendM appendN growM growOK zM binI isConst binV St.put upd KSeq_n KSeq_x KSeq_g KSeq_r KBlock_n KBlock_x KBlock_g KBlock_r KScope_n KScope_x KScope_r KRet_n KRet_r resL retTV TV.er AV.er AV.ers AV.erk AV.erks Tok.k Heap.er_nil Heap.er_cons Heap.er_app HObj.er_var HObj.er_map Heap.keys_nil Heap.keys_cons Heap.keys_app hget hset subT getP setP_nil setP_one setP_two setPo_some storeV buildV buildL partsOf capTV argOK entry St.of lk_nil lk_cons leLoc siterOf_siter gB_undef gB_av gB_cst undef isNE_tmp isSlT nslD nslDs mslOf mstrV copyV copyK unsV ustrV hdel dataV sameP mtbD isSlN slNilV vcDo_nil vcDo_cons isLt sft sftD softV rangeMV entryMV cmpV

@[simp] theorem fnok54 : fnOK Tryz.prog 54 = true := by kernel_rfl
@[simp] theorem isne54 : isNE Tryz.prog (.func 54) = false := isNE_func fnok54
@[simp] theorem fnok55 : fnOK Tryz.prog 55 = true := by kernel_rfl
@[simp] theorem isne55 : isNE Tryz.prog (.func 55) = false := isNE_func fnok55
@[simp] theorem fnok27 : fnOK Tryz.prog 27 = true := by kernel_rfl
@[simp] theorem isne27 : isNE Tryz.prog (.func 27) = false := isNE_func fnok27
@[simp] theorem fnok18 : fnOK Tryz.prog 18 = true := by kernel_rfl
@[simp] theorem isne18 : isNE Tryz.prog (.func 18) = false := isNE_func fnok18
def zero32 : List UInt8 := List.replicate 32 0
theorem encD_zero : encD zero32 = .agg (List.replicate 32 (.i .u8 0)) := by simp [encD, zero32]
def outT : List UInt8 := [111, 117, 116]
/-- why reads may not be, behind paths that were met -/
noncomputable def readsV : List (List UInt8) → List Read → Int
  | _, [] => 0
  | met, r :: rs => if mayV r.path = false then 1 else if r.path ∈ met then 8 else if r.is = false ∧ r.sum ≠ zero32 then 5 else readsV (met ++ [r.path]) rs
/-- why outs may not be, behind one -/
noncomputable def outsV : Option (List UInt8) → List Made → Int
  | _, [] => 0
  | none, m :: ms => if underV m.path outT = false then 1 else outsV (some m.path) ms
  | some q, m :: ms => if underV m.path outT = false then 1 else if m.path = q then 8 else if Op.bytesLess m.path q = true then 2 else outsV (some m.path) ms
noncomputable def checkV (t : Trace) : Int := if 500 < t.reads.length ∨ 1000 < t.outs.length then 6 else if readsV [] t.reads ≠ 0 then readsV [] t.reads else outsV none t.outs
def metM (l : List (List UInt8)) : List (AV × AV) := l.map fun p => (.s p, .b true)
theorem mfind_met (p : List UInt8) : ∀ l, mfind (.s p) (metM l) = if p ∈ l then some (.b true) else none
  | [] => rfl
  | q :: l => by
    have := mfind_met p l
    simp only [metM, List.map_cons, mfind] at this ⊢
    by_cases h : q = p
    · simp [h]
    · have h' : ¬ p = q := fun e => h e.symm
      simp only [AV.s.injEq, h, if_false, this, List.mem_cons, h', false_or]
theorem mput_met {p : List UInt8} : ∀ {l}, p ∉ l → mput (.s p) (.b true) (metM l) = metM (l ++ [p])
  | [], _ => rfl
  | q :: l, h => by
    simp only [List.mem_cons, not_or] at h
    have := mput_met (l := l) h.2
    have h' : ¬ q = p := fun e => h.1 e.symm
    simp only [metM, List.map_cons, mput, AV.s.injEq, h', if_false] at this ⊢
    rw [this]; rfl
@[simp] theorem metM_er (l : List (List UInt8)) : (metM l).map (fun p => (p.1.er, p.2.er)) = metM l := by simp [metM, AV.er, Function.comp_def]
def RdOK (l : List Read) : Prop := l.length ≤ 9223372036854775807 ∧ ∀ r ∈ l, r.path.length ≤ 9223372036854775807
def MdOK (l : List Made) : Prop := l.length ≤ 9223372036854775807 ∧ ∀ r ∈ l, r.path.length ≤ 9223372036854775807
set_option maxHeartbeats 8000000 in
theorem reads_ok (l : List Read) (hl : RdOK l) : PC Tryz.prog 54 [.av (.slice 59) (encReads l)] (.av (.int .i64) (.i .i64 (readsV [] l))) := by
  obtain ⟨hl1, hl2⟩ := hl
  unfold PC
  refine ACalls.sub (R := fun r H' => r = .av (.int .i64) (.i .i64 (readsV [] l))) ?_ (fun r H' hr _ => ⟨[], HSub.of_sub (List.nil_sublist _), hr, rfl⟩)
  refine ACalls.of_vc laid mixed Tryz.func54 rfl (by kernel_rfl) cf0 (by simp [Tryz.ntmps54]) fun imm0 w0 => ?_
  (simp (maxSteps := 2000000) (disch := first | omega | assumption) [i64_in, tnS, Int.toNat_add, Int.toNat_mul, List.getElem?_cons_zero, List.getElem_cons_zero, encReads])
  intro b
  refine AT.loop' (α := Nat) (fun k => St.of [(3, .av (.map 9 4) (.map (some b))), (7, .av (.slice 59) (encReads l)), (8, .av (.int .i64) (.i .i64 l.length)), (9, .av (.int .i64) (.i .i64 k))] [] (fun _ => 0) [(b, .map 9 4 (metM ((l.take k).map (·.path))))])
    (fun k => k ≤ l.length ∧ readsV [] l = readsV ((l.take k).map (·.path)) (l.drop k)) (fun k => l.length - k) 0 ?_ ?_ ?_
  · refine Le.of ?_ ?_ ?_ ?_ ?_ <;> simp [leTV, locsIn, encDigs, encTraces, encWant, encTrace, encReads, encRead, encMades, encMade, encReads, metM] <;> try omega
  · simp
  rintro k ⟨hk, hpk⟩ KL hN hE
  refine vc_sound (cf := cf0) laid mixed _ _ _ (by kernel_rfl) ?_
  by_cases hlt : k < l.length
  · have hlt' : (k : Int) < l.length := by omega
    have hdr : l.drop k = l[k] :: l.drop (k+1) := (List.getElem_cons_drop hlt).symm
    have htk : (l.take (k+1)).map (·.path) = (l.take k).map (·.path) ++ [l[k].path] := by
      rw [List.take_succ_eq_append_getElem hlt]
      simp only [List.map_append, List.map_cons, List.map_nil]
    have hg := map_get encRead l k hlt
    have hpl := hl2 l[k] (List.getElem_mem _)
    obtain ⟨r, hr⟩ : ∃ r, r = l[k] := ⟨_, rfl⟩
    rw [← hr] at hdr htk hg hpl
    generalize hmet : (l.take k).map (·.path) = met at *
    have hfd := mfind_met r.path met
    rw [hdr, readsV] at hpk
    (simp (maxSteps := 2000000) (disch := first | omega | assumption) [i64_in, tnS, Int.toNat_add, Int.toNat_mul, List.getElem?_cons_zero, List.getElem_cons_zero, hlt', hg, encReads, encRead])
    refine callV_pc (may_ok r.path (by omega)) rfl rfl (by simp) (by simp [argLe, TV.er, AV.er]) ?_
    cases hm : mayV r.path
    · rw [if_pos hm] at hpk
      (simp (maxSteps := 2000000) (disch := first | omega | assumption) [i64_in, tnS, Int.toNat_add, Int.toNat_mul, List.getElem?_cons_zero, List.getElem_cons_zero])
      refine hE _ _ (by simp) ?_
      (simp (maxSteps := 2000000) (disch := first | omega | assumption) [i64_in, tnS, Int.toNat_add, Int.toNat_mul, List.getElem?_cons_zero, List.getElem_cons_zero, Tryz.f54, hpk])
    rw [if_neg (by simp [hm])] at hpk
    by_cases hin : r.path ∈ met
    · rw [if_pos hin] at hpk hfd
      (simp (maxSteps := 2000000) (disch := first | omega | assumption) [i64_in, tnS, Int.toNat_add, Int.toNat_mul, List.getElem?_cons_zero, List.getElem_cons_zero, hfd])
      refine hE _ _ (by simp) ?_
      (simp (maxSteps := 2000000) (disch := first | omega | assumption) [i64_in, tnS, Int.toNat_add, Int.toNat_mul, List.getElem?_cons_zero, List.getElem_cons_zero, Tryz.f54, hpk])
    rw [if_neg hin] at hpk hfd
    have hmp := mput_met hin
    cases his : r.is
    · by_cases hz : r.sum = zero32
      · rw [if_neg (by simp [hz])] at hpk
        (simp (maxSteps := 2000000) (disch := first | omega | assumption) [i64_in, tnS, Int.toNat_add, Int.toNat_mul, List.getElem?_cons_zero, List.getElem_cons_zero, hfd, his, hz, encD_zero, hmp, -List.reduceReplicate])
        refine hN _ (k+1) ?_ ⟨by omega, by rw [htk]; exact hpk⟩ (by omega)
        refine Le.of ?_ ?_ ?_ ?_ ?_ <;> simp [leTV, locsIn, encDigs, encTraces, encWant, encTrace, encReads, encRead, encMades, encMade, encReads, htk] <;> try omega
      · rw [if_pos ⟨his, hz⟩] at hpk
        have hz' : ¬ r.sum.map (fun b => AV.i .u8 b.toNat) = List.replicate 32 (.i .u8 0) := by
          intro h
          have := encD_zero
          simp only [encD, AV.agg.injEq] at this
          exact hz (encD_inj'.1 (h.trans this.symm))
        (simp (maxSteps := 2000000) (disch := first | omega | assumption) [i64_in, tnS, Int.toNat_add, Int.toNat_mul, List.getElem?_cons_zero, List.getElem_cons_zero, hfd, his, encD, hz', -List.reduceReplicate])
        refine hE _ _ (by simp) ?_
        (simp (maxSteps := 2000000) (disch := first | omega | assumption) [i64_in, tnS, Int.toNat_add, Int.toNat_mul, List.getElem?_cons_zero, List.getElem_cons_zero, Tryz.f54, hpk])
    · rw [if_neg (by simp [his])] at hpk
      (simp (maxSteps := 2000000) (disch := first | omega | assumption) [i64_in, tnS, Int.toNat_add, Int.toNat_mul, List.getElem?_cons_zero, List.getElem_cons_zero, hfd, his, hmp])
      refine hN _ (k+1) ?_ ⟨by omega, by rw [htk]; exact hpk⟩ (by omega)
      refine Le.of ?_ ?_ ?_ ?_ ?_ <;> simp [leTV, locsIn, encDigs, encTraces, encWant, encTrace, encReads, encRead, encMades, encMade, encReads, htk] <;> try omega
  · have hlt' : ¬ (k : Int) < l.length := by omega
    (simp (maxSteps := 2000000) (disch := first | omega | assumption) [i64_in, tnS, Int.toNat_add, Int.toNat_mul, List.getElem?_cons_zero, List.getElem_cons_zero, hlt'])
    refine hE _ _ (by simp) ?_
    rw [List.drop_of_length_le (by omega), readsV] at hpk
    (simp (maxSteps := 2000000) (disch := first | omega | assumption) [i64_in, tnS, Int.toNat_add, Int.toNat_mul, List.getElem?_cons_zero, List.getElem_cons_zero, Tryz.f54, hpk])
end Go.Proofs.YthdgnfnalimcnaaGreatDoor
