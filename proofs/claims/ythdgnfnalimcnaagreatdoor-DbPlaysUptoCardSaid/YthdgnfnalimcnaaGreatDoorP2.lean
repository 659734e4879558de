/- A part of a path: the program's. No condition beyond each theorem's own. -/
import Derived.Test.YthdgnfnalimcnaaGreatDoorP1
set_option linter.unusedSimpArgs false
set_option linter.unusedVariables false
set_option linter.unusedSectionVars false
set_option maxRecDepth 100000
/-! A part of a path: the program's. -/
namespace Go.Proofs.YthdgnfnalimcnaaGreatDoor
open Go Go.Ab
open Classical
variable [Sel]
attribute [local simp] vc_skip hiLen zN capV cpyD appendZ clearV delV mdel copyVT extV ovV vc_label vc_region vc_drawn vc_seq vc_cond vc_block vc_exit vc_goto vc_ret vc_loop vc_scope vcOps_nil vcOps_cons vcPs_nil vcPs_cons vcDs_nil vcDs_cons vcD impB mkd wkOf isCallV rdOK_eq rdO_nil rdO_tmp rdO_const rdO_global rdO_func rdL_nil rdL_cons rdT_av rdT_cst rdT_pel rdT_tup rdT_junk rdT_loc St.app Op.operands Call.operands vcG_eq iteP wkOf isCallV vcOp putK_eq pureV ev co coC asI asB asS isNil nkOf derefV fieldAddrV indexAddrV indexV lowV boundsV sliceV pickV_eq unV convV convB bytesOf capOf lenV minV maxV withSrc slice3V lookupV mapOf mfind mput scalT mapUpdV makeSliceV appendM appendN growM growOK zM binI isConst binV St.put upd KSeq_n KSeq_x KSeq_g KSeq_r KBlock_n KBlock_x KBlock_g KBlock_r KScope_n KScope_x KScope_r KRet_n KRet_r resL retTV TV.er AV.er AV.ers AV.erk AV.erks Tok.k Heap.er_nil Heap.er_cons Heap.er_app HObj.er_var HObj.er_map Heap.keys_nil Heap.keys_cons Heap.keys_app hget hset subT getP setP_nil setP_one setP_two setPo_some storeV buildV buildL partsOf capTV argOK entry St.of lk_nil lk_cons leLoc siterOf_siter gB_undef gB_av gB_cst undef isNE_tmp isSlT nslD nslDs mslOf mstrV copyV copyK unsV ustrV hdel dataV sameP mtbD isSlN slNilV vcDo_nil vcDo_cons isLt sft sftD softV rangeMV entryMV cmpV

def badAt (l : List UInt8) : Int := match l.findIdx? (fun b => !signN b.toNat) with | some i => i | none => -1
theorem badAt_hit {l : List UInt8} {k : Nat} {b : UInt8} (h0 : ∀ x ∈ l.take k, signN x.toNat = true) (h : l[k]? = some b) (hb : signN b.toNat = false) : badAt l = k := by
  have hlt : k < l.length := (List.getElem?_eq_some_iff.1 h).1
  have : l.findIdx? (fun b => !signN b.toNat) = some k := by
    rw [List.findIdx?_eq_some_iff_getElem]
    refine ⟨hlt, ?_, fun j hj => ?_⟩
    · rw [List.getElem?_eq_getElem hlt] at h
      rw [Option.some.inj h, hb]; rfl
    · have := h0 _ (List.mem_take_iff_getElem.2 ⟨j, by omega, rfl⟩)
      simp [this]
  simp [badAt, this]
theorem badAt_miss {l : List UInt8} (h0 : ∀ x ∈ l, signN x.toNat = true) : badAt l = -1 := by
  have : l.findIdx? (fun b => !signN b.toNat) = none := by
    rw [List.findIdx?_eq_none_iff]; intro x hx; simp [h0 x hx]
  simp [badAt, this]
theorem sign_small {n : Nat} (h : signN n = true) : n < 128 := by
  unfold signN at h; have := of_decide_eq_true h; omega
theorem big_not_sign {n : Nat} (h : 128 ≤ n) : signN n = false := by
  unfold signN; apply decide_eq_false; omega

set_option maxHeartbeats 4000000 in
theorem indexFunc_ok (l : List UInt8) (hl : l.length ≤ 9223372036854775807) :
    PC Tryz.prog 153 [.av .str (.s l), .av .func (.fn 127 []), .av .bool (.b true)] (.av (.int .i64) (.i .i64 (badAt l))) := by
  refine PC.of <| ACalls.of_vc laid mixed Tryz.func153 rfl (by kernel_rfl) cf0 (by simp [Tryz.ntmps153]) fun imm0 w0 => ?_
  (simp (maxSteps := 2000000) (disch := first | omega | assumption) [i64_in, tnS, Int.toNat_add, Int.toNat_mul, List.getElem?_cons_zero, List.getElem_cons_zero])
  intro B
  refine AT.loopV (α := Nat) (fun k ver => St.of [(1, .av .func (.fn 127 [])), (2, .av .bool (.b true)), (10, .av .ptr (.ptr B .other []))] [] ver [(B, .siter l k)])
    (fun k => k ≤ l.length ∧ ∀ x ∈ l.take k, signN x.toNat = true) (fun k => l.length - k) 0 ?_ ?_ ?_
  · refine Le.of ?_ ?_ ?_ ?_ ?_ <;> simp [leTV, locsIn, encDigs, encTraces, encWant, encTrace, encReads, encRead, encMades, encMade] <;> try omega
  · simp
  rintro k ver ⟨hk, hpk⟩ KL hN hE
  refine vc_sound (cf := cf0) laid mixed _ _ _ (by kernel_rfl) ?_
  by_cases hlt : k < l.length
  · obtain ⟨b, hb⟩ : ∃ b, l[k]? = some b := ⟨_, List.getElem?_eq_getElem hlt⟩
    by_cases hs : signN b.toNat = true
    · have hr := rune_ascii hb (sign_small hs)
      (simp (maxSteps := 2000000) (disch := first | omega | assumption) [i64_in, tnS, Int.toNat_add, Int.toNat_mul, List.getElem?_cons_zero, List.getElem_cons_zero, hlt, hr])
      refine callV_pc (notSign_ok b.toNat (by have := sign_small hs; omega)) rfl rfl (by simp) (by simp [argLe, TV.er, AV.er]) ?_
      (simp (maxSteps := 2000000) (disch := first | omega | assumption) [i64_in, tnS, Int.toNat_add, Int.toNat_mul, List.getElem?_cons_zero, List.getElem_cons_zero, hs])
      refine hN _ (k+1) ?_ ⟨by omega, ?_⟩ (by omega)
      · refine Le.of ?_ ?_ ?_ ?_ ?_ <;> simp [leTV, locsIn, encDigs, encTraces, encWant, encTrace, encReads, encRead, encMades, encMade] <;> try omega
      · intro x hx
        rw [List.take_add_one, hb] at hx
        simp at hx
        rcases hx with hx | rfl
        · exact hpk x hx
        · exact hs
    · have hs' : signN b.toNat = false := by simpa using hs
      have hbad := badAt_hit hpk hb hs'
      obtain ⟨r, w', hr⟩ : ∃ r w', runeAt l k = (r, w') := ⟨_, _, rfl⟩
      have hr2 : signN r = false ∧ r ≤ 1114111 := by
        by_cases h8 : b.toNat < 128
        · rw [rune_ascii hb h8] at hr; cases hr; exact ⟨hs', by omega⟩
        · have := rune_big hb h8; rw [hr] at this; exact ⟨big_not_sign this.1, this.2⟩
      (simp (maxSteps := 2000000) (disch := first | omega | assumption) [i64_in, tnS, Int.toNat_add, Int.toNat_mul, List.getElem?_cons_zero, List.getElem_cons_zero, hlt, hr])
      refine callV_pc (notSign_ok r hr2.2) rfl rfl (by simp) (by simp [argLe, TV.er, AV.er]) ?_
      (simp (maxSteps := 2000000) (disch := first | omega | assumption) [i64_in, tnS, Int.toNat_add, Int.toNat_mul, List.getElem?_cons_zero, List.getElem_cons_zero, hr2.1])
      refine hE _ _ (by simp) ?_
      (simp (maxSteps := 2000000) (disch := first | omega | assumption) [i64_in, tnS, Int.toNat_add, Int.toNat_mul, List.getElem?_cons_zero, List.getElem_cons_zero, Tryz.f153, hbad])
  · (simp (maxSteps := 2000000) (disch := first | omega | assumption) [i64_in, tnS, Int.toNat_add, Int.toNat_mul, List.getElem?_cons_zero, List.getElem_cons_zero, hlt])
    refine hE _ _ (by simp) ?_
    have hm := badAt_miss (fun x hx => hpk x (by rwa [List.take_of_length_le (by omega)]))
    (simp (maxSteps := 2000000) (disch := first | omega | assumption) [i64_in, tnS, Int.toNat_add, Int.toNat_mul, List.getElem?_cons_zero, List.getElem_cons_zero, Tryz.f153, hm])
end Go.Proofs.YthdgnfnalimcnaaGreatDoor
