/- The program's SHA-256 of one part is the document's. No condition beyond each theorem's own. -/
import Derived.Test.YtmkpbigaafemnaaDoorS7
set_option linter.unusedSimpArgs false
set_option linter.unusedVariables false
set_option linter.unusedSectionVars false
set_option maxRecDepth 100000
/-! The program's SHA-256 of one part is the document's. -/
namespace Go.Proofs.YtmkpbigaafemnaaDoor
open Go Go.Ab
open Classical
attribute [local simp] vc_skip vc_label vc_region vc_drawn vc_seq vc_cond vc_block vc_exit vc_goto vc_ret vc_loop vc_scope vcOps_nil vcOps_cons vcPs_nil vcPs_cons vcDs_nil vcDs_cons vcD impB mkd wkOf isCallV rdOK_eq rdO_nil rdO_tmp rdO_const rdO_global rdO_func rdL_nil rdL_cons rdT_av rdT_cst rdT_pel rdT_tup rdT_junk rdT_loc St.app Op.operands Call.operands vcG_eq iteP wkOf isCallV vcOp putK_eq pureV ev co coC asI asB asS isNil nkOf derefV fieldAddrV indexAddrV indexV lowV boundsV sliceV pickV_eq unV convV convB bytesOf capOf lenV minV withSrc slice3V lookupV mapOf mfind mput scalT mapUpdV makeSliceV appendM appendN growM growOK zM binI isConst binV St.put upd KSeq_n KSeq_x KSeq_g KSeq_r KBlock_n KBlock_x KBlock_g KBlock_r KScope_n KScope_x KScope_r KRet_n KRet_r resL retTV TV.er AV.er AV.ers AV.erk AV.erks Tok.k Heap.er_nil Heap.er_cons Heap.er_app HObj.er_var HObj.er_map Heap.keys_nil Heap.keys_cons Heap.keys_app hget hset subT getP setP_nil setP_one setP_two setPo_some storeV buildV buildL partsOf capTV argOK entry St.of lk_nil lk_cons leLoc siterOf_siter gB_undef gB_av gB_cst undef isNE_tmp isSlT nslD nslDs mslOf mstrV copyV copyK unsV ustrV hdel dataV sameP mtbD isSlN slNilV vcDo_nil vcDo_cons isLt sft sftD softV

theorem hashN_split (t : List UInt8) (q : Nat) : ∀ m, hashN t (q + m) = hashF (hashN t q) (t.drop (64 * q)) m
  | 0 => rfl
  | m+1 => by
    rw [← Nat.add_assoc, hashN, hashF, hashN_split t q m, List.drop_drop]
    congr 3; omega
theorem padded_split (l : List UInt8) : (padded l).drop (64 * (l.length / 64)) = tailOf (l.drop (64 * (l.length / 64))) l.length := by
  have hp : padN (l.length - 64 * (l.length / 64)) = padN l.length := by unfold padN; omega
  have h0 : 64 * (l.length / 64) ≤ l.length := by omega
  simp only [padded, tailOf, List.length_drop, hp, List.append_assoc]
  rw [List.drop_append_of_le_length h0]
theorem sha_split (l : List UInt8) : digestW (hashF (hashN l (l.length / 64)) (tailOf (l.drop (64 * (l.length / 64))) l.length) ((tailOf (l.drop (64 * (l.length / 64))) l.length).length / 64)) = sha l := by
  have hm := padded_len l
  have hs := padded_split l
  have hlen : (padded l).length / 64 = l.length / 64 + (tailOf (l.drop (64 * (l.length / 64))) l.length).length / 64 := by
    rw [← hs, List.length_drop]
    have : l.length ≤ (padded l).length := by simp [padded]
    omega
  have ha : hashN (padded l) (l.length / 64) = hashN l (l.length / 64) := by
    have : padded l = l ++ ([128] ++ List.replicate (padN l.length) 0 ++ lenB l.length) := by simp [padded]
    rw [this]
    exact hashN_app (by omega)
  rw [sha, hlen, hashN_split, hs, ha]

def strs1 (l : List UInt8) : AV := .sl .no [.s l]
set_option maxHeartbeats 4000000 in
theorem sum_ok (l : List UInt8) (hl : l.length ≤ 1000000000000) : PC Tryd.prog 33 [.av (.slice 9) (strs1 l)] (.av (tyOf Tryd.prog 24) (encD (sha l))) := by
  have hbe : ∀ x, encBs x = .sl .no (x.map encB) := fun _ => rfl
  refine PC.of <| ACalls.of_vc laid mixed Tryd.func33 rfl (by kernel_rfl) cf0 (by simp [Tryd.ntmps33]) fun imm0 w0 => ?_
  (simp (maxSteps := 2000000) (disch := first | omega | assumption) [i64_in, tnS, Int.toNat_add, Int.toNat_mul, List.getElem?_cons_zero, List.getElem_cons_zero, strs1])
  refine callV_all (R := fun r H' => ∃ B, r = .av .ptr (.ptr B HashT []) ∧ H' = hashO B h8 (.sl .full []) 0) rfl (by simp [argOK]) (by simp) ?_ ?_
  · simpa [Heap.er_nil] using new_ok
  rintro r H' ⟨B, rfl, rfl⟩
  (simp (maxSteps := 2000000) (disch := first | omega | assumption) [i64_in, tnS, Int.toNat_add, Int.toNat_mul, List.getElem?_cons_zero, List.getElem_cons_zero, hashO])
  refine AT.loopV (α := Nat) (fun k ver => St.of [(2, .loc 2 []), (3, .av .ptr (.ptr B HashT [])), (7, .av (.slice 9) (.sl .no [.s l])), (8, .av (.int .i64) (.i .i64 1)), (9, .av (.int .i64) (.i .i64 k))] [(2, (tyOf Tryd.prog 24, .agg (List.replicate 32 (.i .u8 0))))] ver
      (match k with | 0 => hashO B h8 (.sl .full []) 0 | _+1 => hashO B (hashN l (l.length / 64)) (encBs (l.drop (64 * (l.length / 64)))) l.length))
    (fun k => k ≤ 1) (fun k => 1 - k) 0 ?_ ?_ ?_
  · refine Le.of ?_ ?_ ?_ ?_ ?_ <;> simp [leTV, locsIn, encDigs, encTraces, encWant, encTrace, encReads, encRead, encMades, encMade, hashO] <;> try omega
  · simp
  rintro k ver hk KL hN hE
  refine vc_sound (cf := cf0) laid mixed _ _ _ (by kernel_rfl) ?_
  cases k with
  | zero =>
    (simp (maxSteps := 2000000) (disch := first | omega | assumption) [i64_in, tnS, Int.toNat_add, Int.toNat_mul, List.getElem?_cons_zero, List.getElem_cons_zero, hashO])
    refine callV_all (R := fun r H' => r = .tup [] ∧ H' = hashO B (hashN l (l.length / 64)) (encBs (l.drop (64 * (l.length / 64)))) l.length) rfl (by simp [argOK]) (by simp) ?_ ?_
    · have := add_ok B l hl
      simpa [hashO, TV.er, AV.er, AV.ers_eq, AV.erk, AV.erks, AV.erks_eq, Heap.er_cons, Heap.er_nil, HObj.er_var, Function.comp_def, Tok.k] using this
    · rintro r H' ⟨rfl, rfl⟩
      (simp (maxSteps := 2000000) (disch := first | omega | assumption) [i64_in, tnS, Int.toNat_add, Int.toNat_mul, List.getElem?_cons_zero, List.getElem_cons_zero, hashO])
      refine hN _ 1 ?_ (by first | omega | (simp; done) | (simp; omega)) (by first | omega | (simp; done) | (simp; omega)); refine Le.of ?_ ?_ ?_ ?_ ?_ <;> simp [leTV, locsIn, encDigs, encTraces, encWant, encTrace, encReads, encRead, encMades, encMade, hashO] <;> try omega
  | succ k =>
    obtain rfl : k = 0 := by omega
    (simp (maxSteps := 2000000) (disch := first | omega | assumption) [i64_in, tnS, Int.toNat_add, Int.toNat_mul, List.getElem?_cons_zero, List.getElem_cons_zero, hashO])
    refine hE _ _ (by simp) ?_
    (simp (maxSteps := 2000000) (disch := first | omega | assumption) [i64_in, tnS, Int.toNat_add, Int.toNat_mul, List.getElem?_cons_zero, List.getElem_cons_zero, hashO])
    refine callV_all (R := fun r H' => r = .av (tyOf Tryd.prog 24) (encD (sha l)) ∧ H' = hashO B (hashN l (l.length / 64)) (encBs (l.drop (64 * (l.length / 64)))) l.length) rfl (by simp [argOK]) (by simp) ?_ ?_
    · have := hsum_ok B (hashN l (l.length / 64)) (l.drop (64 * (l.length / 64))) l.length (hashN_len l _) (by simp; omega) hl
      rw [sha_split] at this
      simpa [hashO, TV.er, AV.er, AV.ers_eq, AV.erk, AV.erks, AV.erks_eq, Heap.er_cons, Heap.er_nil, HObj.er_var, Function.comp_def, Tok.k] using this
    · rintro r H' ⟨rfl, rfl⟩
      (simp (maxSteps := 2000000) (disch := first | omega | assumption) [i64_in, tnS, Int.toNat_add, Int.toNat_mul, List.getElem?_cons_zero, List.getElem_cons_zero, Tryd.f33])
end Go.Proofs.YtmkpbigaafemnaaDoor
