/- The parts of a text, one by one: the iterator's contract. No condition beyond each theorem's own. -/
import Derived.Test.YthdgnfnalimcnaaGreatDoorP4
set_option linter.unusedSimpArgs false
set_option linter.unusedVariables false
set_option linter.unusedSectionVars false
set_option maxRecDepth 100000
/-! The parts of a text, one by one: the iterator's contract. -/
namespace Go.Proofs.YthdgnfnalimcnaaGreatDoor
open Go Go.Ab
open Classical
variable [Sel]
attribute [local simp] vc_skip hiLen zN capV cpyD appendZ clearV delV mdel copyVT extV ovV vc_label vc_region vc_drawn vc_seq vc_cond vc_block vc_exit vc_goto vc_ret vc_loop vc_scope vcOps_nil vcOps_cons vcPs_nil vcPs_cons vcDs_nil vcDs_cons vcD impB mkd wkOf isCallV rdOK_eq rdO_nil rdO_tmp rdO_const rdO_global rdO_func rdL_nil rdL_cons rdT_av rdT_cst rdT_pel rdT_tup rdT_junk rdT_loc St.app Op.operands Call.operands vcG_eq iteP wkOf isCallV vcOp putK_eq pureV ev co coC asI asB asS isNil nkOf derefV fieldAddrV indexAddrV indexV lowV boundsV sliceV pickV_eq unV convV convB bytesOf capOf lenV minV maxV withSrc slice3V lookupV mapOf mfind mput scalT mapUpdV makeSliceV appendM appendN growM growOK zM binI isConst binV St.put upd KSeq_n KSeq_x KSeq_g KSeq_r KBlock_n KBlock_x KBlock_g KBlock_r KScope_n KScope_x KScope_r KRet_n KRet_r resL retTV TV.er AV.er AV.ers AV.erk AV.erks Tok.k Heap.er_nil Heap.er_cons Heap.er_app HObj.er_var HObj.er_map Heap.keys_nil Heap.keys_cons Heap.keys_app hget hset subT getP setP_nil setP_one setP_two setPo_some storeV buildV buildL partsOf capTV argOK entry St.of lk_nil lk_cons leLoc siterOf_siter gB_undef gB_av gB_cst undef isNE_tmp isSlT nslD nslDs mslOf mstrV copyV copyK unsV ustrV hdel dataV sameP mtbD isSlN slNilV vcDo_nil vcDo_cons isLt sft sftD softV rangeMV entryMV cmpV

@[simp] theorem fnok143 : fnOK Tryz.prog 143 = true := by kernel_rfl
@[simp] theorem isne143 : isNE Tryz.prog (.func 143) = false := isNE_func fnok143
@[simp] theorem fnok125 : fnOK Tryz.prog 125 = true := by kernel_rfl
@[simp] theorem isne125 : isNE Tryz.prog (.func 125) = false := isNE_func fnok125
@[simp] theorem fnok101 : fnOK Tryz.prog 101 = true := by kernel_rfl
@[simp] theorem isne101 : isNE Tryz.prog (.func 101) = false := isNE_func fnok101
def seqH (b1 b2 b3 : Nat) (l : List UInt8) (H : Heap) : Heap := (b1, .var .str (.s [47])) :: (b2, .var .str (.s l)) :: (b3, .var (.int .i64) (.i .i64 0)) :: H
set_option maxHeartbeats 8000000 in
theorem splitSeq1_ok {G : Nat → Heap → Prop} {X : Heap → Prop} (y b1 b2 b3 : Nat) (l : List UInt8) (hl : l.length ≤ 9223372036854775807) (hGe : ∀ k H, G k H → H.er = H) (hXe : ∀ H, X H → H.er = H)
    (hY : ∀ k x H, (splitB 47 l)[k]? = some x → G k H → YC Tryz.prog y [.av .str (.s x)] H fun r H' => (r = .av .bool (.b true) ∧ G (k+1) H') ∨ (r = .av .bool (.b false) ∧ X H')) (H0 : Heap) (h0 : G 0 H0) :
    ACalls Tryz.prog 143 [.av .func (.yl y), .av .ptr (.ptr b1 .str []), .av .ptr (.ptr b2 .str []), .av .ptr (.ptr b3 (.int .i64) [])] (seqH b1 b2 b3 l H0)
      fun r H' => r = .tup [] ∧ ∃ l' H1, H' = seqH b1 b2 b3 l' H1 ∧ (G (splitB 47 l).length H1 ∨ X H1) := by
  refine ACalls.nodup fun hnd => ?_
  simp [seqH, Heap.keys] at hnd
  obtain ⟨⟨n12, n13, _⟩, ⟨n23, _⟩, _⟩ := hnd
  have n21 : ¬ b2 = b1 := fun e => n12 e.symm
  have n31 : ¬ b3 = b1 := fun e => n13 e.symm
  have n32 : ¬ b3 = b2 := fun e => n23 e.symm
  refine ACalls.of_vc laid mixed Tryz.func143 rfl (by kernel_rfl) cf0 (by simp [Tryz.ntmps143]) fun imm0 w0 => ?_
  (simp (maxSteps := 2000000) (disch := first | omega | assumption) [i64_in, tnS, Int.toNat_add, Int.toNat_mul, List.getElem?_cons_zero, List.getElem_cons_zero, seqH, n12, n13, n23, n21, n31, n32])
  refine AT.loopV (α := Nat × List UInt8 × Heap) (fun x ver => St.of [(0, .av .func (.yl y)), (1, .av .ptr (.ptr b1 .str [])), (2, .av .ptr (.ptr b2 .str [])), (3, .av .ptr (.ptr b3 (.int .i64) []))] [] ver (seqH b1 b2 b3 x.2.1 x.2.2))
    (fun x => G x.1 x.2.2 ∧ (splitB 47 l).drop x.1 = splitB 47 x.2.1 ∧ x.2.1.length ≤ 9223372036854775807) (fun x => x.2.1.length) (0, l, H0) ?_ ?_ ?_
  · refine Le.of ?_ ?_ ?_ ?_ ?_ <;> simp [leTV, locsIn, encDigs, encTraces, encWant, encTrace, encReads, encRead, encMades, encMade, seqH] <;> try omega
  · exact ⟨h0, rfl, hl⟩
  rintro ⟨k, l', H⟩ ver ⟨hG, hdr, hl'⟩ KL hN hE
  simp only at hG hdr hl' hN
  refine vc_sound (cf := cf0) laid mixed _ _ _ (by kernel_rfl) ?_
  (simp (maxSteps := 2000000) (disch := first | omega | assumption) [i64_in, tnS, Int.toNat_add, Int.toNat_mul, List.getElem?_cons_zero, List.getElem_cons_zero, seqH, n12, n13, n23, n21, n31, n32])
  refine callV_pc (sIndex_ok l' 47 hl') rfl rfl (by simp) (by simp [argLe, TV.er, AV.er]) ?_
  by_cases hi : Lib.indexByte l' 47 < 0
  · have hm : Lib.indexByte l' 47 = -1 := by have := Lib.indexByte_ge l' 47; omega
    have hsp := splitB_no hm
    have hx : (splitB 47 l)[k]? = some l' := by
      have := congrArg (·[0]?) hdr
      rw [hsp] at this
      simpa using this
    have hk : (splitB 47 l).length = k + 1 := by
      have := congrArg List.length hdr
      rw [hsp, List.length_drop] at this
      simp at this; omega
    (simp (maxSteps := 2000000) (disch := first | omega | assumption) [i64_in, tnS, Int.toNat_add, Int.toNat_mul, List.getElem?_cons_zero, List.getElem_cons_zero, hm, n12, n13, n23, n21, n31, n32, seqH])
    refine hE _ _ (by simp) ?_
    (simp (maxSteps := 2000000) (disch := first | omega | assumption) [i64_in, tnS, Int.toNat_add, Int.toNat_mul, List.getElem?_cons_zero, List.getElem_cons_zero, n12, n13, n23, n21, n31, n32, seqH])
    refine callV_yield (R := fun r H' => (r = .av .bool (.b true) ∧ G (k+1) H') ∨ (r = .av .bool (.b false) ∧ X H')) H [(b1, .var .str (.s [47])), (b2, .var .str (.s l')), (b3, .var (.int .i64) (.i .i64 0))] (List.perm_append_comm (l₁ := [_, _, _])) (by simp [argOK]) ?_ ?_
    · rw [hGe k H hG]
      simpa [TV.er, AV.er] using hY k l' H hx hG
    · intro r H' hR hnd'
      refine ⟨[(b1, .var .str (.s [47])), (b2, .var .str (.s l')), (b3, .var (.int .i64) (.i .i64 0))] ++ H', HSub.of_perm List.perm_append_comm, ?_⟩
      have hHe : H'.er = H' := hR.elim (fun h => hGe _ _ h.2) (fun h => hXe _ h.2)
      rcases hR with ⟨rfl, hR⟩ | ⟨rfl, hR⟩
      · (simp (maxSteps := 2000000) (disch := first | omega | assumption) [i64_in, tnS, Int.toNat_add, Int.toNat_mul, List.getElem?_cons_zero, List.getElem_cons_zero, Tryz.f143, hHe, hk])
        exact ⟨_, _, ⟨rfl, rfl⟩, .inl hR⟩
      · (simp (maxSteps := 2000000) (disch := first | omega | assumption) [i64_in, tnS, Int.toNat_add, Int.toNat_mul, List.getElem?_cons_zero, List.getElem_cons_zero, Tryz.f143, hHe, hk])
        exact ⟨_, _, ⟨rfl, rfl⟩, .inr hR⟩
  · obtain ⟨i, hi'⟩ : ∃ i : Nat, Lib.indexByte l' 47 = i := ⟨(Lib.indexByte l' 47).toNat, by omega⟩
    obtain ⟨hsp, hlt⟩ := splitB_at hi'
    have hx : (splitB 47 l)[k]? = some (l'.take i) := by
      have := congrArg (·[0]?) hdr
      rw [hsp] at this
      simpa using this
    have hdr2 : (splitB 47 l).drop (k+1) = splitB 47 (l'.drop (i+1)) := by
      rw [← List.drop_drop, hdr, hsp]; rfl
    have hge : ¬ (i : Int) < 0 := by omega
    (simp (maxSteps := 2000000) (disch := first | omega | assumption) [i64_in, tnS, Int.toNat_add, Int.toNat_mul, List.getElem?_cons_zero, List.getElem_cons_zero, hi', hge, n12, n13, n23, n21, n31, n32, seqH])
    (repeat ((with_reducible refine And.intro ?_ ?_); (· first | omega | (show barB _ _ = true; kernel_rfl) | (show rdJ _ _ _ _ _ = true; kernel_rfl) | (show tailB _ _ _ = true; kernel_rfl) | (show sftB _ _ _ = true; kernel_rfl))))
    refine callV_yield (R := fun r H' => (r = .av .bool (.b true) ∧ G (k+1) H') ∨ (r = .av .bool (.b false) ∧ X H')) H [(b1, .var .str (.s [47])), (b2, .var .str (.s l')), (b3, .var (.int .i64) (.i .i64 0))] (List.perm_append_comm (l₁ := [_, _, _])) (by simp [argOK]) ?_ ?_
    · rw [hGe k H hG]
      simpa [TV.er, AV.er] using hY k (l'.take i) H hx hG
    · intro r H' hR hnd'
      refine ⟨[(b1, .var .str (.s [47])), (b2, .var .str (.s l')), (b3, .var (.int .i64) (.i .i64 0))] ++ H', HSub.of_perm List.perm_append_comm, ?_⟩
      have hHe : H'.er = H' := hR.elim (fun h => hGe _ _ h.2) (fun h => hXe _ h.2)
      rcases hR with ⟨rfl, hR⟩ | ⟨rfl, hR⟩
      · (simp (maxSteps := 2000000) (disch := first | omega | assumption) [i64_in, tnS, Int.toNat_add, Int.toNat_mul, List.getElem?_cons_zero, List.getElem_cons_zero, hHe, n12, n13, n23, n21, n31, n32])
        (repeat ((with_reducible refine And.intro ?_ ?_); (· first | omega | (show barB _ _ = true; kernel_rfl) | (show rdJ _ _ _ _ _ = true; kernel_rfl) | (show tailB _ _ _ = true; kernel_rfl) | (show sftB _ _ _ = true; kernel_rfl))))
        refine hN _ (k+1, l'.drop (i+1), H') ?_ ⟨hR, hdr2, by simp; omega⟩ (by simp; omega)
        refine Le.of ?_ ?_ ?_ ?_ ?_ <;> simp [leTV, locsIn, encDigs, encTraces, encWant, encTrace, encReads, encRead, encMades, encMade, seqH] <;> try omega
      · (simp (maxSteps := 2000000) (disch := first | omega | assumption) [i64_in, tnS, Int.toNat_add, Int.toNat_mul, List.getElem?_cons_zero, List.getElem_cons_zero, hHe])
        refine hE _ _ (by simp) ?_
        (simp (maxSteps := 2000000) (disch := first | omega | assumption) [i64_in, tnS, Int.toNat_add, Int.toNat_mul, List.getElem?_cons_zero, List.getElem_cons_zero, Tryz.f143, hHe])
        exact ⟨_, _, ⟨rfl, rfl⟩, .inr hR⟩
end Go.Proofs.YthdgnfnalimcnaaGreatDoor
