/- The law TraceSame: the program. No condition beyond each theorem's own. -/
import Derived.Test.YtmkpbigaafemnaaDoorP25
import Derived.Test.YtmkpbigaafemnaaDoorP23
import Derived.Test.YtmkpbigaafemnaaDoorP14
set_option linter.unusedSimpArgs false
set_option linter.unusedVariables false
set_option linter.unusedSectionVars false
set_option maxRecDepth 100000
/-! The law TraceSame: the program. -/
namespace Go.Proofs.YtmkpbigaafemnaaDoor
open Go Go.Ab
open Classical
attribute [local simp] vc_skip vc_label vc_region vc_drawn vc_seq vc_cond vc_block vc_exit vc_goto vc_ret vc_loop vc_scope vcOps_nil vcOps_cons vcPs_nil vcPs_cons vcDs_nil vcDs_cons vcD impB mkd wkOf isCallV rdOK_eq rdO_nil rdO_tmp rdO_const rdO_global rdO_func rdL_nil rdL_cons rdT_av rdT_cst rdT_pel rdT_tup rdT_junk rdT_loc St.app Op.operands Call.operands vcG_eq iteP wkOf isCallV vcOp putK_eq pureV ev co coC asI asB asS isNil nkOf derefV fieldAddrV indexAddrV indexV lowV boundsV sliceV pickV_eq unV convV convB bytesOf capOf lenV minV withSrc slice3V lookupV mapOf mfind mput scalT mapUpdV makeSliceV appendM appendN growM growOK zM binI isConst binV St.put upd KSeq_n KSeq_x KSeq_g KSeq_r KBlock_n KBlock_x KBlock_g KBlock_r KScope_n KScope_x KScope_r KRet_n KRet_r resL retTV TV.er AV.er AV.ers AV.erk AV.erks Tok.k Heap.er_nil Heap.er_cons Heap.er_app HObj.er_var HObj.er_map Heap.keys_nil Heap.keys_cons Heap.keys_app hget hset subT getP setP_nil setP_one setP_two setPo_some storeV buildV buildL partsOf capTV argOK entry St.of lk_nil lk_cons leLoc siterOf_siter gB_undef gB_av gB_cst undef isNE_tmp isSlT nslD nslDs mslOf mstrV copyV copyK unsV ustrV hdel dataV sameP mtbD isSlN slNilV vcDo_nil vcDo_cons isLt sft sftD softV

@[simp] theorem fnok7 : fnOK Tryd.prog 7 = true := by kernel_rfl
@[simp] theorem isne7 : isNE Tryd.prog (.func 7) = false := isNE_func fnok7
theorem okTrace_p {t : Trace} (h : okTrace t) : TrP t ∧ TrD t ∧ TrOK t := by
  obtain ⟨h1, ⟨h2, h3⟩, h4, h5⟩ := h
  have hx := max63
  exact ⟨⟨⟨Nat.le_trans h2 hx, fun r hr => Nat.le_trans (h3 r hr).2 hx⟩, Nat.le_trans h4 hx, fun r hr => Nat.le_trans (h5 r hr).2 hx⟩, ⟨h1, fun r hr => (h3 r hr).1, fun r hr => (h5 r hr).1⟩, Nat.le_trans h2 hx, Nat.le_trans h4 hx⟩
theorem okTrace_wide {t : Trace} (h : okTrace t) : PC Tryd.prog 23 [.av (tyOf Tryd.prog 28) (encTrace t)] (.av .bool (.b (wideTV t))) := by
  obtain ⟨h1, ⟨h2, h3⟩, h4, h5⟩ := h
  have hx := max63
  exact wide_ok t (Nat.le_trans h2 hx) (Nat.le_trans h4 hx) (fun r hr => Nat.le_trans (h3 r hr).2 hx) (fun r hr => Nat.le_trans (h5 r hr).2 hx)
theorem okTrace_bytes {t : Trace} (h : okTrace t) : PC Tryd.prog 29 [.av (tyOf Tryd.prog 28) (encTrace t)] (bytesTV t) :=
  bytes_ok t (okTrace_p h).1 (okTrace_p h).2.1 (bytes_len (okTrace_p h).2.1)
set_option maxHeartbeats 8000000 in
theorem traceSame_ok (a b : Trace) (ha : okTrace a) (hb : okTrace b) :
    PC Tryd.prog 7 [.av (tyOf Tryd.prog 28) (encTrace a), .av (tyOf Tryd.prog 28) (encTrace b)] (.av .bool (.b true)) := by
  have oa := (okTrace_p ha).2.2
  have ob := (okTrace_p hb).2.2
  refine PC.of <| ACalls.of_vc laid mixed Tryd.func7 rfl (by kernel_rfl) cf0 (by simp [Tryd.ntmps7]) fun imm0 w0 => ?_
  (simp (maxSteps := 2000000) (disch := first | omega | assumption) [i64_in, tnS, Int.toNat_add, Int.toNat_mul, List.getElem?_cons_zero, List.getElem_cons_zero])
  refine callV_pc alive_ok rfl rfl (by simp) (by simp [argLe, TV.er, AV.er]) ?_
  (simp (maxSteps := 2000000) (disch := first | omega | assumption) [i64_in, tnS, Int.toNat_add, Int.toNat_mul, List.getElem?_cons_zero, List.getElem_cons_zero])
  refine callV_pc (okTrace_wide ha) rfl rfl (by simp) (by simp [argLe, TV.er]) ?_
  cases hwa : wideTV a
  rotate_left
  · (simp (maxSteps := 2000000) (disch := first | omega | assumption) [i64_in, tnS, Int.toNat_add, Int.toNat_mul, List.getElem?_cons_zero, List.getElem_cons_zero, hwa, Tryd.f7])
  (simp (maxSteps := 2000000) (disch := first | omega | assumption) [i64_in, tnS, Int.toNat_add, Int.toNat_mul, List.getElem?_cons_zero, List.getElem_cons_zero, hwa])
  refine callV_pc (okTrace_wide hb) rfl rfl (by simp) (by simp [argLe, TV.er]) ?_
  cases hwb : wideTV b
  rotate_left
  · (simp (maxSteps := 2000000) (disch := first | omega | assumption) [i64_in, tnS, Int.toNat_add, Int.toNat_mul, List.getElem?_cons_zero, List.getElem_cons_zero, hwb, Tryd.f7])
  (simp (maxSteps := 2000000) (disch := first | omega | assumption) [i64_in, tnS, Int.toNat_add, Int.toNat_mul, List.getElem?_cons_zero, List.getElem_cons_zero, hwb])
  (repeat ((with_reducible refine And.intro ?_ ?_); (· first | omega | (show barB _ _ = true; kernel_rfl) | (show rdJ _ _ _ _ _ = true; kernel_rfl) | (show tailB _ _ _ = true; kernel_rfl) | (show sftB _ _ _ = true; kernel_rfl))))
  refine callD_pc (same_ok a b oa ob) rfl rfl (by simp) (by simp [argLe, TV.er]) ?_
  (simp (maxSteps := 2000000) (disch := first | omega | assumption) [i64_in, tnS, Int.toNat_add, Int.toNat_mul, List.getElem?_cons_zero, List.getElem_cons_zero])
  (repeat ((with_reducible refine And.intro ?_ ?_); (· first | omega | (show barB _ _ = true; kernel_rfl) | (show rdJ _ _ _ _ _ = true; kernel_rfl) | (show tailB _ _ _ = true; kernel_rfl) | (show sftB _ _ _ = true; kernel_rfl))))
  refine callD_pc (rsame_ok a b oa ob) rfl rfl (by simp) (by simp [argLe, TV.er]) ?_
  have haa : sameV a a = true := sameV_iff.2 rfl
  (simp (maxSteps := 2000000) (disch := first | omega | assumption) [i64_in, tnS, Int.toNat_add, Int.toNat_mul, List.getElem?_cons_zero, List.getElem_cons_zero])
  (repeat ((with_reducible refine And.intro ?_ ?_); (· first | omega | (show barB _ _ = true; kernel_rfl) | (show rdJ _ _ _ _ _ = true; kernel_rfl) | (show tailB _ _ _ = true; kernel_rfl) | (show sftB _ _ _ = true; kernel_rfl))))
  refine callD_pc (same_ok a a oa oa) rfl rfl (by simp) (by simp [argLe, TV.er]) ?_
  (simp (maxSteps := 2000000) (disch := first | omega | assumption) [i64_in, tnS, Int.toNat_add, Int.toNat_mul, List.getElem?_cons_zero, List.getElem_cons_zero, haa])
  refine callV_pc (okTrace_bytes ha) rfl rfl (by simp) (by simp [argLe, TV.er]) ?_
  by_cases ca : checkV a = 0
  · have e1 : bytesTV a = .tup [(.str, .s (rowV (bytesL a))), (.int .i64, .i .i64 0)] := by simp only [bytesTV, if_pos ca]
    (simp (maxSteps := 2000000) (disch := first | omega | assumption) [i64_in, tnS, Int.toNat_add, Int.toNat_mul, List.getElem?_cons_zero, List.getElem_cons_zero, e1])
    refine callV_pc (okTrace_bytes hb) rfl rfl (by simp) (by simp [argLe, TV.er]) ?_
    by_cases cb : checkV b = 0
    · have e2 : bytesTV b = .tup [(.str, .s (rowV (bytesL b))), (.int .i64, .i .i64 0)] := by simp only [bytesTV, if_pos cb]
      have hrow := row_same (okTrace_p ha).2.1 (okTrace_p hb).2.1 ca cb
      (simp (maxSteps := 2000000) (disch := first | omega | assumption) [i64_in, tnS, Int.toNat_add, Int.toNat_mul, List.getElem?_cons_zero, List.getElem_cons_zero, e2])
      refine callV_pc (rsame_ok a b oa ob) rfl rfl (by simp) (by simp [argLe, TV.er]) ?_
      by_cases hr : rowV (bytesL a) = rowV (bytesL b)
      · have hs : sameV a b = true := by rw [← hrow]; simp [hr]
        (simp (maxSteps := 2000000) (disch := first | omega | assumption) [i64_in, tnS, Int.toNat_add, Int.toNat_mul, List.getElem?_cons_zero, List.getElem_cons_zero, hr, hs, Tryd.f7])
      · have hs : sameV a b = false := by rw [← hrow]; simp [hr]
        (simp (maxSteps := 2000000) (disch := first | omega | assumption) [i64_in, tnS, Int.toNat_add, Int.toNat_mul, List.getElem?_cons_zero, List.getElem_cons_zero, hr, hs, Tryd.f7])
    · have e2 : bytesTV b = .tup [(.str, .s []), (.int .i64, .i .i64 (checkV b))] := by simp only [bytesTV, if_neg cb]
      (simp (maxSteps := 2000000) (disch := first | omega | assumption) [i64_in, tnS, Int.toNat_add, Int.toNat_mul, List.getElem?_cons_zero, List.getElem_cons_zero, e2, cb, Tryd.f7])
  · have e1 : bytesTV a = .tup [(.str, .s []), (.int .i64, .i .i64 (checkV a))] := by simp only [bytesTV, if_neg ca]
    (simp (maxSteps := 2000000) (disch := first | omega | assumption) [i64_in, tnS, Int.toNat_add, Int.toNat_mul, List.getElem?_cons_zero, List.getElem_cons_zero, e1])
    refine callV_pc (okTrace_bytes hb) rfl rfl (by simp) (by simp [argLe, TV.er]) ?_
    by_cases cb : checkV b = 0
    · have e2 : bytesTV b = .tup [(.str, .s (rowV (bytesL b))), (.int .i64, .i .i64 0)] := by simp only [bytesTV, if_pos cb]
      (simp (maxSteps := 2000000) (disch := first | omega | assumption) [i64_in, tnS, Int.toNat_add, Int.toNat_mul, List.getElem?_cons_zero, List.getElem_cons_zero, e2, ca, Tryd.f7])
    · have e2 : bytesTV b = .tup [(.str, .s []), (.int .i64, .i .i64 (checkV b))] := by simp only [bytesTV, if_neg cb]
      (simp (maxSteps := 2000000) (disch := first | omega | assumption) [i64_in, tnS, Int.toNat_add, Int.toNat_mul, List.getElem?_cons_zero, List.getElem_cons_zero, e2, ca, Tryd.f7])
end Go.Proofs.YtmkpbigaafemnaaDoor
