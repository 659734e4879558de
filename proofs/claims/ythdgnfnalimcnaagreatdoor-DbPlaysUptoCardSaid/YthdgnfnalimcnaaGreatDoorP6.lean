/- strings.SplitSeq at a stroke: the iterator that it gives. No condition beyond each theorem's own. -/
import Derived.Test.YthdgnfnalimcnaaGreatDoorP5
set_option linter.unusedSimpArgs false
set_option linter.unusedVariables false
set_option linter.unusedSectionVars false
set_option maxRecDepth 100000
/-! strings.SplitSeq at a stroke: the iterator that it gives. -/
namespace Go.Proofs.YthdgnfnalimcnaaGreatDoor
open Go Go.Ab
open Classical
variable [Sel]
attribute [local simp] vc_skip hiLen zN capV cpyD appendZ clearV delV mdel copyVT extV ovV vc_label vc_region vc_drawn vc_seq vc_cond vc_block vc_exit vc_goto vc_ret vc_loop vc_scope vcOps_nil vcOps_cons vcPs_nil vcPs_cons vcDs_nil vcDs_cons vcD impB mkd wkOf isCallV rdOK_eq rdO_nil rdO_tmp rdO_const rdO_global rdO_func rdL_nil rdL_cons rdT_av rdT_cst rdT_pel rdT_tup rdT_junk rdT_loc St.app Op.operands Call.operands vcG_eq iteP wkOf isCallV vcOp putK_eq pureV ev co coC asI asB asS isNil nkOf derefV fieldAddrV indexAddrV indexV lowV boundsV sliceV pickV_eq unV convV convB bytesOf capOf lenV minV maxV withSrc slice3V lookupV mapOf mfind mput scalT mapUpdV makeSliceV appendM appendN growM growOK zM binI isConst binV St.put upd KSeq_n KSeq_x KSeq_g KSeq_r KBlock_n KBlock_x KBlock_g KBlock_r KScope_n KScope_x KScope_r KRet_n KRet_r resL retTV TV.er AV.er AV.ers AV.erk AV.erks Tok.k Heap.er_nil Heap.er_cons Heap.er_app HObj.er_var HObj.er_map Heap.keys_nil Heap.keys_cons Heap.keys_app hget hset subT getP setP_nil setP_one setP_two setPo_some storeV buildV buildL partsOf capTV argOK entry St.of lk_nil lk_cons leLoc siterOf_siter gB_undef gB_av gB_cst undef isNE_tmp isSlT nslD nslDs mslOf mstrV copyV copyK unsV ustrV hdel dataV sameP mtbD isSlN slNilV vcDo_nil vcDo_cons isLt sft sftD softV rangeMV entryMV cmpV

abbrev cfSeq : Cfg := ⟨fun n => n == 3 || n == 4 || n == 5, fun _ => false⟩
def seqR (l : List UInt8) (r : TV) (H' : Heap) : Prop := ∃ b1 b2 b3, r = .av .func (.fn 143 [.ptr b1 .str [], .ptr b2 .str [], .ptr b3 (.int .i64) []]) ∧ H' = [(b3, .var (.int .i64) (.i .i64 0)), (b1, .var .str (.s [47])), (b2, .var .str (.s l))]
theorem splitSeq_ok (l : List UInt8) : ACalls Tryz.prog 125 [.av .str (.s l), .av .str (.s [47]), .av (.int .i64) (.i .i64 0)] [] (seqR l) := by
  refine ACalls.of_vc laid mixed Tryz.func125 rfl (by kernel_rfl) cfSeq (by simp [Tryz.ntmps125]) fun imm0 w0 => ?_
  (simp (maxSteps := 2000000) (disch := first | omega | assumption) [i64_in, tnS, Int.toNat_add, Int.toNat_mul, List.getElem?_cons_zero, List.getElem_cons_zero])
  intro b2 b1 hb1 b3 hb3 hb3'
  (simp (maxSteps := 2000000) (disch := first | omega | assumption) [i64_in, tnS, Int.toNat_add, Int.toNat_mul, List.getElem?_cons_zero, List.getElem_cons_zero, Tryz.f125, seqR])
  exact ⟨_, _, _, ⟨rfl, rfl, rfl⟩, rfl, rfl, rfl⟩
theorem SplitSeq_ok (l : List UInt8) : ACalls Tryz.prog 101 [.av .str (.s l), .av .str (.s [47])] [] (seqR l) := by
  refine ACalls.of_vc laid mixed Tryz.func101 rfl (by kernel_rfl) cf0 (by simp [Tryz.ntmps101]) fun imm0 w0 => ?_
  (simp (maxSteps := 2000000) (disch := first | omega | assumption) [i64_in, tnS, Int.toNat_add, Int.toNat_mul, List.getElem?_cons_zero, List.getElem_cons_zero])
  refine callV_all (R := seqR l) rfl (by simp [argOK]) (by simp) ?_ ?_
  · exact ACalls.args (splitSeq_ok l) (by simp [argLe, TV.er, AV.er, coC])
  · rintro r H' ⟨b1, b2, b3, rfl, rfl⟩
    (simp (maxSteps := 2000000) (disch := first | omega | assumption) [i64_in, tnS, Int.toNat_add, Int.toNat_mul, List.getElem?_cons_zero, List.getElem_cons_zero, Tryz.f101, seqR, AV.ers])
    exact ⟨_, _, _, ⟨rfl, rfl, rfl⟩, rfl, rfl, rfl⟩
end Go.Proofs.YthdgnfnalimcnaaGreatDoor
