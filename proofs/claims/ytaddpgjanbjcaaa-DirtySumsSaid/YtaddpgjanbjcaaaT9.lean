/- Lemmas of this proof. No condition beyond each theorem's own. -/
import Derived.Test.YtaddpgjanbjcaaaT8
set_option linter.unusedSimpArgs false
set_option linter.unusedVariables false
set_option linter.unusedSectionVars false
set_option maxRecDepth 100000
namespace Go.Proofs.Ytaddpgjanbjcaaa
open Go Go.Ab
open Classical

def s0 : Dig := [115,0,0,0,0,0,0,0,0,0,0,0,0,0,0,0,0,0,0,0,0,0,0,0,0,0,0,0,0,0,0,0]
def z0 : Dig := [0,0,0,0,0,0,0,0,0,0,0,0,0,0,0,0,0,0,0,0,0,0,0,0,0,0,0,0,0,0,0,0]
def t0 : Trace := ⟨z0, [⟨[97], true, s0⟩], [⟨[111, 117, 116, 47, 111], s0⟩]⟩
def enc0 := @encD
theorem alive1 : nextV [] [] 0 [t0] = ⟨1, [97], 0⟩ := by decide
theorem alive2 : nextV t0.reads [] 0 [t0] = ⟨2, [], 0⟩ := by decide
theorem alive3 : nextV [⟨[97], false, z0⟩] [] 0 [t0] = ⟨3, [], 0⟩ := by decide
theorem alive4 : nextV t0.reads [s0] 0 [t0] = ⟨3, [], 0⟩ := by decide
theorem c1 : PC Try.prog 11 [.av (.slice 35) (encTraces [t0]), .av (.slice 37) (encReads []), .av (.slice 32) (encDigs [])] (.av (tyOf Try.prog 28) (encWant ⟨1, [97], 0⟩)) := by
  have := f11_ok [t0] [] [] (by simp) (by simp) (by simp) (by simp [t0]); rwa [alive1] at this
theorem c2 : PC Try.prog 11 [.av (.slice 35) (encTraces [t0]), .av (.slice 37) (encReads t0.reads), .av (.slice 32) (encDigs [])] (.av (tyOf Try.prog 28) (encWant ⟨2, [], 0⟩)) := by
  have := f11_ok [t0] t0.reads [] (by simp) (by simp [t0]) (by simp) (by simp [t0]); rwa [alive2] at this
theorem c3 : PC Try.prog 11 [.av (.slice 35) (encTraces [t0]), .av (.slice 37) (encReads [⟨[97], false, z0⟩]), .av (.slice 32) (encDigs [])] (.av (tyOf Try.prog 28) (encWant ⟨3, [], 0⟩)) := by
  have := f11_ok [t0] [⟨[97], false, z0⟩] [] (by simp) (by simp) (by simp) (by simp [t0]); rwa [alive3] at this
theorem c4 : PC Try.prog 11 [.av (.slice 35) (encTraces [t0]), .av (.slice 37) (encReads t0.reads), .av (.slice 32) (encDigs [s0])] (.av (tyOf Try.prog 28) (encWant ⟨3, [], 0⟩)) := by
  have := f11_ok [t0] t0.reads [s0] (by simp) (by simp [t0]) (by simp) (by simp [t0]); rwa [alive4] at this

theorem f9_ok : PC Try.prog 9 [] (.av .bool (.b true)) := by
  refine PC.of <| ACalls.of_vc laid mixed Try.func9 rfl (by kernel_rfl) cf0 (by simp [Try.ntmps9]) fun imm0 w0 => ?_
  simp [vc_skip, vc_label, vc_region, vc_drawn, vc_seq, vc_cond, vc_block, vc_exit, vc_goto, vc_ret, vc_loop, vc_scope, vcOps_nil, vcOps_cons, vcPs_nil, vcPs_cons, vcDs_nil, vcDs_cons, vcD, impB, mkd, wkOf, isCallV, rdOK_eq, rdO_nil, rdO_tmp, rdO_const, rdO_global, rdO_func, rdL_nil, rdL_cons, rdT_av, rdT_cst, rdT_pel, rdT_tup, rdT_junk, rdT_loc, rdJ, ordB, St.app, Op.operands, Call.operands, Region.binds, vcG_eq, iteP, wkOf, isCallV, vcOp, putK_eq, pureV, ev, co, coC, asI, asB, asS, isNil, nkOf, derefV, fieldAddrV, indexAddrV, indexV, lowV, boundsV, sliceV, pickV_eq, unV, convV, convB, bytesOf, capOf, lenV, minV, withSrc, slice3V, lookupV, mapOf, mfind, mput, scalT, mapUpdV, makeSliceV, appendM, appendN, growM, growOK, zM, binI, isConst, binV, St.put, upd, KSeq_n, KSeq_x, KSeq_g, KSeq_r, KBlock_n, KBlock_x, KBlock_g, KBlock_r, KScope_n, KScope_x, KScope_r, KRet_n, KRet_r, resL, retTV, TV.er, AV.er, AV.ers, AV.erk, AV.erks, Tok.k, Heap.er_nil, Heap.er_cons, Heap.er_app, HObj.er_var, HObj.er_map, Heap.keys_nil, Heap.keys_cons, Heap.keys_app, hget, hset, subT, getP, setP_nil, setP_one, setP_two, setPo_some, storeV, buildV, buildL, partsOf, capTV, argOK, entry, St.of, lk_nil, lk_cons, leLoc]
  refine callD_pure (r := .av (tyOf Try.prog 28) (encWant ⟨1, [97], 0⟩)) rfl (by simp [argOK]) (by simp) ?_ ?_
  · refine ACalls.args c1 ?_
    simp [argLe, TV.er, AV.er, AV.ers, encDigs, encTraces, encWant, encTrace, encReads, encRead, encMades, encMade, encD, t0, s0, z0, coC]
  simp [vc_skip, vc_label, vc_region, vc_drawn, vc_seq, vc_cond, vc_block, vc_exit, vc_goto, vc_ret, vc_loop, vc_scope, vcOps_nil, vcOps_cons, vcPs_nil, vcPs_cons, vcDs_nil, vcDs_cons, vcD, impB, mkd, wkOf, isCallV, rdOK_eq, rdO_nil, rdO_tmp, rdO_const, rdO_global, rdO_func, rdL_nil, rdL_cons, rdT_av, rdT_cst, rdT_pel, rdT_tup, rdT_junk, rdT_loc, rdJ, ordB, St.app, Op.operands, Call.operands, Region.binds, vcG_eq, iteP, wkOf, isCallV, vcOp, putK_eq, pureV, ev, co, coC, asI, asB, asS, isNil, nkOf, derefV, fieldAddrV, indexAddrV, indexV, lowV, boundsV, sliceV, pickV_eq, unV, convV, convB, bytesOf, capOf, lenV, minV, withSrc, slice3V, lookupV, mapOf, mfind, mput, scalT, mapUpdV, makeSliceV, appendM, appendN, growM, growOK, zM, binI, isConst, binV, St.put, upd, KSeq_n, KSeq_x, KSeq_g, KSeq_r, KBlock_n, KBlock_x, KBlock_g, KBlock_r, KScope_n, KScope_x, KScope_r, KRet_n, KRet_r, resL, retTV, TV.er, AV.er, AV.ers, AV.erk, AV.erks, Tok.k, Heap.er_nil, Heap.er_cons, Heap.er_app, HObj.er_var, HObj.er_map, Heap.keys_nil, Heap.keys_cons, Heap.keys_app, hget, hset, subT, getP, setP_nil, setP_one, setP_two, setPo_some, storeV, buildV, buildL, partsOf, capTV, argOK, entry, St.of, lk_nil, lk_cons, leLoc, encWant]
  refine callD_pure (r := .av (tyOf Try.prog 28) (encWant ⟨2, [], 0⟩)) rfl (by simp [argOK]) (by simp) ?_ ?_
  · refine ACalls.args c2 ?_
    simp [argLe, TV.er, AV.er, AV.ers, encDigs, encTraces, encWant, encTrace, encReads, encRead, encMades, encMade, encD, t0, s0, z0, coC]
  simp [vc_skip, vc_label, vc_region, vc_drawn, vc_seq, vc_cond, vc_block, vc_exit, vc_goto, vc_ret, vc_loop, vc_scope, vcOps_nil, vcOps_cons, vcPs_nil, vcPs_cons, vcDs_nil, vcDs_cons, vcD, impB, mkd, wkOf, isCallV, rdOK_eq, rdO_nil, rdO_tmp, rdO_const, rdO_global, rdO_func, rdL_nil, rdL_cons, rdT_av, rdT_cst, rdT_pel, rdT_tup, rdT_junk, rdT_loc, rdJ, ordB, St.app, Op.operands, Call.operands, Region.binds, vcG_eq, iteP, wkOf, isCallV, vcOp, putK_eq, pureV, ev, co, coC, asI, asB, asS, isNil, nkOf, derefV, fieldAddrV, indexAddrV, indexV, lowV, boundsV, sliceV, pickV_eq, unV, convV, convB, bytesOf, capOf, lenV, minV, withSrc, slice3V, lookupV, mapOf, mfind, mput, scalT, mapUpdV, makeSliceV, appendM, appendN, growM, growOK, zM, binI, isConst, binV, St.put, upd, KSeq_n, KSeq_x, KSeq_g, KSeq_r, KBlock_n, KBlock_x, KBlock_g, KBlock_r, KScope_n, KScope_x, KScope_r, KRet_n, KRet_r, resL, retTV, TV.er, AV.er, AV.ers, AV.erk, AV.erks, Tok.k, Heap.er_nil, Heap.er_cons, Heap.er_app, HObj.er_var, HObj.er_map, Heap.keys_nil, Heap.keys_cons, Heap.keys_app, hget, hset, subT, getP, setP_nil, setP_one, setP_two, setPo_some, storeV, buildV, buildL, partsOf, capTV, argOK, entry, St.of, lk_nil, lk_cons, leLoc, encWant]
  refine callD_pure (r := .av (tyOf Try.prog 28) (encWant ⟨3, [], 0⟩)) rfl (by simp [argOK]) (by simp) ?_ ?_
  · refine ACalls.args c3 ?_
    simp [argLe, TV.er, AV.er, AV.ers, encDigs, encTraces, encWant, encTrace, encReads, encRead, encMades, encMade, encD, t0, s0, z0, coC]
  simp [vc_skip, vc_label, vc_region, vc_drawn, vc_seq, vc_cond, vc_block, vc_exit, vc_goto, vc_ret, vc_loop, vc_scope, vcOps_nil, vcOps_cons, vcPs_nil, vcPs_cons, vcDs_nil, vcDs_cons, vcD, impB, mkd, wkOf, isCallV, rdOK_eq, rdO_nil, rdO_tmp, rdO_const, rdO_global, rdO_func, rdL_nil, rdL_cons, rdT_av, rdT_cst, rdT_pel, rdT_tup, rdT_junk, rdT_loc, rdJ, ordB, St.app, Op.operands, Call.operands, Region.binds, vcG_eq, iteP, wkOf, isCallV, vcOp, putK_eq, pureV, ev, co, coC, asI, asB, asS, isNil, nkOf, derefV, fieldAddrV, indexAddrV, indexV, lowV, boundsV, sliceV, pickV_eq, unV, convV, convB, bytesOf, capOf, lenV, minV, withSrc, slice3V, lookupV, mapOf, mfind, mput, scalT, mapUpdV, makeSliceV, appendM, appendN, growM, growOK, zM, binI, isConst, binV, St.put, upd, KSeq_n, KSeq_x, KSeq_g, KSeq_r, KBlock_n, KBlock_x, KBlock_g, KBlock_r, KScope_n, KScope_x, KScope_r, KRet_n, KRet_r, resL, retTV, TV.er, AV.er, AV.ers, AV.erk, AV.erks, Tok.k, Heap.er_nil, Heap.er_cons, Heap.er_app, HObj.er_var, HObj.er_map, Heap.keys_nil, Heap.keys_cons, Heap.keys_app, hget, hset, subT, getP, setP_nil, setP_one, setP_two, setPo_some, storeV, buildV, buildL, partsOf, capTV, argOK, entry, St.of, lk_nil, lk_cons, leLoc, encWant]
  refine callD_pure (r := .av (tyOf Try.prog 28) (encWant ⟨3, [], 0⟩)) rfl (by simp [argOK]) (by simp) ?_ ?_
  · refine ACalls.args c4 ?_
    simp [argLe, TV.er, AV.er, AV.ers, encDigs, encTraces, encWant, encTrace, encReads, encRead, encMades, encMade, encD, t0, s0, z0, coC]
  simp [vc_skip, vc_label, vc_region, vc_drawn, vc_seq, vc_cond, vc_block, vc_exit, vc_goto, vc_ret, vc_loop, vc_scope, vcOps_nil, vcOps_cons, vcPs_nil, vcPs_cons, vcDs_nil, vcDs_cons, vcD, impB, mkd, wkOf, isCallV, rdOK_eq, rdO_nil, rdO_tmp, rdO_const, rdO_global, rdO_func, rdL_nil, rdL_cons, rdT_av, rdT_cst, rdT_pel, rdT_tup, rdT_junk, rdT_loc, rdJ, ordB, St.app, Op.operands, Call.operands, Region.binds, vcG_eq, iteP, wkOf, isCallV, vcOp, putK_eq, pureV, ev, co, coC, asI, asB, asS, isNil, nkOf, derefV, fieldAddrV, indexAddrV, indexV, lowV, boundsV, sliceV, pickV_eq, unV, convV, convB, bytesOf, capOf, lenV, minV, withSrc, slice3V, lookupV, mapOf, mfind, mput, scalT, mapUpdV, makeSliceV, appendM, appendN, growM, growOK, zM, binI, isConst, binV, St.put, upd, KSeq_n, KSeq_x, KSeq_g, KSeq_r, KBlock_n, KBlock_x, KBlock_g, KBlock_r, KScope_n, KScope_x, KScope_r, KRet_n, KRet_r, resL, retTV, TV.er, AV.er, AV.ers, AV.erk, AV.erks, Tok.k, Heap.er_nil, Heap.er_cons, Heap.er_app, HObj.er_var, HObj.er_map, Heap.keys_nil, Heap.keys_cons, Heap.keys_app, hget, hset, subT, getP, setP_nil, setP_one, setP_two, setPo_some, storeV, buildV, buildL, partsOf, capTV, argOK, entry, St.of, lk_nil, lk_cons, leLoc, encWant, Try.f9]
  trace_state
end Go.Proofs.Ytaddpgjanbjcaaa
