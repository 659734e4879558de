/- Lemmas of this proof. No condition beyond each theorem's own. -/
import Derived.Test.YtaddpgjanbjcaaaT9
set_option linter.unusedSimpArgs false
set_option linter.unusedVariables false
set_option linter.unusedSectionVars false
set_option maxRecDepth 100000
namespace Go.Proofs.Ytaddpgjanbjcaaa
open Go Go.Ab
open Classical

theorem f3_ok (l : List Trace) (known : List Read) (gone : List Dig) (hl : l.length ≤ 9223372036854775807) (hk' : known.length ≤ 9223372036854775807) (hg : gone.length ≤ 9223372036854775807)
    (ht : ∀ t ∈ l, t.reads.length ≤ 9223372036854775807 ∧ t.outs.length ≤ 9223372036854775807 ∧ t.key.length = 32) :
    PC Try.prog 3 [.av (.slice 35) (encTraces l), .av (.slice 37) (encReads known), .av (.slice 32) (encDigs gone)] (.av .bool (.b true)) := by
  have ht' : ∀ t ∈ l, t.reads.length ≤ 9223372036854775807 ∧ t.outs.length ≤ 9223372036854775807 := fun t h => ⟨(ht t h).1, (ht t h).2.1⟩
  refine PC.of <| ACalls.of_vc laid mixed Try.func3 rfl (by kernel_rfl) cf0 (by simp [Try.ntmps3]) fun imm0 w0 => ?_
  simp [vc_skip, vc_label, vc_region, vc_drawn, vc_seq, vc_cond, vc_block, vc_exit, vc_goto, vc_ret, vc_loop, vc_scope, vcOps_nil, vcOps_cons, vcPs_nil, vcPs_cons, vcG, vcOp, putK_eq, pureV, ev, co, coC, asI, asB, asS, isNil, nkOf, derefV, fieldAddrV, indexAddrV, indexV, lowV, boundsV, sliceV, pickV, unV, convV, capOf, lenV, minV, binI, isConst, binV, St.put, upd, KSeq_n, KSeq_x, KSeq_g, KSeq_r, KBlock_n, KBlock_x, KBlock_g, KBlock_r, KScope_n, KScope_x, KScope_r, KRet_n, KRet_r, resL, retTV, TV.er, AV.er, AV.ers, Heap.er, HObj.er, Heap.keys, hget, hset, subT, getP, setP, storeV, buildV, buildL, partsOf, capTV, argOK, entry, St.of, lk]
  refine callV_pure (r := .av .bool (.b true)) rfl (by simp) (by simp) f9_ok ?_
  simp [vc_skip, vc_label, vc_region, vc_drawn, vc_seq, vc_cond, vc_block, vc_exit, vc_goto, vc_ret, vc_loop, vc_scope, vcOps_nil, vcOps_cons, vcPs_nil, vcPs_cons, vcG, vcOp, putK_eq, pureV, ev, co, coC, asI, asB, asS, isNil, nkOf, derefV, fieldAddrV, indexAddrV, indexV, lowV, boundsV, sliceV, pickV, unV, convV, capOf, lenV, minV, binI, isConst, binV, St.put, upd, KSeq_n, KSeq_x, KSeq_g, KSeq_r, KBlock_n, KBlock_x, KBlock_g, KBlock_r, KScope_n, KScope_x, KScope_r, KRet_n, KRet_r, resL, retTV, TV.er, AV.er, AV.ers, Heap.er, HObj.er, Heap.keys, hget, hset, subT, getP, setP, storeV, buildV, buildL, partsOf, capTV, argOK, entry, St.of, lk]
  refine callV_all (R := fun r H' => (∃ b, r = .av .bool (.b b) ∧ (b = false → l.length ≤ 20 ∧ ∀ t ∈ l, t.reads.length ≤ 60 ∧ t.outs.length ≤ 60)) ∧ H' = []) rfl (by simp [argOK]) (by simp) ?_ ?_
  · have := f10_ok l hl ht'
    simpa [Heap.er, TV.er] using this
  · rintro r H' ⟨⟨b, rfl, _⟩, rfl⟩
    cases b with
    | true => simp [vc_skip, vc_label, vc_region, vc_drawn, vc_seq, vc_cond, vc_block, vc_exit, vc_goto, vc_ret, vc_loop, vc_scope, vcOps_nil, vcOps_cons, vcPs_nil, vcPs_cons, vcG, vcOp, putK_eq, pureV, ev, co, coC, asI, asB, asS, isNil, nkOf, derefV, fieldAddrV, indexAddrV, indexV, lowV, boundsV, sliceV, pickV, unV, convV, capOf, lenV, minV, binI, isConst, binV, St.put, upd, KSeq_n, KSeq_x, KSeq_g, KSeq_r, KBlock_n, KBlock_x, KBlock_g, KBlock_r, KScope_n, KScope_x, KScope_r, KRet_n, KRet_r, resL, retTV, TV.er, AV.er, AV.ers, Heap.er, HObj.er, Heap.keys, hget, hset, subT, getP, setP, storeV, buildV, buildL, partsOf, capTV, argOK, entry, St.of, lk, Try.f3]
    | false =>
      by_cases h1 : (60 : Int) < known.length
      · simp [vc_skip, vc_label, vc_region, vc_drawn, vc_seq, vc_cond, vc_block, vc_exit, vc_goto, vc_ret, vc_loop, vc_scope, vcOps_nil, vcOps_cons, vcPs_nil, vcPs_cons, vcG, vcOp, putK_eq, pureV, ev, co, coC, asI, asB, asS, isNil, nkOf, derefV, fieldAddrV, indexAddrV, indexV, lowV, boundsV, sliceV, pickV, unV, convV, capOf, lenV, minV, binI, isConst, binV, St.put, upd, KSeq_n, KSeq_x, KSeq_g, KSeq_r, KBlock_n, KBlock_x, KBlock_g, KBlock_r, KScope_n, KScope_x, KScope_r, KRet_n, KRet_r, resL, retTV, TV.er, AV.er, AV.ers, Heap.er, HObj.er, Heap.keys, hget, hset, subT, getP, setP, storeV, buildV, buildL, partsOf, capTV, argOK, entry, St.of, lk, Try.f3, encReads, h1]
      by_cases h2 : (60 : Int) < gone.length
      · simp [vc_skip, vc_label, vc_region, vc_drawn, vc_seq, vc_cond, vc_block, vc_exit, vc_goto, vc_ret, vc_loop, vc_scope, vcOps_nil, vcOps_cons, vcPs_nil, vcPs_cons, vcG, vcOp, putK_eq, pureV, ev, co, coC, asI, asB, asS, isNil, nkOf, derefV, fieldAddrV, indexAddrV, indexV, lowV, boundsV, sliceV, pickV, unV, convV, capOf, lenV, minV, binI, isConst, binV, St.put, upd, KSeq_n, KSeq_x, KSeq_g, KSeq_r, KBlock_n, KBlock_x, KBlock_g, KBlock_r, KScope_n, KScope_x, KScope_r, KRet_n, KRet_r, resL, retTV, TV.er, AV.er, AV.ers, Heap.er, HObj.er, Heap.keys, hget, hset, subT, getP, setP, storeV, buildV, buildL, partsOf, capTV, argOK, entry, St.of, lk, Try.f3, encReads, encDigs, h1, h2]
      simp [vc_skip, vc_label, vc_region, vc_drawn, vc_seq, vc_cond, vc_block, vc_exit, vc_goto, vc_ret, vc_loop, vc_scope, vcOps_nil, vcOps_cons, vcPs_nil, vcPs_cons, vcG, vcOp, putK_eq, pureV, ev, co, coC, asI, asB, asS, isNil, nkOf, derefV, fieldAddrV, indexAddrV, indexV, lowV, boundsV, sliceV, pickV, unV, convV, capOf, lenV, minV, binI, isConst, binV, St.put, upd, KSeq_n, KSeq_x, KSeq_g, KSeq_r, KBlock_n, KBlock_x, KBlock_g, KBlock_r, KScope_n, KScope_x, KScope_r, KRet_n, KRet_r, resL, retTV, TV.er, AV.er, AV.ers, Heap.er, HObj.er, Heap.keys, hget, hset, subT, getP, setP, storeV, buildV, buildL, partsOf, capTV, argOK, entry, St.of, lk, encReads, encDigs, h1, h2]
      refine callV_pure (r := .av (tyOf Try.prog 28) (encWant (nextV known gone 0 l))) rfl (by simp [argOK]) (by simp) ?_ ?_
      · simp [TV.er, AV.er, AV.ers, AV.ers_eq, Function.comp_def, encReads, encDigs, encMades, encTraces]
        exact f11_ok l known gone hl hk' hg ht'
      · simp [vc_skip, vc_label, vc_region, vc_drawn, vc_seq, vc_cond, vc_block, vc_exit, vc_goto, vc_ret, vc_loop, vc_scope, vcOps_nil, vcOps_cons, vcPs_nil, vcPs_cons, vcG, vcOp, putK_eq, pureV, ev, co, coC, asI, asB, asS, isNil, nkOf, derefV, fieldAddrV, indexAddrV, indexV, lowV, boundsV, sliceV, pickV, unV, convV, capOf, lenV, minV, binI, isConst, binV, St.put, upd, KSeq_n, KSeq_x, KSeq_g, KSeq_r, KBlock_n, KBlock_x, KBlock_g, KBlock_r, KScope_n, KScope_x, KScope_r, KRet_n, KRet_r, resL, retTV, TV.er, AV.er, AV.ers, Heap.er, HObj.er, Heap.keys, hget, hset, subT, getP, setP, storeV, buildV, buildL, partsOf, capTV, argOK, entry, St.of, lk]
        refine callV_pure (r := .av (tyOf Try.prog 28) (encWant (refNext known gone 0 l))) rfl (by simp [argOK]) (by simp) ?_ ?_
        · simp [TV.er, AV.er, AV.ers, AV.ers_eq, Function.comp_def, encReads, encDigs, encMades, encTraces]
          exact f12_ok l known gone hl hk' hg ht
        · simp [vc_skip, vc_label, vc_region, vc_drawn, vc_seq, vc_cond, vc_block, vc_exit, vc_goto, vc_ret, vc_loop, vc_scope, vcOps_nil, vcOps_cons, vcPs_nil, vcPs_cons, vcG, vcOp, putK_eq, pureV, ev, co, coC, asI, asB, asS, isNil, nkOf, derefV, fieldAddrV, indexAddrV, indexV, lowV, boundsV, sliceV, pickV, unV, convV, capOf, lenV, minV, binI, isConst, binV, St.put, upd, KSeq_n, KSeq_x, KSeq_g, KSeq_r, KBlock_n, KBlock_x, KBlock_g, KBlock_r, KScope_n, KScope_x, KScope_r, KRet_n, KRet_r, resL, retTV, TV.er, AV.er, AV.ers, Heap.er, HObj.er, Heap.keys, hget, hset, subT, getP, setP, storeV, buildV, buildL, partsOf, capTV, argOK, entry, St.of, lk, encWant, Try.f3, next_eq]
end Go.Proofs.Ytaddpgjanbjcaaa
