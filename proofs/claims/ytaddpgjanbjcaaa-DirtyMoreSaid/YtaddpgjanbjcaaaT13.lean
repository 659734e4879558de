/- bloomerylaw27's holds and none: what they give. No condition beyond each theorem's own. -/
import Derived.Test.YtaddpgjanbjcaaaT10
set_option linter.unusedSimpArgs false
set_option linter.unusedVariables false
set_option linter.unusedSectionVars false
set_option maxRecDepth 100000
/-! bloomerylaw27's holds and none: what they give. -/
namespace Go.Proofs.Ytaddpgjanbjcaaa
open Go Go.Ab
open Classical

@[simp] theorem fnok13 : fnOK Try.prog 13 = true := by kernel_rfl
@[simp] theorem fnok14 : fnOK Try.prog 14 = true := by kernel_rfl
@[simp] theorem fnok4 : fnOK Try.prog 4 = true := by kernel_rfl
@[simp] theorem fnok5 : fnOK Try.prog 5 = true := by kernel_rfl

def mayTake (known : List Read) (gone : List Dig) (t : Trace) : Bool := (holdsV known t.reads).1 && !goneV t.outs gone

theorem f13_ok (t : Trace) (known : List Read) (gone : List Dig) (hr : t.reads.length ≤ 9223372036854775807) (ho : t.outs.length ≤ 9223372036854775807) (hk : known.length ≤ 9223372036854775807) (hg : gone.length ≤ 9223372036854775807) :
    PC Try.prog 13 [.av (tyOf Try.prog 35) (encTrace t), .av (.slice 37) (encReads known), .av (.slice 32) (encDigs gone)] (.av .bool (.b (mayTake known gone t))) := by
  refine PC.of <| ACalls.of_vc laid mixed Try.func13 rfl (by kernel_rfl) cf0 (by simp [Try.ntmps13]) fun imm0 w0 => ?_
  simp [vc_skip, vc_label, vc_region, vc_drawn, vc_seq, vc_cond, vc_block, vc_exit, vc_goto, vc_ret, vc_loop, vc_scope, vcOps_nil, vcOps_cons, vcPs_nil, vcPs_cons, vcG, vcOp, putK_eq, pureV, ev, co, coC, asI, asB, asS, isNil, nkOf, derefV, fieldAddrV, indexAddrV, indexV, lowV, boundsV, sliceV, pickV, unV, convV, capOf, lenV, minV, binI, isConst, binV, St.put, upd, KSeq_n, KSeq_x, KSeq_g, KSeq_r, KBlock_n, KBlock_x, KBlock_g, KBlock_r, KScope_n, KScope_x, KScope_r, KRet_n, KRet_r, resL, retTV, TV.er, AV.er, AV.ers, Heap.er, HObj.er, Heap.keys, hget, hset, subT, getP, setP, storeV, buildV, buildL, partsOf, capTV, argOK, entry, St.of, lk]
  refine callV_pure (r := .tup [(.bool, .b (holdsV known t.reads).1), (.str, .s (holdsV known t.reads).2)]) rfl (by simp [argOK]) (by simp) ?_ ?_
  · simp [TV.er, AV.er, AV.ers, AV.ers_eq, Function.comp_def, encReads, encDigs, encMades, encTraces]
    exact f25_ok t known hr hk
  · cases hb : (holdsV known t.reads).1 with
    | false => simp [vc_skip, vc_label, vc_region, vc_drawn, vc_seq, vc_cond, vc_block, vc_exit, vc_goto, vc_ret, vc_loop, vc_scope, vcOps_nil, vcOps_cons, vcPs_nil, vcPs_cons, vcG, vcOp, putK_eq, pureV, ev, co, coC, asI, asB, asS, isNil, nkOf, derefV, fieldAddrV, indexAddrV, indexV, lowV, boundsV, sliceV, pickV, unV, convV, capOf, lenV, minV, binI, isConst, binV, St.put, upd, KSeq_n, KSeq_x, KSeq_g, KSeq_r, KBlock_n, KBlock_x, KBlock_g, KBlock_r, KScope_n, KScope_x, KScope_r, KRet_n, KRet_r, resL, retTV, TV.er, AV.er, AV.ers, Heap.er, HObj.er, Heap.keys, hget, hset, subT, getP, setP, storeV, buildV, buildL, partsOf, capTV, argOK, entry, St.of, lk, hb, mayTake, Try.f13]
    | true =>
      simp [vc_skip, vc_label, vc_region, vc_drawn, vc_seq, vc_cond, vc_block, vc_exit, vc_goto, vc_ret, vc_loop, vc_scope, vcOps_nil, vcOps_cons, vcPs_nil, vcPs_cons, vcG, vcOp, putK_eq, pureV, ev, co, coC, asI, asB, asS, isNil, nkOf, derefV, fieldAddrV, indexAddrV, indexV, lowV, boundsV, sliceV, pickV, unV, convV, capOf, lenV, minV, binI, isConst, binV, St.put, upd, KSeq_n, KSeq_x, KSeq_g, KSeq_r, KBlock_n, KBlock_x, KBlock_g, KBlock_r, KScope_n, KScope_x, KScope_r, KRet_n, KRet_r, resL, retTV, TV.er, AV.er, AV.ers, Heap.er, HObj.er, Heap.keys, hget, hset, subT, getP, setP, storeV, buildV, buildL, partsOf, capTV, argOK, entry, St.of, lk, hb]
      refine callV_pure (r := .av .bool (.b (goneV t.outs gone))) rfl (by simp [argOK]) (by simp) ?_ ?_
      · simp [TV.er, AV.er, AV.ers, AV.ers_eq, Function.comp_def, encReads, encDigs, encMades, encTraces]
        exact f26_ok t gone ho hg
      · simp [vc_skip, vc_label, vc_region, vc_drawn, vc_seq, vc_cond, vc_block, vc_exit, vc_goto, vc_ret, vc_loop, vc_scope, vcOps_nil, vcOps_cons, vcPs_nil, vcPs_cons, vcG, vcOp, putK_eq, pureV, ev, co, coC, asI, asB, asS, isNil, nkOf, derefV, fieldAddrV, indexAddrV, indexV, lowV, boundsV, sliceV, pickV, unV, convV, capOf, lenV, minV, binI, isConst, binV, St.put, upd, KSeq_n, KSeq_x, KSeq_g, KSeq_r, KBlock_n, KBlock_x, KBlock_g, KBlock_r, KScope_n, KScope_x, KScope_r, KRet_n, KRet_r, resL, retTV, TV.er, AV.er, AV.ers, Heap.er, HObj.er, Heap.keys, hget, hset, subT, getP, setP, storeV, buildV, buildL, partsOf, capTV, argOK, entry, St.of, lk, hb, mayTake, Try.f13]

theorem f14_ok (l : List Trace) (known : List Read) (gone : List Dig) (hl : l.length ≤ 9223372036854775807) (hk : known.length ≤ 9223372036854775807) (hg : gone.length ≤ 9223372036854775807)
    (ht : ∀ t ∈ l, t.reads.length ≤ 9223372036854775807 ∧ t.outs.length ≤ 9223372036854775807) :
    PC Try.prog 14 [.av (.slice 35) (encTraces l), .av (.slice 37) (encReads known), .av (.slice 32) (encDigs gone)] (.av .bool (.b (l.all fun t => !mayTake known gone t))) := by
  refine PC.of <| ACalls.of_vc laid mixed Try.func14 rfl (by kernel_rfl) cf0 (by simp [Try.ntmps14]) fun imm0 w0 => ?_
  simp [vc_skip, vc_label, vc_region, vc_drawn, vc_seq, vc_cond, vc_block, vc_exit, vc_goto, vc_ret, vc_loop, vc_scope, vcOps_nil, vcOps_cons, vcPs_nil, vcPs_cons, vcG, vcOp, putK_eq, pureV, ev, co, coC, asI, asB, asS, isNil, nkOf, derefV, fieldAddrV, indexAddrV, indexV, lowV, boundsV, sliceV, pickV, unV, convV, capOf, lenV, minV, binI, isConst, binV, St.put, upd, KSeq_n, KSeq_x, KSeq_g, KSeq_r, KBlock_n, KBlock_x, KBlock_g, KBlock_r, KScope_n, KScope_x, KScope_r, KRet_n, KRet_r, resL, retTV, TV.er, AV.er, AV.ers, Heap.er, HObj.er, Heap.keys, hget, hset, subT, getP, setP, storeV, buildV, buildL, partsOf, capTV, argOK, entry, St.of, lk, encTraces]
  refine AT.loop' (α := Nat) (fun k => St.of [(0, .av (.slice 35) (encTraces l)), (1, .av (.slice 37) (encReads known)), (2, .av (.slice 32) (encDigs gone)), (7, .av (.int .i64) (.i .i64 k))] [] (fun _ => 0) [])
    (fun k => k ≤ l.length ∧ ∀ t ∈ l.take k, mayTake known gone t = false) (fun k => l.length - k) 0 ?_ ?_ ?_
  · refine Le.of ?_ ?_ ?_ ?_ ?_ <;> simp [vc_skip, vc_label, vc_region, vc_drawn, vc_seq, vc_cond, vc_block, vc_exit, vc_goto, vc_ret, vc_loop, vc_scope, vcOps_nil, vcOps_cons, vcPs_nil, vcPs_cons, vcG, vcOp, putK_eq, pureV, ev, co, coC, asI, asB, asS, isNil, nkOf, derefV, fieldAddrV, indexAddrV, indexV, lowV, boundsV, sliceV, pickV, unV, convV, capOf, lenV, minV, binI, isConst, binV, St.put, upd, KSeq_n, KSeq_x, KSeq_g, KSeq_r, KBlock_n, KBlock_x, KBlock_g, KBlock_r, KScope_n, KScope_x, KScope_r, KRet_n, KRet_r, resL, retTV, TV.er, AV.er, AV.ers, Heap.er, HObj.er, Heap.keys, hget, hset, subT, getP, setP, storeV, buildV, buildL, partsOf, capTV, argOK, entry, St.of, lk, leTV, leAV, locsIn, encDigs, encTraces, encWant, encTrace, encReads, encRead, encMades, encMade]
  · simp
  · rintro k ⟨hk2, hpk⟩ KL hN hE
    refine vc_sound (cf := cf0) laid mixed _ _ _ (by kernel_rfl) ?_
    by_cases hlt : k < l.length
    · obtain ⟨ht1, ht2⟩ := ht _ (List.getElem_mem hlt)
      simp [vc_skip, vc_label, vc_region, vc_drawn, vc_seq, vc_cond, vc_block, vc_exit, vc_goto, vc_ret, vc_loop, vc_scope, vcOps_nil, vcOps_cons, vcPs_nil, vcPs_cons, vcG, vcOp, putK_eq, pureV, ev, co, coC, asI, asB, asS, isNil, nkOf, derefV, fieldAddrV, indexAddrV, indexV, lowV, boundsV, sliceV, pickV, unV, convV, capOf, lenV, minV, binI, isConst, binV, St.put, upd, KSeq_n, KSeq_x, KSeq_g, KSeq_r, KBlock_n, KBlock_x, KBlock_g, KBlock_r, KScope_n, KScope_x, KScope_r, KRet_n, KRet_r, resL, retTV, TV.er, AV.er, AV.ers, Heap.er, HObj.er, Heap.keys, hget, hset, subT, getP, setP, storeV, buildV, buildL, partsOf, capTV, argOK, entry, St.of, lk, encTraces, hlt]
      refine callV_pure (r := .av .bool (.b (mayTake known gone l[k]))) rfl (by simp [argOK]) (by simp) ?_ ?_
      · simp [TV.er, AV.er, AV.ers, AV.ers_eq, Function.comp_def, encReads, encDigs, encMades, encTraces]
        exact f13_ok _ known gone ht1 ht2 hk hg
      · cases hb : mayTake known gone l[k] with
        | true =>
          simp [vc_skip, vc_label, vc_region, vc_drawn, vc_seq, vc_cond, vc_block, vc_exit, vc_goto, vc_ret, vc_loop, vc_scope, vcOps_nil, vcOps_cons, vcPs_nil, vcPs_cons, vcG, vcOp, putK_eq, pureV, ev, co, coC, asI, asB, asS, isNil, nkOf, derefV, fieldAddrV, indexAddrV, indexV, lowV, boundsV, sliceV, pickV, unV, convV, capOf, lenV, minV, binI, isConst, binV, St.put, upd, KSeq_n, KSeq_x, KSeq_g, KSeq_r, KBlock_n, KBlock_x, KBlock_g, KBlock_r, KScope_n, KScope_x, KScope_r, KRet_n, KRet_r, resL, retTV, TV.er, AV.er, AV.ers, Heap.er, HObj.er, Heap.keys, hget, hset, subT, getP, setP, storeV, buildV, buildL, partsOf, capTV, argOK, entry, St.of, lk, hb]
          refine hE _ _ (by simp) ?_
          simp [vc_skip, vc_label, vc_region, vc_drawn, vc_seq, vc_cond, vc_block, vc_exit, vc_goto, vc_ret, vc_loop, vc_scope, vcOps_nil, vcOps_cons, vcPs_nil, vcPs_cons, vcG, vcOp, putK_eq, pureV, ev, co, coC, asI, asB, asS, isNil, nkOf, derefV, fieldAddrV, indexAddrV, indexV, lowV, boundsV, sliceV, pickV, unV, convV, capOf, lenV, minV, binI, isConst, binV, St.put, upd, KSeq_n, KSeq_x, KSeq_g, KSeq_r, KBlock_n, KBlock_x, KBlock_g, KBlock_r, KScope_n, KScope_x, KScope_r, KRet_n, KRet_r, resL, retTV, TV.er, AV.er, AV.ers, Heap.er, HObj.er, Heap.keys, hget, hset, subT, getP, setP, storeV, buildV, buildL, partsOf, capTV, argOK, entry, St.of, lk, Try.f14]
          exact ⟨_, List.getElem_mem hlt, hb⟩
        | false =>
          simp [vc_skip, vc_label, vc_region, vc_drawn, vc_seq, vc_cond, vc_block, vc_exit, vc_goto, vc_ret, vc_loop, vc_scope, vcOps_nil, vcOps_cons, vcPs_nil, vcPs_cons, vcG, vcOp, putK_eq, pureV, ev, co, coC, asI, asB, asS, isNil, nkOf, derefV, fieldAddrV, indexAddrV, indexV, lowV, boundsV, sliceV, pickV, unV, convV, capOf, lenV, minV, binI, isConst, binV, St.put, upd, KSeq_n, KSeq_x, KSeq_g, KSeq_r, KBlock_n, KBlock_x, KBlock_g, KBlock_r, KScope_n, KScope_x, KScope_r, KRet_n, KRet_r, resL, retTV, TV.er, AV.er, AV.ers, Heap.er, HObj.er, Heap.keys, hget, hset, subT, getP, setP, storeV, buildV, buildL, partsOf, capTV, argOK, entry, St.of, lk, hb]
          refine hN _ (k+1) ?_ ⟨hlt, ?_⟩ (by omega)
          · (rw [i64_in (by omega) (by omega)]; refine Le.of ?_ ?_ ?_ ?_ ?_ <;> simp [vc_skip, vc_label, vc_region, vc_drawn, vc_seq, vc_cond, vc_block, vc_exit, vc_goto, vc_ret, vc_loop, vc_scope, vcOps_nil, vcOps_cons, vcPs_nil, vcPs_cons, vcG, vcOp, putK_eq, pureV, ev, co, coC, asI, asB, asS, isNil, nkOf, derefV, fieldAddrV, indexAddrV, indexV, lowV, boundsV, sliceV, pickV, unV, convV, capOf, lenV, minV, binI, isConst, binV, St.put, upd, KSeq_n, KSeq_x, KSeq_g, KSeq_r, KBlock_n, KBlock_x, KBlock_g, KBlock_r, KScope_n, KScope_x, KScope_r, KRet_n, KRet_r, resL, retTV, TV.er, AV.er, AV.ers, Heap.er, HObj.er, Heap.keys, hget, hset, subT, getP, setP, storeV, buildV, buildL, partsOf, capTV, argOK, entry, St.of, lk, leTV, leAV, locsIn, encDigs, encTraces, encWant, encTrace, encReads, encRead, encMades, encMade])
          · rw [take_succ_all hlt]; exact ⟨hpk, hb⟩
    · simp [vc_skip, vc_label, vc_region, vc_drawn, vc_seq, vc_cond, vc_block, vc_exit, vc_goto, vc_ret, vc_loop, vc_scope, vcOps_nil, vcOps_cons, vcPs_nil, vcPs_cons, vcG, vcOp, putK_eq, pureV, ev, co, coC, asI, asB, asS, isNil, nkOf, derefV, fieldAddrV, indexAddrV, indexV, lowV, boundsV, sliceV, pickV, unV, convV, capOf, lenV, minV, binI, isConst, binV, St.put, upd, KSeq_n, KSeq_x, KSeq_g, KSeq_r, KBlock_n, KBlock_x, KBlock_g, KBlock_r, KScope_n, KScope_x, KScope_r, KRet_n, KRet_r, resL, retTV, TV.er, AV.er, AV.ers, Heap.er, HObj.er, Heap.keys, hget, hset, subT, getP, setP, storeV, buildV, buildL, partsOf, capTV, argOK, entry, St.of, lk, hlt, encTraces]
      refine hE _ _ (by simp) ?_
      simp [vc_skip, vc_label, vc_region, vc_drawn, vc_seq, vc_cond, vc_block, vc_exit, vc_goto, vc_ret, vc_loop, vc_scope, vcOps_nil, vcOps_cons, vcPs_nil, vcPs_cons, vcG, vcOp, putK_eq, pureV, ev, co, coC, asI, asB, asS, isNil, nkOf, derefV, fieldAddrV, indexAddrV, indexV, lowV, boundsV, sliceV, pickV, unV, convV, capOf, lenV, minV, binI, isConst, binV, St.put, upd, KSeq_n, KSeq_x, KSeq_g, KSeq_r, KBlock_n, KBlock_x, KBlock_g, KBlock_r, KScope_n, KScope_x, KScope_r, KRet_n, KRet_r, resL, retTV, TV.er, AV.er, AV.ers, Heap.er, HObj.er, Heap.keys, hget, hset, subT, getP, setP, storeV, buildV, buildL, partsOf, capTV, argOK, entry, St.of, lk, Try.f14]
      rw [List.take_of_length_le (by omega)] at hpk
      exact hpk
end Go.Proofs.Ytaddpgjanbjcaaa
