/- The DirtyMore law gives true: what more is known behind changes nothing of what is sure. No condition beyond each theorem's own. -/
import Derived.Test.YtaddpgjanbjcaaaT13
set_option linter.unusedSimpArgs false
set_option linter.unusedVariables false
set_option linter.unusedSectionVars false
set_option maxRecDepth 100000
/-! The DirtyMore law gives true: what more is known behind changes nothing of what is sure. -/
namespace Go.Proofs.Ytaddpgjanbjcaaa
open Go Go.Ab
open Classical

theorem chk_more (known more : List Read) : ∀ rs, (∀ p, chk known rs ≠ some (some p)) → chk (known ++ more) rs = chk known rs
  | [], _ => rfl
  | r :: rs, h => by
    simp only [chk, List.find?_append] at h ⊢
    cases hf : known.find? (fun x => decide (x.path = r.path)) with
    | none => rw [hf] at h; exact absurd rfl (h r.path)
    | some x =>
      rw [hf] at h
      simp only [Option.some_or] at h ⊢
      by_cases hx : x = r
      · simp only [hx, if_true] at h ⊢
        exact chk_more known more rs h
      · simp [hx]
theorem nextV_more (known more : List Read) (gone : List Dig) : ∀ (l : List Trace) (i : Nat), (nextV known gone i l).kind = 1 ∨ nextV (known ++ more) gone i l = nextV known gone i l
  | [], _ => .inr rfl
  | t :: ts, i => by
    have ih := nextV_more known more gone ts (i + 1)
    unfold nextV
    cases hc : chk known t.reads with
    | none =>
      have := chk_more known more t.reads (by simp [hc])
      rw [this, hc]
      by_cases hg : ∃ m ∈ t.outs, m.sum ∈ gone
      · simp only [hg, if_true]; exact ih
      · simp only [hg, if_false]; exact .inr trivial
    | some o => cases o with
      | some p => exact .inl rfl
      | none =>
        have := chk_more known more t.reads (by simp [hc])
        rw [this, hc]
        exact ih

set_option maxHeartbeats 2000000 in
theorem f5_ok (l : List Trace) (known more : List Read) (gone : List Dig) (hl : l.length ≤ 9223372036854775807) (hk' : known.length ≤ 9223372036854775807) (hm' : more.length ≤ 9223372036854775807) (hg : gone.length ≤ 9223372036854775807)
    (ht : ∀ t ∈ l, t.reads.length ≤ 9223372036854775807 ∧ t.outs.length ≤ 9223372036854775807 ∧ t.key.length = 32) :
    PC Try.prog 5 [.av (.slice 35) (encTraces l), .av (.slice 37) (encReads known), .av (.slice 37) (encReads more), .av (.slice 32) (encDigs gone)] (.av .bool (.b true)) := by
  have ht' : ∀ t ∈ l, t.reads.length ≤ 9223372036854775807 ∧ t.outs.length ≤ 9223372036854775807 := fun t h => ⟨(ht t h).1, (ht t h).2.1⟩
  refine PC.of <| ACalls.of_vc laid mixed Try.func5 rfl (by kernel_rfl) cf0 (by simp [Try.ntmps5]) fun imm0 w0 => ?_
  simp [vc_skip, vc_label, vc_region, vc_drawn, vc_seq, vc_cond, vc_block, vc_exit, vc_goto, vc_ret, vc_loop, vc_scope, vcOps_nil, vcOps_cons, vcPs_nil, vcPs_cons, vcG, vcOp, putK_eq, pureV, ev, co, coC, asI, asB, asS, isNil, nkOf, derefV, fieldAddrV, indexAddrV, indexV, lowV, boundsV, sliceV, pickV, unV, convV, capOf, lenV, minV, binI, isConst, binV, St.put, upd, KSeq_n, KSeq_x, KSeq_g, KSeq_r, KBlock_n, KBlock_x, KBlock_g, KBlock_r, KScope_n, KScope_x, KScope_r, KRet_n, KRet_r, resL, retTV, TV.er, AV.er, AV.ers, Heap.er, HObj.er, Heap.keys, hget, hset, subT, getP, setP, storeV, buildV, buildL, partsOf, capTV, argOK, entry, St.of, lk]
  refine callV_pure (r := .av .bool (.b true)) rfl (by simp) (by simp) f9_ok ?_
  simp [vc_skip, vc_label, vc_region, vc_drawn, vc_seq, vc_cond, vc_block, vc_exit, vc_goto, vc_ret, vc_loop, vc_scope, vcOps_nil, vcOps_cons, vcPs_nil, vcPs_cons, vcG, vcOp, putK_eq, pureV, ev, co, coC, asI, asB, asS, isNil, nkOf, derefV, fieldAddrV, indexAddrV, indexV, lowV, boundsV, sliceV, pickV, unV, convV, capOf, lenV, minV, binI, isConst, binV, St.put, upd, KSeq_n, KSeq_x, KSeq_g, KSeq_r, KBlock_n, KBlock_x, KBlock_g, KBlock_r, KScope_n, KScope_x, KScope_r, KRet_n, KRet_r, resL, retTV, TV.er, AV.er, AV.ers, Heap.er, HObj.er, Heap.keys, hget, hset, subT, getP, setP, storeV, buildV, buildL, partsOf, capTV, argOK, entry, St.of, lk]
  refine callV_all (R := fun r H' => (∃ b, r = .av .bool (.b b) ∧ (b = false → l.length ≤ 20 ∧ ∀ t ∈ l, t.reads.length ≤ 60 ∧ t.outs.length ≤ 60)) ∧ H' = []) rfl (by simp [argOK]) (by simp) ?_ ?_
  · have := f10_ok l hl ht'
    simpa [Heap.er, TV.er] using this
  · rintro r H' ⟨⟨b, rfl, _⟩, rfl⟩
    cases b with
    | true => simp [vc_skip, vc_label, vc_region, vc_drawn, vc_seq, vc_cond, vc_block, vc_exit, vc_goto, vc_ret, vc_loop, vc_scope, vcOps_nil, vcOps_cons, vcPs_nil, vcPs_cons, vcG, vcOp, putK_eq, pureV, ev, co, coC, asI, asB, asS, isNil, nkOf, derefV, fieldAddrV, indexAddrV, indexV, lowV, boundsV, sliceV, pickV, unV, convV, capOf, lenV, minV, binI, isConst, binV, St.put, upd, KSeq_n, KSeq_x, KSeq_g, KSeq_r, KBlock_n, KBlock_x, KBlock_g, KBlock_r, KScope_n, KScope_x, KScope_r, KRet_n, KRet_r, resL, retTV, TV.er, AV.er, AV.ers, Heap.er, HObj.er, Heap.keys, hget, hset, subT, getP, setP, storeV, buildV, buildL, partsOf, capTV, argOK, entry, St.of, lk, Try.f5]
    | false =>
      by_cases h1 : (60 : Int) < known.length
      · simp [vc_skip, vc_label, vc_region, vc_drawn, vc_seq, vc_cond, vc_block, vc_exit, vc_goto, vc_ret, vc_loop, vc_scope, vcOps_nil, vcOps_cons, vcPs_nil, vcPs_cons, vcG, vcOp, putK_eq, pureV, ev, co, coC, asI, asB, asS, isNil, nkOf, derefV, fieldAddrV, indexAddrV, indexV, lowV, boundsV, sliceV, pickV, unV, convV, capOf, lenV, minV, binI, isConst, binV, St.put, upd, KSeq_n, KSeq_x, KSeq_g, KSeq_r, KBlock_n, KBlock_x, KBlock_g, KBlock_r, KScope_n, KScope_x, KScope_r, KRet_n, KRet_r, resL, retTV, TV.er, AV.er, AV.ers, Heap.er, HObj.er, Heap.keys, hget, hset, subT, getP, setP, storeV, buildV, buildL, partsOf, capTV, argOK, entry, St.of, lk, Try.f5, encReads, h1]
      by_cases h2 : (60 : Int) < more.length
      · simp [vc_skip, vc_label, vc_region, vc_drawn, vc_seq, vc_cond, vc_block, vc_exit, vc_goto, vc_ret, vc_loop, vc_scope, vcOps_nil, vcOps_cons, vcPs_nil, vcPs_cons, vcG, vcOp, putK_eq, pureV, ev, co, coC, asI, asB, asS, isNil, nkOf, derefV, fieldAddrV, indexAddrV, indexV, lowV, boundsV, sliceV, pickV, unV, convV, capOf, lenV, minV, binI, isConst, binV, St.put, upd, KSeq_n, KSeq_x, KSeq_g, KSeq_r, KBlock_n, KBlock_x, KBlock_g, KBlock_r, KScope_n, KScope_x, KScope_r, KRet_n, KRet_r, resL, retTV, TV.er, AV.er, AV.ers, Heap.er, HObj.er, Heap.keys, hget, hset, subT, getP, setP, storeV, buildV, buildL, partsOf, capTV, argOK, entry, St.of, lk, Try.f5, encReads, encDigs, h1, h2]
      by_cases h3 : (60 : Int) < gone.length
      · simp [vc_skip, vc_label, vc_region, vc_drawn, vc_seq, vc_cond, vc_block, vc_exit, vc_goto, vc_ret, vc_loop, vc_scope, vcOps_nil, vcOps_cons, vcPs_nil, vcPs_cons, vcG, vcOp, putK_eq, pureV, ev, co, coC, asI, asB, asS, isNil, nkOf, derefV, fieldAddrV, indexAddrV, indexV, lowV, boundsV, sliceV, pickV, unV, convV, capOf, lenV, minV, binI, isConst, binV, St.put, upd, KSeq_n, KSeq_x, KSeq_g, KSeq_r, KBlock_n, KBlock_x, KBlock_g, KBlock_r, KScope_n, KScope_x, KScope_r, KRet_n, KRet_r, resL, retTV, TV.er, AV.er, AV.ers, Heap.er, HObj.er, Heap.keys, hget, hset, subT, getP, setP, storeV, buildV, buildL, partsOf, capTV, argOK, entry, St.of, lk, Try.f5, encReads, encDigs, h1, h2, h3]
      simp [vc_skip, vc_label, vc_region, vc_drawn, vc_seq, vc_cond, vc_block, vc_exit, vc_goto, vc_ret, vc_loop, vc_scope, vcOps_nil, vcOps_cons, vcPs_nil, vcPs_cons, vcG, vcOp, putK_eq, pureV, ev, co, coC, asI, asB, asS, isNil, nkOf, derefV, fieldAddrV, indexAddrV, indexV, lowV, boundsV, sliceV, pickV, unV, convV, capOf, lenV, minV, binI, isConst, binV, St.put, upd, KSeq_n, KSeq_x, KSeq_g, KSeq_r, KBlock_n, KBlock_x, KBlock_g, KBlock_r, KScope_n, KScope_x, KScope_r, KRet_n, KRet_r, resL, retTV, TV.er, AV.er, AV.ers, Heap.er, HObj.er, Heap.keys, hget, hset, subT, getP, setP, storeV, buildV, buildL, partsOf, capTV, argOK, entry, St.of, lk, encReads, encDigs, h1, h2, h3]
      refine callV_pure (r := .av (tyOf Try.prog 28) (encWant (nextV known gone 0 l))) rfl (by simp [argOK]) (by simp) ?_ ?_
      · simp [TV.er, AV.er, AV.ers, AV.ers_eq, Function.comp_def, encReads, encDigs, encMades, encTraces]
        exact f11_ok l known gone hl hk' hg ht'
      · simp [vc_skip, vc_label, vc_region, vc_drawn, vc_seq, vc_cond, vc_block, vc_exit, vc_goto, vc_ret, vc_loop, vc_scope, vcOps_nil, vcOps_cons, vcPs_nil, vcPs_cons, vcG, vcOp, putK_eq, pureV, ev, co, coC, asI, asB, asS, isNil, nkOf, derefV, fieldAddrV, indexAddrV, indexV, lowV, boundsV, sliceV, pickV, unV, convV, capOf, lenV, minV, binI, isConst, binV, St.put, upd, KSeq_n, KSeq_x, KSeq_g, KSeq_r, KBlock_n, KBlock_x, KBlock_g, KBlock_r, KScope_n, KScope_x, KScope_r, KRet_n, KRet_r, resL, retTV, TV.er, AV.er, AV.ers, Heap.er, HObj.er, Heap.keys, hget, hset, subT, getP, setP, storeV, buildV, buildL, partsOf, capTV, argOK, entry, St.of, lk, appendV]
        refine ⟨by omega, by omega, by omega, by omega, ?_⟩
        refine callV_pure (r := .av (tyOf Try.prog 28) (encWant (nextV (known ++ more) gone 0 l))) rfl (by simp [argOK]) (by simp) ?_ ?_
        · simp [TV.er, AV.er, AV.ers, AV.ers_eq, Function.comp_def, encReads, encDigs, encMades, encTraces]
          have := f11_ok l (known ++ more) gone hl (by rw [List.length_append]; omega) hg ht'
          simpa [encReads, encTraces, encDigs] using this
        · simp [vc_skip, vc_label, vc_region, vc_drawn, vc_seq, vc_cond, vc_block, vc_exit, vc_goto, vc_ret, vc_loop, vc_scope, vcOps_nil, vcOps_cons, vcPs_nil, vcPs_cons, vcG, vcOp, putK_eq, pureV, ev, co, coC, asI, asB, asS, isNil, nkOf, derefV, fieldAddrV, indexAddrV, indexV, lowV, boundsV, sliceV, pickV, unV, convV, capOf, lenV, minV, binI, isConst, binV, St.put, upd, KSeq_n, KSeq_x, KSeq_g, KSeq_r, KBlock_n, KBlock_x, KBlock_g, KBlock_r, KScope_n, KScope_x, KScope_r, KRet_n, KRet_r, resL, retTV, TV.er, AV.er, AV.ers, Heap.er, HObj.er, Heap.keys, hget, hset, subT, getP, setP, storeV, buildV, buildL, partsOf, capTV, argOK, entry, St.of, lk, encWant, Try.f5]
          have := nextV_more known more gone l 0
          rcases this with h | h
          · simp [h]
          · simp [h]; exact fun a b => absurd a b
end Go.Proofs.Ytaddpgjanbjcaaa
