/- Which reads of a trace are of some paths: dirty.read and bloomeryref27.reads. No condition beyond each theorem's own. -/
import Derived.Test.YtaddpgjanbjcaaaT5
set_option linter.unusedSimpArgs false
set_option linter.unusedVariables false
set_option linter.unusedSectionVars false
set_option maxRecDepth 100000
/-! Which reads of a trace are of some paths: dirty.read and bloomeryref27.reads. -/
namespace Go.Proofs.Ytaddpgjanbjcaaa
open Go Go.Ab
open Classical

@[simp] theorem fnok35 : fnOK Try.prog 35 = true := by kernel_rfl
@[simp] theorem fnok36 : fnOK Try.prog 36 = true := by kernel_rfl
@[simp] theorem fnok28 : fnOK Try.prog 28 = true := by kernel_rfl
@[simp] theorem fnok29 : fnOK Try.prog 29 = true := by kernel_rfl
@[simp] theorem fnok17 : fnOK Try.prog 17 = true := by kernel_rfl
@[simp] theorem fnok16 : fnOK Try.prog 16 = true := by kernel_rfl
@[simp] theorem fnok27 : fnOK Try.prog 27 = true := by kernel_rfl
@[simp] theorem fnok15 : fnOK Try.prog 15 = true := by kernel_rfl

def encSet (ps : List (List UInt8)) : List (AV × AV) := ps.map fun p => (.s p, .b true)
theorem find_set (p : List UInt8) : ∀ ps, mfind (.s p) (encSet ps) = if p ∈ ps then some (.b true) else none
  | [] => by simp [encSet, mfind]
  | q :: ps => by
    have ih := find_set p ps
    simp only [encSet, List.map_cons, mfind] at ih ⊢
    by_cases h : q = p
    · simp [h]
    · rw [if_neg (by simpa using h), ih]
      have : (p ∈ q :: ps) ↔ p ∈ ps := by simp [Ne.symm h]
      by_cases hp : p ∈ ps
      · simp [hp]
      · simp [hp, Ne.symm h]
theorem put_set (p : List UInt8) : ∀ ps, mput (.s p) (.b true) (encSet ps) = encSet (if p ∈ ps then ps else ps ++ [p])
  | [] => by simp [encSet, mput]
  | q :: ps => by
    have ih := put_set p ps
    simp only [encSet, List.map_cons, mput] at ih ⊢
    by_cases h : q = p
    · simp [h]
    · rw [if_neg (by simpa using h), ih]
      by_cases hp : p ∈ ps
      · simp [hp]
      · simp [hp, Ne.symm h]
@[simp] theorem er_encSet (ps : List (List UInt8)) : (encSet ps).map (fun p => (p.1.er, p.2.er)) = encSet ps := by
  simp [encSet, AV.er, Function.comp_def]

theorem f36_ok (r : Read) (bm b : Nat) (ps : List (List UInt8)) (hne : b ≠ bm) :
    ACalls Try.prog 36 [.av (tyOf Try.prog 37) (encRead r), .av .ptr (.ptr bm (tyOf Try.prog 68) [])] [(bm, .var (tyOf Try.prog 68) (.map (some b))), (b, .map 9 4 (encSet ps))]
      fun r' H' => r' = .av .bool (.b (decide (r.path ∈ ps))) ∧ H' = [(bm, .var (tyOf Try.prog 68) (.map (some b))), (b, .map 9 4 (encSet ps))] := by
  refine ACalls.of_vc laid mixed Try.func36 rfl (by kernel_rfl) cf0 (by simp [Try.ntmps36]) fun imm0 w0 => ?_
  simp [vc_skip, vc_label, vc_region, vc_drawn, vc_seq, vc_cond, vc_block, vc_exit, vc_goto, vc_ret, vc_loop, vc_scope, vcOps_nil, vcOps_cons, vcPs_nil, vcPs_cons, vcDs_nil, vcDs_cons, vcD, wkOf, isCallV, rdOK, rdJ, ordB, St.app, Oper.looksAt, Op.operands, Call.operands, Region.binds, vcG_eq, iteP, wkOf, isCallV, vcOp, putK_eq, pureV, ev, co, coC, asI, asB, asS, isNil, nkOf, derefV, fieldAddrV, indexAddrV, indexV, lowV, boundsV, sliceV, pickV_eq, unV, convV, capOf, lenV, minV, withSrc, slice3V, lookupV, mapOf, mfind, mput, scalT, mapUpdV, makeSliceV, appendM, appendN, growM, growOK, zM, binI, isConst, binV, St.put, upd, KSeq_n, KSeq_x, KSeq_g, KSeq_r, KBlock_n, KBlock_x, KBlock_g, KBlock_r, KScope_n, KScope_x, KScope_r, KRet_n, KRet_r, resL, retTV, TV.er, AV.er, AV.ers, Heap.er_nil, Heap.er_cons, Heap.er_app, HObj.er_var, HObj.er_map, Heap.keys_nil, Heap.keys_cons, Heap.keys_app, hget, hset, subT, getP, setP, storeV, buildV, buildL, partsOf, capTV, argOK, entry, St.of, lk, encRead, Try.f36, find_set, hne, Ne.symm hne]
  by_cases hp : r.path ∈ ps
  · simp [vc_skip, vc_label, vc_region, vc_drawn, vc_seq, vc_cond, vc_block, vc_exit, vc_goto, vc_ret, vc_loop, vc_scope, vcOps_nil, vcOps_cons, vcPs_nil, vcPs_cons, vcDs_nil, vcDs_cons, vcD, wkOf, isCallV, rdOK, rdJ, ordB, St.app, Oper.looksAt, Op.operands, Call.operands, Region.binds, vcG_eq, iteP, wkOf, isCallV, vcOp, putK_eq, pureV, ev, co, coC, asI, asB, asS, isNil, nkOf, derefV, fieldAddrV, indexAddrV, indexV, lowV, boundsV, sliceV, pickV_eq, unV, convV, capOf, lenV, minV, withSrc, slice3V, lookupV, mapOf, mfind, mput, scalT, mapUpdV, makeSliceV, appendM, appendN, growM, growOK, zM, binI, isConst, binV, St.put, upd, KSeq_n, KSeq_x, KSeq_g, KSeq_r, KBlock_n, KBlock_x, KBlock_g, KBlock_r, KScope_n, KScope_x, KScope_r, KRet_n, KRet_r, resL, retTV, TV.er, AV.er, AV.ers, Heap.er_nil, Heap.er_cons, Heap.er_app, HObj.er_var, HObj.er_map, Heap.keys_nil, Heap.keys_cons, Heap.keys_app, hget, hset, subT, getP, setP, storeV, buildV, buildL, partsOf, capTV, argOK, entry, St.of, lk, hp]
  · simp [vc_skip, vc_label, vc_region, vc_drawn, vc_seq, vc_cond, vc_block, vc_exit, vc_goto, vc_ret, vc_loop, vc_scope, vcOps_nil, vcOps_cons, vcPs_nil, vcPs_cons, vcDs_nil, vcDs_cons, vcD, wkOf, isCallV, rdOK, rdJ, ordB, St.app, Oper.looksAt, Op.operands, Call.operands, Region.binds, vcG_eq, iteP, wkOf, isCallV, vcOp, putK_eq, pureV, ev, co, coC, asI, asB, asS, isNil, nkOf, derefV, fieldAddrV, indexAddrV, indexV, lowV, boundsV, sliceV, pickV_eq, unV, convV, capOf, lenV, minV, withSrc, slice3V, lookupV, mapOf, mfind, mput, scalT, mapUpdV, makeSliceV, appendM, appendN, growM, growOK, zM, binI, isConst, binV, St.put, upd, KSeq_n, KSeq_x, KSeq_g, KSeq_r, KBlock_n, KBlock_x, KBlock_g, KBlock_r, KScope_n, KScope_x, KScope_r, KRet_n, KRet_r, resL, retTV, TV.er, AV.er, AV.ers, Heap.er_nil, Heap.er_cons, Heap.er_app, HObj.er_var, HObj.er_map, Heap.keys_nil, Heap.keys_cons, Heap.keys_app, hget, hset, subT, getP, setP, storeV, buildV, buildL, partsOf, capTV, argOK, entry, St.of, lk, hp]

def pathIn (ps : List (List UInt8)) : AV → Bool
  | .agg (.s p :: _) => decide (p ∈ ps)
  | _ => false
theorem any_idx {α : Type} (p : α → Bool) (xs : List α) : decide (0 ≤ idxOf p xs) = xs.any p := by
  unfold idxOf
  rw [Bool.eq_iff_iff, List.any_eq_true]
  cases h : xs.findIdx? p with
  | none =>
    rw [List.findIdx?_eq_none_iff] at h
    simp
    intro x hx; simp [h x hx]
  | some i =>
    rw [List.findIdx?_eq_some_iff_getElem] at h
    obtain ⟨hl, hp, _⟩ := h
    simp
    exact ⟨xs[i], List.getElem_mem hl, hp⟩

theorem f35_ok (known : List Read) (hk : known.length ≤ 9223372036854775807) (bm b : Nat) (ps : List (List UInt8)) (hne : b ≠ bm) :
    ACalls Try.prog 35 [.av (.slice 37) (encReads known), .av .func (.fn 36 [.ptr bm (tyOf Try.prog 68) []])] [(bm, .var (tyOf Try.prog 68) (.map (some b))), (b, .map 9 4 (encSet ps))]
      fun r' H' => r' = .av .bool (.b (known.any fun x => decide (x.path ∈ ps))) ∧ H' = [(bm, .var (tyOf Try.prog 68) (.map (some b))), (b, .map 9 4 (encSet ps))] := by
  refine ACalls.of_vc laid mixed Try.func35 rfl (by kernel_rfl) cf0 (by simp [Try.ntmps35]) fun imm0 w0 => ?_
  simp [vc_skip, vc_label, vc_region, vc_drawn, vc_seq, vc_cond, vc_block, vc_exit, vc_goto, vc_ret, vc_loop, vc_scope, vcOps_nil, vcOps_cons, vcPs_nil, vcPs_cons, vcDs_nil, vcDs_cons, vcD, wkOf, isCallV, rdOK, rdJ, ordB, St.app, Oper.looksAt, Op.operands, Call.operands, Region.binds, vcG_eq, iteP, wkOf, isCallV, vcOp, putK_eq, pureV, ev, co, coC, asI, asB, asS, isNil, nkOf, derefV, fieldAddrV, indexAddrV, indexV, lowV, boundsV, sliceV, pickV_eq, unV, convV, capOf, lenV, minV, withSrc, slice3V, lookupV, mapOf, mfind, mput, scalT, mapUpdV, makeSliceV, appendM, appendN, growM, growOK, zM, binI, isConst, binV, St.put, upd, KSeq_n, KSeq_x, KSeq_g, KSeq_r, KBlock_n, KBlock_x, KBlock_g, KBlock_r, KScope_n, KScope_x, KScope_r, KRet_n, KRet_r, resL, retTV, TV.er, AV.er, AV.ers, Heap.er_nil, Heap.er_cons, Heap.er_app, HObj.er_var, HObj.er_map, Heap.keys_nil, Heap.keys_cons, Heap.keys_app, hget, hset, subT, getP, setP, storeV, buildV, buildL, partsOf, capTV, argOK, entry, St.of, lk, encReads]
  refine callV_all (R := fun r' H' => r' = .av (.int .i64) (.i .i64 (idxOf (fun x => decide (x.path ∈ ps)) known)) ∧ H' = [(bm, .var (tyOf Try.prog 68) (.map (some b))), (b, .map 9 4 (encSet ps))]) rfl (by simp [argOK]) (by simp) ?_ ?_
  · have h := f21_ok (known.map encRead) (by simp) 36 [.ptr bm (tyOf Try.prog 68) []] [.av .ptr (.ptr bm (tyOf Try.prog 68) [])] (by simp) rfl (by simp [AV.er, AV.ers]) [(bm, .var (tyOf Try.prog 68) (.map (some b))), (b, .map 9 4 (encSet ps))] (by simp [Heap.er, HObj.er, AV.er])
      (pathIn ps) (by simpa using hk) (by
        intro x hx
        obtain ⟨k, _, rfl⟩ := List.mem_map.1 hx
        have := f36_ok k bm b ps hne
        simpa [TV.er, AV.er, AV.ers, pathIn, encRead] using this)
    rw [idxOf_map] at h
    have e : (pathIn ps ∘ encRead) = fun x => decide (x.path ∈ ps) := by funext x; simp [pathIn, encRead]
    rw [e] at h
    simpa [TV.er, AV.er, AV.ers_eq, Function.comp_def, Heap.er, HObj.er] using h
  · rintro r' H' ⟨rfl, rfl⟩
    simp [vc_skip, vc_label, vc_region, vc_drawn, vc_seq, vc_cond, vc_block, vc_exit, vc_goto, vc_ret, vc_loop, vc_scope, vcOps_nil, vcOps_cons, vcPs_nil, vcPs_cons, vcDs_nil, vcDs_cons, vcD, wkOf, isCallV, rdOK, rdJ, ordB, St.app, Oper.looksAt, Op.operands, Call.operands, Region.binds, vcG_eq, iteP, wkOf, isCallV, vcOp, putK_eq, pureV, ev, co, coC, asI, asB, asS, isNil, nkOf, derefV, fieldAddrV, indexAddrV, indexV, lowV, boundsV, sliceV, pickV_eq, unV, convV, capOf, lenV, minV, withSrc, slice3V, lookupV, mapOf, mfind, mput, scalT, mapUpdV, makeSliceV, appendM, appendN, growM, growOK, zM, binI, isConst, binV, St.put, upd, KSeq_n, KSeq_x, KSeq_g, KSeq_r, KBlock_n, KBlock_x, KBlock_g, KBlock_r, KScope_n, KScope_x, KScope_r, KRet_n, KRet_r, resL, retTV, TV.er, AV.er, AV.ers, Heap.er_nil, Heap.er_cons, Heap.er_app, HObj.er_var, HObj.er_map, Heap.keys_nil, Heap.keys_cons, Heap.keys_app, hget, hset, subT, getP, setP, storeV, buildV, buildL, partsOf, capTV, argOK, entry, St.of, lk, Try.f35]
    exact any_idx _ _

abbrev cf28 : Cfg := ⟨fun k => k == 3, fun _ => false⟩
theorem f28_ok (t : Trace) (hk : t.reads.length ≤ 9223372036854775807) (b : Nat) (ps : List (List UInt8)) :
    ACalls Try.prog 28 [.av (tyOf Try.prog 35) (encTrace t), .av (.map 9 4) (.map (some b))] [(b, .map 9 4 (encSet ps))]
      fun r' H' => r' = .av .bool (.b (t.reads.any fun x => decide (x.path ∈ ps))) ∧ H' = [(b, .map 9 4 (encSet ps))] := by
  refine ACalls.drop (R := fun r' H' => r' = .av .bool (.b (t.reads.any fun x => decide (x.path ∈ ps))) ∧ ∃ bm, H' = [(bm, .var (tyOf Try.prog 68) (.map (some b))), (b, .map 9 4 (encSet ps))]) ?_ ?_
  · refine ACalls.of_vc laid mixed Try.func28 rfl (by kernel_rfl) cf28 (by simp [Try.ntmps28]) fun imm0 w0 => ?_
    simp [vc_skip, vc_label, vc_region, vc_drawn, vc_seq, vc_cond, vc_block, vc_exit, vc_goto, vc_ret, vc_loop, vc_scope, vcOps_nil, vcOps_cons, vcPs_nil, vcPs_cons, vcDs_nil, vcDs_cons, vcD, wkOf, isCallV, rdOK, rdJ, ordB, St.app, Oper.looksAt, Op.operands, Call.operands, Region.binds, vcG_eq, iteP, wkOf, isCallV, vcOp, putK_eq, pureV, ev, co, coC, asI, asB, asS, isNil, nkOf, derefV, fieldAddrV, indexAddrV, indexV, lowV, boundsV, sliceV, pickV_eq, unV, convV, capOf, lenV, minV, withSrc, slice3V, lookupV, mapOf, mfind, mput, scalT, mapUpdV, makeSliceV, appendM, appendN, growM, growOK, zM, binI, isConst, binV, St.put, upd, KSeq_n, KSeq_x, KSeq_g, KSeq_r, KBlock_n, KBlock_x, KBlock_g, KBlock_r, KScope_n, KScope_x, KScope_r, KRet_n, KRet_r, resL, retTV, TV.er, AV.er, AV.ers, Heap.er_nil, Heap.er_cons, Heap.er_app, HObj.er_var, HObj.er_map, Heap.keys_nil, Heap.keys_cons, Heap.keys_app, hget, hset, subT, getP, setP, storeV, buildV, buildL, partsOf, capTV, argOK, entry, St.of, lk, encTrace]
    intro bm hbm
    have hne : b ≠ bm := by simpa [eq_comm] using hbm
    refine callV_all (R := fun r' H' => r' = .av .bool (.b (t.reads.any fun x => decide (x.path ∈ ps))) ∧ H' = [(bm, .var (tyOf Try.prog 68) (.map (some b))), (b, .map 9 4 (encSet ps))]) rfl (by simp [argOK]) (by simp) ?_ ?_
    · have := f35_ok t.reads hk bm b ps hne
      simpa [TV.er, AV.er, AV.ers, AV.ers_eq, Function.comp_def, Heap.er, HObj.er, encReads] using this
    · rintro r' H' ⟨rfl, rfl⟩
      simp [vc_skip, vc_label, vc_region, vc_drawn, vc_seq, vc_cond, vc_block, vc_exit, vc_goto, vc_ret, vc_loop, vc_scope, vcOps_nil, vcOps_cons, vcPs_nil, vcPs_cons, vcDs_nil, vcDs_cons, vcD, wkOf, isCallV, rdOK, rdJ, ordB, St.app, Oper.looksAt, Op.operands, Call.operands, Region.binds, vcG_eq, iteP, wkOf, isCallV, vcOp, putK_eq, pureV, ev, co, coC, asI, asB, asS, isNil, nkOf, derefV, fieldAddrV, indexAddrV, indexV, lowV, boundsV, sliceV, pickV_eq, unV, convV, capOf, lenV, minV, withSrc, slice3V, lookupV, mapOf, mfind, mput, scalT, mapUpdV, makeSliceV, appendM, appendN, growM, growOK, zM, binI, isConst, binV, St.put, upd, KSeq_n, KSeq_x, KSeq_g, KSeq_r, KBlock_n, KBlock_x, KBlock_g, KBlock_r, KScope_n, KScope_x, KScope_r, KRet_n, KRet_r, resL, retTV, TV.er, AV.er, AV.ers, Heap.er_nil, Heap.er_cons, Heap.er_app, HObj.er_var, HObj.er_map, Heap.keys_nil, Heap.keys_cons, Heap.keys_app, hget, hset, subT, getP, setP, storeV, buildV, buildL, partsOf, capTV, argOK, entry, St.of, lk, Try.f28]
  · rintro r' H' ⟨rfl, bm, rfl⟩
    exact ⟨[(b, .map 9 4 (encSet ps))], by simp, rfl, rfl⟩

theorem f29_ok (t : Trace) (p : List UInt8) (hk : t.reads.length ≤ 9223372036854775807) :
    PC Try.prog 29 [.av (tyOf Try.prog 35) (encTrace t), .av .str (.s p)] (.av .bool (.b (knowsV t.reads p))) := by
  refine PC.of <| ACalls.of_vc laid mixed Try.func29 rfl (by kernel_rfl) cf0 (by simp [Try.ntmps29]) fun imm0 w0 => ?_
  simp [vc_skip, vc_label, vc_region, vc_drawn, vc_seq, vc_cond, vc_block, vc_exit, vc_goto, vc_ret, vc_loop, vc_scope, vcOps_nil, vcOps_cons, vcPs_nil, vcPs_cons, vcDs_nil, vcDs_cons, vcD, wkOf, isCallV, rdOK, rdJ, ordB, St.app, Oper.looksAt, Op.operands, Call.operands, Region.binds, vcG_eq, iteP, wkOf, isCallV, vcOp, putK_eq, pureV, ev, co, coC, asI, asB, asS, isNil, nkOf, derefV, fieldAddrV, indexAddrV, indexV, lowV, boundsV, sliceV, pickV_eq, unV, convV, capOf, lenV, minV, withSrc, slice3V, lookupV, mapOf, mfind, mput, scalT, mapUpdV, makeSliceV, appendM, appendN, growM, growOK, zM, binI, isConst, binV, St.put, upd, KSeq_n, KSeq_x, KSeq_g, KSeq_r, KBlock_n, KBlock_x, KBlock_g, KBlock_r, KScope_n, KScope_x, KScope_r, KRet_n, KRet_r, resL, retTV, TV.er, AV.er, AV.ers, Heap.er_nil, Heap.er_cons, Heap.er_app, HObj.er_var, HObj.er_map, Heap.keys_nil, Heap.keys_cons, Heap.keys_app, hget, hset, subT, getP, setP, storeV, buildV, buildL, partsOf, capTV, argOK, entry, St.of, lk, encTrace]
  refine callV_pure (r := .av .bool (.b (knowsV t.reads p))) rfl (by simp [argOK]) (by simp) ?_ ?_
  · simp [TV.er, AV.er, AV.ers, AV.ers_eq, Function.comp_def, encReads, encDigs, encMades, encTraces]
    have := f34_ok t.reads p hk
    simpa [encReads] using this
  · simp [vc_skip, vc_label, vc_region, vc_drawn, vc_seq, vc_cond, vc_block, vc_exit, vc_goto, vc_ret, vc_loop, vc_scope, vcOps_nil, vcOps_cons, vcPs_nil, vcPs_cons, vcDs_nil, vcDs_cons, vcD, wkOf, isCallV, rdOK, rdJ, ordB, St.app, Oper.looksAt, Op.operands, Call.operands, Region.binds, vcG_eq, iteP, wkOf, isCallV, vcOp, putK_eq, pureV, ev, co, coC, asI, asB, asS, isNil, nkOf, derefV, fieldAddrV, indexAddrV, indexV, lowV, boundsV, sliceV, pickV_eq, unV, convV, capOf, lenV, minV, withSrc, slice3V, lookupV, mapOf, mfind, mput, scalT, mapUpdV, makeSliceV, appendM, appendN, growM, growOK, zM, binI, isConst, binV, St.put, upd, KSeq_n, KSeq_x, KSeq_g, KSeq_r, KBlock_n, KBlock_x, KBlock_g, KBlock_r, KScope_n, KScope_x, KScope_r, KRet_n, KRet_r, resL, retTV, TV.er, AV.er, AV.ers, Heap.er_nil, Heap.er_cons, Heap.er_app, HObj.er_var, HObj.er_map, Heap.keys_nil, Heap.keys_cons, Heap.keys_app, hget, hset, subT, getP, setP, storeV, buildV, buildL, partsOf, capTV, argOK, entry, St.of, lk, Try.f29]
end Go.Proofs.Ytaddpgjanbjcaaa
