/- Lemmas of this proof. No condition beyond each theorem's own. -/
import Derived.Test.YtaddpgjanbjcaaaT0
set_option linter.unusedSimpArgs false
set_option linter.unusedVariables false
set_option linter.unusedSectionVars false
set_option maxRecDepth 100000
namespace Go.Proofs.Ytaddpgjanbjcaaa
open Go Go.Ab
open Classical

def idxOf {α : Type} (p : α → Bool) (xs : List α) : Int := match xs.findIdx? p with | some i => i | none => -1

theorem idxOf_hit {α : Type} {p : α → Bool} {xs : List α} {k : Nat} (hlt : k < xs.length) (h0 : ∀ x ∈ xs.take k, p x = false) (h1 : p xs[k] = true) : idxOf p xs = k := by
  have : xs.findIdx? p = some k := by
    rw [List.findIdx?_eq_some_iff_getElem]
    refine ⟨hlt, h1, fun j hj => ?_⟩
    rw [h0 _ (List.mem_take_iff_getElem.2 ⟨j, by omega, rfl⟩)]; simp
  simp [idxOf, this]
theorem idxOf_miss {α : Type} {p : α → Bool} {xs : List α} (h0 : ∀ x ∈ xs, p x = false) : idxOf p xs = -1 := by
  have : xs.findIdx? p = none := by
    rw [List.findIdx?_eq_none_iff]; exact h0
  simp [idxOf, this]

theorem idxOf_nonneg {α : Type} {p : α → Bool} {xs : List α} : 0 ≤ idxOf p xs ↔ ∃ x ∈ xs, p x = true := by
  unfold idxOf
  cases h : xs.findIdx? p with
  | none =>
    rw [List.findIdx?_eq_none_iff] at h
    simp only [Int.reduceNeg, Int.reduceLE, false_iff, not_exists]
    rintro x ⟨hx, h1⟩; rw [h x hx] at h1; cases h1
  | some i =>
    rw [List.findIdx?_eq_some_iff_getElem] at h
    obtain ⟨hl, hp, _⟩ := h
    simp only [Int.natCast_nonneg, true_iff]
    exact ⟨_, List.getElem_mem hl, hp⟩

theorem idxOf_map {α β : Type} {p : β → Bool} {f : α → β} {xs : List α} : idxOf p (xs.map f) = idxOf (p ∘ f) xs := by
  unfold idxOf; rw [List.findIdx?_map]

theorem idxOf_find {α : Type} (p : α → Bool) (xs : List α) : (idxOf p xs = -1 ∧ xs.find? p = none) ∨ ∃ (i : Nat) (h : i < xs.length), idxOf p xs = i ∧ xs.find? p = some xs[i] := by
  unfold idxOf
  cases h : xs.findIdx? p with
  | none =>
    left; rw [List.findIdx?_eq_none_iff] at h
    exact ⟨rfl, List.find?_eq_none.2 fun x hx => by simp [h x hx]⟩
  | some i =>
    right
    rw [List.findIdx?_eq_some_iff_getElem] at h
    obtain ⟨hl, hp, hn⟩ := h
    refine ⟨i, hl, rfl, ?_⟩
    rw [List.find?_eq_some_iff_getElem]
    exact ⟨hp, i, hl, rfl, fun j hj => by simpa using hn j hj⟩

theorem f21_ok (xs : List AV) (hx : ∀ x ∈ xs, x.er = x) (f : FuncId) (caps : List AV) (cs : List TV) (hf : fnOK Try.prog f = true) (hc : caps.mapM capTV = some cs) (hce : AV.ers caps = caps) (H : Heap) (hH : H.er = H) (p : AV → Bool) (hlen : xs.length ≤ 9223372036854775807)
    (hp : ∀ x ∈ xs, ACalls Try.prog f ((.av (tyOf Try.prog 37) x :: cs).map TV.er) H fun r H' => r = .av .bool (.b (p x)) ∧ H' = H) :
    ACalls Try.prog 21 [.av (.slice 37) (.sl .no xs), .av .func (.fn f caps)] H fun r H' => r = .av (.int .i64) (.i .i64 (idxOf p xs)) ∧ H' = H := by
  refine ACalls.of_vc laid mixed Try.func21 rfl (by kernel_rfl) cf0 (by simp [Try.ntmps21]) fun imm0 w0 => ?_
  have hH' := hH
  simp [vc_skip, vc_label, vc_region, vc_drawn, vc_seq, vc_cond, vc_block, vc_exit, vc_goto, vc_ret, vc_loop, vc_scope, vcOps_nil, vcOps_cons, vcPs_nil, vcPs_cons, vcDs_nil, vcDs_cons, vcD, impB, mkd, wkOf, isCallV, rdOK_eq, rdO_nil, rdO_tmp, rdO_const, rdO_global, rdO_func, rdL_nil, rdL_cons, rdT_av, rdT_cst, rdT_pel, rdT_tup, rdT_junk, rdT_loc, rdJ, ordB, St.app, Op.operands, Call.operands, Region.binds, vcG_eq, iteP, wkOf, isCallV, vcOp, putK_eq, pureV, ev, co, coC, asI, asB, asS, isNil, nkOf, derefV, fieldAddrV, indexAddrV, indexV, lowV, boundsV, sliceV, pickV_eq, unV, convV, convB, bytesOf, capOf, lenV, minV, withSrc, slice3V, lookupV, mapOf, mfind, mput, scalT, mapUpdV, makeSliceV, appendM, appendN, growM, growOK, zM, binI, isConst, binV, St.put, upd, KSeq_n, KSeq_x, KSeq_g, KSeq_r, KBlock_n, KBlock_x, KBlock_g, KBlock_r, KScope_n, KScope_x, KScope_r, KRet_n, KRet_r, resL, retTV, TV.er, AV.er, AV.ers, AV.erk, AV.erks, Tok.k, Heap.er_nil, Heap.er_cons, Heap.er_app, HObj.er_var, HObj.er_map, Heap.keys_nil, Heap.keys_cons, Heap.keys_app, hget, hset, subT, getP, setP_nil, setP_one, setP_two, setPo_some, storeV, buildV, buildL, partsOf, capTV, argOK, entry, St.of, lk_nil, lk_cons, leLoc]
  refine AT.loop' (α := Nat) (fun k => St.of [(0, .av (.slice 37) (.sl .no xs)), (1, .av .func (.fn f caps)), (7, .av (.int .i64) (.i .i64 xs.length)), (8, .av (.int .i64) (.i .i64 k))] [] (fun _ => 0) H)
    (fun k => k ≤ xs.length ∧ ∀ x ∈ xs.take k, p x = false) (fun k => xs.length - k) 0 ?_ ?_ ?_
  · refine Le.of ?_ ?_ ?_ ?_ ?_ <;> simp [vc_skip, vc_label, vc_region, vc_drawn, vc_seq, vc_cond, vc_block, vc_exit, vc_goto, vc_ret, vc_loop, vc_scope, vcOps_nil, vcOps_cons, vcPs_nil, vcPs_cons, vcDs_nil, vcDs_cons, vcD, impB, mkd, wkOf, isCallV, rdOK_eq, rdO_nil, rdO_tmp, rdO_const, rdO_global, rdO_func, rdL_nil, rdL_cons, rdT_av, rdT_cst, rdT_pel, rdT_tup, rdT_junk, rdT_loc, rdJ, ordB, St.app, Op.operands, Call.operands, Region.binds, vcG_eq, iteP, wkOf, isCallV, vcOp, putK_eq, pureV, ev, co, coC, asI, asB, asS, isNil, nkOf, derefV, fieldAddrV, indexAddrV, indexV, lowV, boundsV, sliceV, pickV_eq, unV, convV, convB, bytesOf, capOf, lenV, minV, withSrc, slice3V, lookupV, mapOf, mfind, mput, scalT, mapUpdV, makeSliceV, appendM, appendN, growM, growOK, zM, binI, isConst, binV, St.put, upd, KSeq_n, KSeq_x, KSeq_g, KSeq_r, KBlock_n, KBlock_x, KBlock_g, KBlock_r, KScope_n, KScope_x, KScope_r, KRet_n, KRet_r, resL, retTV, TV.er, AV.er, AV.ers, AV.erk, AV.erks, Tok.k, Heap.er_nil, Heap.er_cons, Heap.er_app, HObj.er_var, HObj.er_map, Heap.keys_nil, Heap.keys_cons, Heap.keys_app, hget, hset, subT, getP, setP_nil, setP_one, setP_two, setPo_some, storeV, buildV, buildL, partsOf, capTV, argOK, entry, St.of, lk_nil, lk_cons, leLoc, leTV, leAV, locsIn]
  · simp
  · rintro k ⟨hk, hpk⟩ KL hN hE
    refine vc_sound (cf := cf0) laid mixed _ _ _ (by kernel_rfl) ?_
    simp [vc_skip, vc_label, vc_region, vc_drawn, vc_seq, vc_cond, vc_block, vc_exit, vc_goto, vc_ret, vc_loop, vc_scope, vcOps_nil, vcOps_cons, vcPs_nil, vcPs_cons, vcDs_nil, vcDs_cons, vcD, impB, mkd, wkOf, isCallV, rdOK_eq, rdO_nil, rdO_tmp, rdO_const, rdO_global, rdO_func, rdL_nil, rdL_cons, rdT_av, rdT_cst, rdT_pel, rdT_tup, rdT_junk, rdT_loc, rdJ, ordB, St.app, Op.operands, Call.operands, Region.binds, vcG_eq, iteP, wkOf, isCallV, vcOp, putK_eq, pureV, ev, co, coC, asI, asB, asS, isNil, nkOf, derefV, fieldAddrV, indexAddrV, indexV, lowV, boundsV, sliceV, pickV_eq, unV, convV, convB, bytesOf, capOf, lenV, minV, withSrc, slice3V, lookupV, mapOf, mfind, mput, scalT, mapUpdV, makeSliceV, appendM, appendN, growM, growOK, zM, binI, isConst, binV, St.put, upd, KSeq_n, KSeq_x, KSeq_g, KSeq_r, KBlock_n, KBlock_x, KBlock_g, KBlock_r, KScope_n, KScope_x, KScope_r, KRet_n, KRet_r, resL, retTV, TV.er, AV.er, AV.ers, AV.erk, AV.erks, Tok.k, Heap.er_nil, Heap.er_cons, Heap.er_app, HObj.er_var, HObj.er_map, Heap.keys_nil, Heap.keys_cons, Heap.keys_app, hget, hset, subT, getP, setP_nil, setP_one, setP_two, setPo_some, storeV, buildV, buildL, partsOf, capTV, argOK, entry, St.of, lk_nil, lk_cons, leLoc]
    refine ⟨fun hlt => ⟨hlt, callV_all (R := fun r H' => r = .av .bool (.b (p xs[k])) ∧ H' = H) hc (by simp [argOK]) hf ?_ ?_⟩, fun hge => ?_⟩
    · have := hp xs[k] (List.getElem_mem hlt)
      simpa [hlt, hH] using this
    · rintro r H' ⟨rfl, rfl⟩
      simp [vc_skip, vc_label, vc_region, vc_drawn, vc_seq, vc_cond, vc_block, vc_exit, vc_goto, vc_ret, vc_loop, vc_scope, vcOps_nil, vcOps_cons, vcPs_nil, vcPs_cons, vcDs_nil, vcDs_cons, vcD, impB, mkd, wkOf, isCallV, rdOK_eq, rdO_nil, rdO_tmp, rdO_const, rdO_global, rdO_func, rdL_nil, rdL_cons, rdT_av, rdT_cst, rdT_pel, rdT_tup, rdT_junk, rdT_loc, rdJ, ordB, St.app, Op.operands, Call.operands, Region.binds, vcG_eq, iteP, wkOf, isCallV, vcOp, putK_eq, pureV, ev, co, coC, asI, asB, asS, isNil, nkOf, derefV, fieldAddrV, indexAddrV, indexV, lowV, boundsV, sliceV, pickV_eq, unV, convV, convB, bytesOf, capOf, lenV, minV, withSrc, slice3V, lookupV, mapOf, mfind, mput, scalT, mapUpdV, makeSliceV, appendM, appendN, growM, growOK, zM, binI, isConst, binV, St.put, upd, KSeq_n, KSeq_x, KSeq_g, KSeq_r, KBlock_n, KBlock_x, KBlock_g, KBlock_r, KScope_n, KScope_x, KScope_r, KRet_n, KRet_r, resL, retTV, TV.er, AV.er, AV.ers, AV.erk, AV.erks, Tok.k, Heap.er_nil, Heap.er_cons, Heap.er_app, HObj.er_var, HObj.er_map, Heap.keys_nil, Heap.keys_cons, Heap.keys_app, hget, hset, subT, getP, setP_nil, setP_one, setP_two, setPo_some, storeV, buildV, buildL, partsOf, capTV, argOK, entry, St.of, lk_nil, lk_cons, leLoc]
      refine ⟨fun hp1 => hE _ _ (by simp) ?_, fun hp0 => hN _ (k+1) ?_ ⟨hlt, ?_⟩ (by omega)⟩
      · simp [vc_skip, vc_label, vc_region, vc_drawn, vc_seq, vc_cond, vc_block, vc_exit, vc_goto, vc_ret, vc_loop, vc_scope, vcOps_nil, vcOps_cons, vcPs_nil, vcPs_cons, vcDs_nil, vcDs_cons, vcD, impB, mkd, wkOf, isCallV, rdOK_eq, rdO_nil, rdO_tmp, rdO_const, rdO_global, rdO_func, rdL_nil, rdL_cons, rdT_av, rdT_cst, rdT_pel, rdT_tup, rdT_junk, rdT_loc, rdJ, ordB, St.app, Op.operands, Call.operands, Region.binds, vcG_eq, iteP, wkOf, isCallV, vcOp, putK_eq, pureV, ev, co, coC, asI, asB, asS, isNil, nkOf, derefV, fieldAddrV, indexAddrV, indexV, lowV, boundsV, sliceV, pickV_eq, unV, convV, convB, bytesOf, capOf, lenV, minV, withSrc, slice3V, lookupV, mapOf, mfind, mput, scalT, mapUpdV, makeSliceV, appendM, appendN, growM, growOK, zM, binI, isConst, binV, St.put, upd, KSeq_n, KSeq_x, KSeq_g, KSeq_r, KBlock_n, KBlock_x, KBlock_g, KBlock_r, KScope_n, KScope_x, KScope_r, KRet_n, KRet_r, resL, retTV, TV.er, AV.er, AV.ers, AV.erk, AV.erks, Tok.k, Heap.er_nil, Heap.er_cons, Heap.er_app, HObj.er_var, HObj.er_map, Heap.keys_nil, Heap.keys_cons, Heap.keys_app, hget, hset, subT, getP, setP_nil, setP_one, setP_two, setPo_some, storeV, buildV, buildL, partsOf, capTV, argOK, entry, St.of, lk_nil, lk_cons, leLoc, Try.f21]
        exact ⟨(idxOf_hit hlt hpk hp1).symm, hH'⟩
      · rw [i64_in (by omega) (by omega)]
        refine Le.of ?_ ?_ ?_ ?_ ?_ <;> simp [vc_skip, vc_label, vc_region, vc_drawn, vc_seq, vc_cond, vc_block, vc_exit, vc_goto, vc_ret, vc_loop, vc_scope, vcOps_nil, vcOps_cons, vcPs_nil, vcPs_cons, vcDs_nil, vcDs_cons, vcD, impB, mkd, wkOf, isCallV, rdOK_eq, rdO_nil, rdO_tmp, rdO_const, rdO_global, rdO_func, rdL_nil, rdL_cons, rdT_av, rdT_cst, rdT_pel, rdT_tup, rdT_junk, rdT_loc, rdJ, ordB, St.app, Op.operands, Call.operands, Region.binds, vcG_eq, iteP, wkOf, isCallV, vcOp, putK_eq, pureV, ev, co, coC, asI, asB, asS, isNil, nkOf, derefV, fieldAddrV, indexAddrV, indexV, lowV, boundsV, sliceV, pickV_eq, unV, convV, convB, bytesOf, capOf, lenV, minV, withSrc, slice3V, lookupV, mapOf, mfind, mput, scalT, mapUpdV, makeSliceV, appendM, appendN, growM, growOK, zM, binI, isConst, binV, St.put, upd, KSeq_n, KSeq_x, KSeq_g, KSeq_r, KBlock_n, KBlock_x, KBlock_g, KBlock_r, KScope_n, KScope_x, KScope_r, KRet_n, KRet_r, resL, retTV, TV.er, AV.er, AV.ers, AV.erk, AV.erks, Tok.k, Heap.er_nil, Heap.er_cons, Heap.er_app, HObj.er_var, HObj.er_map, Heap.keys_nil, Heap.keys_cons, Heap.keys_app, hget, hset, subT, getP, setP_nil, setP_one, setP_two, setPo_some, storeV, buildV, buildL, partsOf, capTV, argOK, entry, St.of, lk_nil, lk_cons, leLoc, leTV, leAV, locsIn]
      · rw [List.take_succ_eq_append_getElem hlt]
        intro x hx
        rcases List.mem_append.1 hx with h | h
        · exact hpk x h
        · simp at h; subst h; exact hp0
    · refine hE _ _ (by simp) ?_
      simp [vc_skip, vc_label, vc_region, vc_drawn, vc_seq, vc_cond, vc_block, vc_exit, vc_goto, vc_ret, vc_loop, vc_scope, vcOps_nil, vcOps_cons, vcPs_nil, vcPs_cons, vcDs_nil, vcDs_cons, vcD, impB, mkd, wkOf, isCallV, rdOK_eq, rdO_nil, rdO_tmp, rdO_const, rdO_global, rdO_func, rdL_nil, rdL_cons, rdT_av, rdT_cst, rdT_pel, rdT_tup, rdT_junk, rdT_loc, rdJ, ordB, St.app, Op.operands, Call.operands, Region.binds, vcG_eq, iteP, wkOf, isCallV, vcOp, putK_eq, pureV, ev, co, coC, asI, asB, asS, isNil, nkOf, derefV, fieldAddrV, indexAddrV, indexV, lowV, boundsV, sliceV, pickV_eq, unV, convV, convB, bytesOf, capOf, lenV, minV, withSrc, slice3V, lookupV, mapOf, mfind, mput, scalT, mapUpdV, makeSliceV, appendM, appendN, growM, growOK, zM, binI, isConst, binV, St.put, upd, KSeq_n, KSeq_x, KSeq_g, KSeq_r, KBlock_n, KBlock_x, KBlock_g, KBlock_r, KScope_n, KScope_x, KScope_r, KRet_n, KRet_r, resL, retTV, TV.er, AV.er, AV.ers, AV.erk, AV.erks, Tok.k, Heap.er_nil, Heap.er_cons, Heap.er_app, HObj.er_var, HObj.er_map, Heap.keys_nil, Heap.keys_cons, Heap.keys_app, hget, hset, subT, getP, setP_nil, setP_one, setP_two, setPo_some, storeV, buildV, buildL, partsOf, capTV, argOK, entry, St.of, lk_nil, lk_cons, leLoc, Try.f21]
      exact ⟨(idxOf_miss (fun x hx => hpk x (by rwa [List.take_of_length_le hge]))).symm, hH'⟩
end Go.Proofs.Ytaddpgjanbjcaaa
