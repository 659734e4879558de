/- What Cone's own function does: one more in the set, and behind the queue. No condition beyond each theorem's own. -/
import Derived.Test.YtaddpgjanbjcaaaT19
set_option linter.unusedSimpArgs false
set_option linter.unusedVariables false
set_option linter.unusedSectionVars false
set_option maxRecDepth 100000
/-! What Cone's own function does: one more in the set, and behind the queue. -/
namespace Go.Proofs.Ytaddpgjanbjcaaa
open Go Go.Ab
open Classical

@[simp] theorem fnok6 : fnOK Try.prog 6 = true := by kernel_rfl
@[simp] theorem fnok7 : fnOK Try.prog 7 = true := by kernel_rfl

abbrev iv (n : Nat) : AV := .i .i64 n
/-- a slice of numbers that is to be grown, and what lies behind it -/
inductive QRep : AV → Heap → List Nat → Prop
  | nil : QRep .nsl [] []
  | row (b off cap m : Nat) (ys : List AV) (xs : List Nat) (h1 : ys.length = m) (h2 : off + cap ≤ m) (h3 : xs.length ≤ cap) (h4 : (ys.drop off).take xs.length = xs.map iv) (h5 : ∀ y ∈ ys, y.er = y) :
      QRep (.msl b 3 off xs.length cap) [(b, .var (.arr m 3) (.agg ys))] xs

noncomputable abbrev coneH (Hq : Heap) (qv : AV) (bq bs b : Nat) (set : List Bool) : Heap :=
  Hq ++ [(bq, .var (.slice 3) qv), (bs, .var (.slice 4) (.msl b 4 0 set.length set.length)), (b, .var (.arr set.length 4) (.agg (set.map .b)))]

theorem ers_id {l : List AV} (h : ∀ y ∈ l, y.er = y) : AV.ers l = l := by
  rw [AV.ers_eq]
  conv => rhs; rw [← List.map_id l]
  exact List.map_congr_left fun y hy => h y hy
@[simp] theorem ers_setb (set : List Bool) (i : Nat) : AV.ers ((set.map AV.b).set i (.b true)) = (set.map AV.b).set i (.b true) := by
  refine ers_id fun y hy => ?_
  rcases List.mem_or_eq_of_mem_set hy with h | h
  · obtain ⟨b, _, rfl⟩ := List.mem_map.1 h; rfl
  · subst h; rfl
@[simp] theorem ers_rep (n : Nat) (k : Int) : AV.ers (List.replicate n (.i .i64 k)) = List.replicate n (.i .i64 k) := ers_id fun y hy => by obtain ⟨_, rfl⟩ := List.mem_replicate.1 hy; rfl
set_option maxHeartbeats 4000000 in
theorem f27_ok (i : Nat) (set : List Bool) (hi : i < set.length) (xs : List Nat) (hx : xs.length ≤ 1000) (qv : AV) (Hq : Heap) (hq : QRep qv Hq xs) (bq bs b : Nat) :
    ACalls Try.prog 27 [.av (.int .i64) (.i .i64 i), .av .ptr (.ptr bs (tyOf Try.prog 48) []), .av .ptr (.ptr bq (tyOf Try.prog 71) [])] (coneH Hq qv bq bs b set)
      fun r H' => r = .tup [] ∧ ∃ qv' Hq', QRep qv' Hq' (xs ++ [i]) ∧ H' = coneH Hq' qv' bq bs b (set.set i true) := by
  refine ACalls.sub (R := fun r H' => r = .tup [] ∧ ∃ qv' Hq', QRep qv' Hq' (xs ++ [i]) ∧ HSub (coneH Hq' qv' bq bs b (set.set i true)) H') ?_ ?_
  · refine ACalls.nodup fun hnd => ?_
    cases hq with
    | nil =>
      simp [coneH, Heap.keys] at hnd
      obtain ⟨⟨n1, n2⟩, n3⟩ := hnd
      refine ACalls.of_vc laid mixed Try.func27 rfl (by kernel_rfl) cf0 (by simp [Try.ntmps27]) fun imm0 w0 => ?_
      simp [vc_skip, vc_label, vc_region, vc_drawn, vc_seq, vc_cond, vc_block, vc_exit, vc_goto, vc_ret, vc_loop, vc_scope, vcOps_nil, vcOps_cons, vcPs_nil, vcPs_cons, vcDs_nil, vcDs_cons, vcD, wkOf, isCallV, rdOK, rdJ, ordB, St.app, Oper.looksAt, Op.operands, Call.operands, Region.binds, vcG_eq, iteP, wkOf, isCallV, vcOp, putK_eq, pureV, ev, co, coC, asI, asB, asS, isNil, nkOf, derefV, fieldAddrV, indexAddrV, indexV, lowV, boundsV, sliceV, pickV_eq, unV, convV, capOf, lenV, minV, withSrc, slice3V, lookupV, mapOf, mfind, mput, scalT, mapUpdV, makeSliceV, appendM, appendN, growM, growOK, zM, binI, isConst, binV, St.put, upd, KSeq_n, KSeq_x, KSeq_g, KSeq_r, KBlock_n, KBlock_x, KBlock_g, KBlock_r, KScope_n, KScope_x, KScope_r, KRet_n, KRet_r, resL, retTV, TV.er, AV.er, AV.ers, Heap.er_nil, Heap.er_cons, Heap.er_app, HObj.er_var, HObj.er_map, Heap.keys_nil, Heap.keys_cons, Heap.keys_app, hget, hset, subT, getP, setP, storeV, buildV, buildL, partsOf, capTV, argOK, entry, St.of, lk, coneH, n1, n2, n3, Ne.symm n1, Ne.symm n2, Ne.symm n3, hi, Try.f27]
      intro b' cap n4 n5 n6 hc
      simp [vc_skip, vc_label, vc_region, vc_drawn, vc_seq, vc_cond, vc_block, vc_exit, vc_goto, vc_ret, vc_loop, vc_scope, vcOps_nil, vcOps_cons, vcPs_nil, vcPs_cons, vcDs_nil, vcDs_cons, vcD, wkOf, isCallV, rdOK, rdJ, ordB, St.app, Oper.looksAt, Op.operands, Call.operands, Region.binds, vcG_eq, iteP, wkOf, isCallV, vcOp, putK_eq, pureV, ev, co, coC, asI, asB, asS, isNil, nkOf, derefV, fieldAddrV, indexAddrV, indexV, lowV, boundsV, sliceV, pickV_eq, unV, convV, capOf, lenV, minV, withSrc, slice3V, lookupV, mapOf, mfind, mput, scalT, mapUpdV, makeSliceV, appendM, appendN, growM, growOK, zM, binI, isConst, binV, St.put, upd, KSeq_n, KSeq_x, KSeq_g, KSeq_r, KBlock_n, KBlock_x, KBlock_g, KBlock_r, KScope_n, KScope_x, KScope_r, KRet_n, KRet_r, resL, retTV, TV.er, AV.er, AV.ers, Heap.er_nil, Heap.er_cons, Heap.er_app, HObj.er_var, HObj.er_map, Heap.keys_nil, Heap.keys_cons, Heap.keys_app, hget, hset, subT, getP, setP, storeV, buildV, buildL, partsOf, capTV, argOK, entry, St.of, lk, n4, n5, n6, Ne.symm n4, Ne.symm n5, Ne.symm n6]
      refine ⟨_, _, QRep.row b' 0 cap cap (iv i :: List.replicate (cap - 1) (iv 0)) [i] (by simp; omega) (by omega) (by simpa using hc) (by simp) (by simp [AV.er]), ?_⟩
      refine HSub.of_sub ?_
      simp [coneH]
      exact List.Sublist.refl _
    | row qb off cap m ys _ h1 h2 h3 h4 h5 =>
      simp [coneH, Heap.keys] at hnd
      obtain ⟨⟨m1, m2, m3⟩, ⟨n1, n2⟩, n3⟩ := hnd
      refine ACalls.of_vc laid mixed Try.func27 rfl (by kernel_rfl) cf0 (by simp [Try.ntmps27]) fun imm0 w0 => ?_
      have he : AV.ers ys = ys := ers_id h5
      have hsb : (set.set i true).map AV.b = (set.map AV.b).set i (.b true) := by simp
      simp [vc_skip, vc_label, vc_region, vc_drawn, vc_seq, vc_cond, vc_block, vc_exit, vc_goto, vc_ret, vc_loop, vc_scope, vcOps_nil, vcOps_cons, vcPs_nil, vcPs_cons, vcDs_nil, vcDs_cons, vcD, wkOf, isCallV, rdOK, rdJ, ordB, St.app, Oper.looksAt, Op.operands, Call.operands, Region.binds, vcG_eq, iteP, wkOf, isCallV, vcOp, putK_eq, pureV, ev, co, coC, asI, asB, asS, isNil, nkOf, derefV, fieldAddrV, indexAddrV, indexV, lowV, boundsV, sliceV, pickV_eq, unV, convV, capOf, lenV, minV, withSrc, slice3V, lookupV, mapOf, mfind, mput, scalT, mapUpdV, makeSliceV, appendM, appendN, growM, growOK, zM, binI, isConst, binV, St.put, upd, KSeq_n, KSeq_x, KSeq_g, KSeq_r, KBlock_n, KBlock_x, KBlock_g, KBlock_r, KScope_n, KScope_x, KScope_r, KRet_n, KRet_r, resL, retTV, TV.er, AV.er, AV.ers, Heap.er_nil, Heap.er_cons, Heap.er_app, HObj.er_var, HObj.er_map, Heap.keys_nil, Heap.keys_cons, Heap.keys_app, hget, hset, subT, getP, setP, storeV, buildV, buildL, partsOf, capTV, argOK, entry, St.of, lk, coneH, n1, n2, n3, Ne.symm n1, Ne.symm n2, Ne.symm n3, m1, m2, m3, Ne.symm m1, Ne.symm m2, Ne.symm m3, hi, Try.f27, h2, h3, h4, he]
      refine ⟨by omega, fun hroom => ?_, fun hgrow b' cap' m4 n4 n5 n6 hc => ?_⟩
      · have hq := QRep.row qb off cap m (ys.take (off + xs.length) ++ [iv i] ++ ys.drop (off + xs.length + 1)) (xs ++ [i]) (by simp; omega) h2 (by simpa using hroom) ?_ ?_
        · refine ⟨_, _, hq, HSub.of_sub ?_⟩
          rw [ers_id]
          · simp
          · intro y hy
            simp only [List.mem_append, List.mem_cons] at hy
            rcases hy with hy | rfl | hy
            · exact h5 y (List.mem_of_mem_take hy)
            · rfl
            · exact h5 y (List.mem_of_mem_drop hy)
        · have e1 : (ys.take (off + xs.length) ++ [iv i] ++ ys.drop (off + xs.length + 1)).drop off = (ys.drop off).take xs.length ++ ([iv i] ++ ys.drop (off + xs.length + 1)) := by
            rw [List.append_assoc, List.drop_append_of_le_length (by simp; omega), List.drop_take, show off + xs.length - off = xs.length by omega]
          rw [e1, h4, ← List.append_assoc, List.take_left' (by simp)]
          simp
        · intro y hy
          simp only [List.mem_append, List.mem_singleton] at hy
          rcases hy with (hy | rfl) | hy
          · exact h5 y (List.mem_of_mem_take hy)
          · rfl
          · exact h5 y (List.mem_of_mem_drop hy)
      · simp [vc_skip, vc_label, vc_region, vc_drawn, vc_seq, vc_cond, vc_block, vc_exit, vc_goto, vc_ret, vc_loop, vc_scope, vcOps_nil, vcOps_cons, vcPs_nil, vcPs_cons, vcDs_nil, vcDs_cons, vcD, wkOf, isCallV, rdOK, rdJ, ordB, St.app, Oper.looksAt, Op.operands, Call.operands, Region.binds, vcG_eq, iteP, wkOf, isCallV, vcOp, putK_eq, pureV, ev, co, coC, asI, asB, asS, isNil, nkOf, derefV, fieldAddrV, indexAddrV, indexV, lowV, boundsV, sliceV, pickV_eq, unV, convV, capOf, lenV, minV, withSrc, slice3V, lookupV, mapOf, mfind, mput, scalT, mapUpdV, makeSliceV, appendM, appendN, growM, growOK, zM, binI, isConst, binV, St.put, upd, KSeq_n, KSeq_x, KSeq_g, KSeq_r, KBlock_n, KBlock_x, KBlock_g, KBlock_r, KScope_n, KScope_x, KScope_r, KRet_n, KRet_r, resL, retTV, TV.er, AV.er, AV.ers, Heap.er_nil, Heap.er_cons, Heap.er_app, HObj.er_var, HObj.er_map, Heap.keys_nil, Heap.keys_cons, Heap.keys_app, hget, hset, subT, getP, setP, storeV, buildV, buildL, partsOf, capTV, argOK, entry, St.of, lk, m4, n4, n5, n6, Ne.symm m4, Ne.symm n4, Ne.symm n5, Ne.symm n6]
        have hq := QRep.row b' 0 cap' cap' (xs.map iv ++ [iv i] ++ List.replicate (cap' - (xs.length + 1)) (iv 0)) (xs ++ [i]) (by simp; omega) (by omega) (by simpa using hc) ?_ ?_
        · refine ⟨_, _, hq, HSub.of_sub ?_⟩
          rw [ers_id (l := List.map iv xs ++ _)]
          · rw [he]; simp
            exact List.Sublist.cons_cons _ (List.Sublist.cons _ (List.Sublist.refl _))
          · intro y hy
            simp only [List.mem_append, List.mem_cons, List.mem_map, List.mem_replicate] at hy
            rcases hy with ⟨_, _, rfl⟩ | rfl | ⟨_, rfl⟩ <;> rfl
        · rw [List.drop_zero, List.take_left' (by simp)]; simp
        · intro y hy
          simp only [List.mem_append, List.mem_singleton, List.mem_map, List.mem_replicate] at hy
          rcases hy with (⟨_, _, rfl⟩ | rfl) | ⟨_, rfl⟩ <;> rfl
  · rintro r H' ⟨rfl, qv', Hq', h1, h2⟩ _
    exact ⟨_, h2, rfl, qv', Hq', h1, rfl⟩
end Go.Proofs.Ytaddpgjanbjcaaa
