/- Into a row of traces, in front. No condition beyond each theorem's own. -/
import Derived.Test.YthdgnfnalimcnaaGreatDoorD2
set_option linter.unusedSimpArgs false
set_option linter.unusedVariables false
set_option linter.unusedSectionVars false
set_option maxRecDepth 100000
/-! Into a row of traces, in front. -/
namespace Go.Proofs.YthdgnfnalimcnaaGreatDoor
open Go Go.Ab
open Classical
variable [Sel]
attribute [local simp] vc_skip hiLen zN capV cpyD appendZ clearV delV mdel copyVT extV ovV vc_label vc_region vc_drawn vc_seq vc_cond vc_block vc_exit vc_goto vc_ret vc_loop vc_scope vcOps_nil vcOps_cons vcPs_nil vcPs_cons vcDs_nil vcDs_cons vcD impB mkd wkOf isCallV rdOK_eq rdO_nil rdO_tmp rdO_const rdO_global rdO_func rdL_nil rdL_cons rdT_av rdT_cst rdT_pel rdT_tup rdT_junk rdT_loc St.app Op.operands Call.operands vcG_eq iteP wkOf isCallV vcOp putK_eq pureV ev co coC asI asB asS isNil nkOf derefV fieldAddrV indexAddrV indexV lowV boundsV sliceV pickV_eq unV convV convB bytesOf capOf lenV minV withSrc slice3V lookupV mapOf mfind mput scalT mapUpdV makeSliceV appendM appendN growM growOK zM binI isConst binV St.put upd KSeq_n KSeq_x KSeq_g KSeq_r KBlock_n KBlock_x KBlock_g KBlock_r KScope_n KScope_x KScope_r KRet_n KRet_r resL retTV TV.er AV.er AV.ers AV.erk AV.erks Tok.k Heap.er_nil Heap.er_cons Heap.er_app HObj.er_var HObj.er_map Heap.keys_nil Heap.keys_cons Heap.keys_app hget hset subT getP setP_nil setP_one setP_two setPo_some storeV buildV buildL partsOf capTV argOK entry St.of lk_nil lk_cons leLoc siterOf_siter gB_undef gB_av gB_cst undef isNE_tmp isSlT nslD nslDs mslOf mstrV copyV copyK unsV ustrV hdel dataV sameP mtbD isSlN slNilV vcDo_nil vcDo_cons isLt sft sftD softV rangeMV entryMV cmpV

theorem delNil_ok (t : Trace) (bt : Nat) :
    ACalls Tryz.prog 28 [.av (.slice 34) .nsl, .av .func (capF bt)] [(bt, tvO t)]
      fun r H' => r = .av (.slice 34) .nsl ∧ H' = [(bt, tvO t)] := by
  refine ACalls.of_vc laid mixed Tryz.func28 rfl (by kernel_rfl) cf0 (by simp [Tryz.ntmps28]) fun imm0 w0 => ?_
  (simp (maxSteps := 2000000) (disch := first | omega | assumption) [i64_in, tnS, Int.toNat_add, Int.toNat_mul, List.getElem?_cons_zero, List.getElem_cons_zero])
  refine callV_all (R := fun r' H' => r' = .av (.int .i64) (.i .i64 (-1)) ∧ H' = [(bt, tvO t)]) rfl (by simp [argOK]) (by simp) ?_ ?_
  · have := idxNil_ok t bt
    simpa [TV.er, AV.er, tvO, capF] using this
  rintro r' H' ⟨rfl, rfl⟩
  (simp (maxSteps := 2000000) (disch := first | omega | assumption) [i64_in, tnS, Int.toNat_add, Int.toNat_mul, List.getElem?_cons_zero, List.getElem_cons_zero, Tryz.f28, tvO])
noncomputable def oneO (x : Trace) : HObj := .var (.arr 1 34) (.agg [encTrace x])
/-- what a row in front of which one was put is -/
def InsR (x : Trace) (ts : List Trace) (r : TV) (H' : Heap) : Prop := ∃ b' cap' j', JK j' ∧ (ts.length + 1) + j'.length = cap' ∧ r = .av (.slice 34) (.msl b' 34 0 (ts.length + 1) cap') ∧ H' = [(b', rowO cap' (x :: ts) j')]
def InsQ (x : Trace) (ts : List Trace) (r : TV) (H' : Heap) : Prop := ∃ b' cap' j', JK j' ∧ (ts.length + 1) + j'.length = cap' ∧ r = .av (.slice 34) (.msl b' 34 0 (ts.length + 1) cap') ∧ HSub [(b', rowO cap' (x :: ts) j')] H'
theorem InsQ.to {f : FuncId} {args : List TV} {H : Heap} {x : Trace} {ts : List Trace} (h : ACalls Tryz.prog f args H (InsQ x ts)) : ACalls Tryz.prog f args H (InsR x ts) :=
  h.sub fun r H' ⟨b', cap', j', h1, h2, h3, h4⟩ _ => ⟨_, h4, b', cap', j', h1, h2, h3, rfl⟩
abbrev cfIns : Cfg := ⟨fun _ => false, fun n => n == 4000077⟩
@[simp] theorem isneOv : isNE Tryz.prog (.func 59) = true := by kernel_rfl
@[simp] theorem iscmpOv : isCmp Tryz.prog (.func 59) = false := by kernel_rfl
theorem ovOKt : ovOK Tryz.prog 34 (.func 59) := ⟨_, 22, 22, Tryz.func59, by kernel_rfl, by kernel_rfl, by kernel_rfl, by kernel_rfl, by simp⟩
set_option maxHeartbeats 4000000 in
theorem insNil_ok (x : Trace) (bv : Nat) :
    ACalls Tryz.prog 31 [.av (.slice 34) .nsl, .av (.int .i64) (.i .i64 0), .av (.slice 34) (.msl bv 34 0 1 1)] [(bv, oneO x)] (InsR x []) := by
  refine InsQ.to ?_
  refine ACalls.of_vc laid mixed Tryz.func31 rfl (by kernel_rfl) cfIns (by simp [Tryz.ntmps31]) fun imm0 w0 => ?_
  (simp (maxSteps := 2000000) (disch := first | omega | assumption) [i64_in, tnS, Int.toNat_add, Int.toNat_mul, List.getElem?_cons_zero, List.getElem_cons_zero, -List.reduceReplicate, oneO])
  intro b' cap' hb' hc
  have hz := JK.zeros (cap' - 1)
  unfold JK tr0A at hz
  (simp (maxSteps := 2000000) (disch := first | omega | assumption) [i64_in, tnS, Int.toNat_add, Int.toNat_mul, List.getElem?_cons_zero, List.getElem_cons_zero, -List.reduceReplicate, Tryz.f31, InsQ, hz])
  exact ⟨b', cap', List.replicate (cap' - 1) tr0A, JK.zeros _, by simp; omega, ⟨rfl, rfl⟩, HSub.of_sub (by simp [rowO, trs, tr0A, -List.reduceReplicate])⟩
set_option maxHeartbeats 8000000 in
theorem insTr_ok (x : Trace) (ts : List Trace) (b bv cap : Nat) (j : List AV) (hj : JK j) (hb : b ≠ bv) (hcap : ts.length + j.length = cap) (hn : ts.length ≤ 1000) :
    ACalls Tryz.prog 31 [.av (.slice 34) (.msl b 34 0 ts.length cap), .av (.int .i64) (.i .i64 0), .av (.slice 34) (.msl bv 34 0 1 1)] [(b, rowO cap ts j), (bv, oneO x)] (InsR x ts) := by
  have hb' : ¬ bv = b := fun e => hb e.symm
  refine InsQ.to ?_
  refine ACalls.of_vc laid mixed Tryz.func31 rfl (by kernel_rfl) cfIns (by simp [Tryz.ntmps31]) fun imm0 w0 => ?_
  rcases Nat.eq_zero_or_pos ts.length with h0 | h0
  · have : ts = [] := List.eq_nil_of_length_eq_zero h0
    subst this
    have hjl : j.length = cap := by simpa using hcap
    (simp (maxSteps := 2000000) (disch := first | omega | assumption) [i64_in, tnS, Int.toNat_add, Int.toNat_mul, List.getElem?_cons_zero, List.getElem_cons_zero, -List.reduceReplicate, oneO, rowO, trs, hb, hb'])
    refine ⟨fun hc => ?_, fun hc b' cap' hn' hn2 hc' => ?_⟩
    · have hj1 := hj.drop 1
      unfold JK at hj1
      rw [List.drop_one] at hj1
      (simp (maxSteps := 2000000) (disch := first | omega | assumption) [i64_in, tnS, Int.toNat_add, Int.toNat_mul, List.getElem?_cons_zero, List.getElem_cons_zero, -List.reduceReplicate, Tryz.f31, InsQ, hj1])
      exact ⟨b, cap, j.drop 1, hj.drop 1, by simp; omega, ⟨rfl, rfl⟩, HSub.of_sub (by simp [rowO, trs])⟩
    · have hz := JK.zeros (cap' - 1)
      unfold JK tr0A at hz
      (simp (maxSteps := 2000000) (disch := first | omega | assumption) [i64_in, tnS, Int.toNat_add, Int.toNat_mul, List.getElem?_cons_zero, List.getElem_cons_zero, -List.reduceReplicate, Tryz.f31, InsQ, hz])
      exact ⟨b', cap', List.replicate (cap' - 1) tr0A, JK.zeros _, by simp; omega, ⟨rfl, rfl⟩, HSub.of_sub (by simp [rowO, trs, tr0A, -List.reduceReplicate])⟩
  have hne : ¬ (0 : Int) = ts.length := by omega
  by_cases hg : cap < ts.length + 1
  · have hg' : (cap : Int) < ts.length + 1 := by omega
    have htk : (trs ts ++ j).take ts.length = trs ts := by rw [List.take_append_of_le_length (by simp)]; exact List.take_of_length_le (by simp)
    (simp (maxSteps := 2000000) (disch := first | omega | assumption) [i64_in, tnS, Int.toNat_add, Int.toNat_mul, List.getElem?_cons_zero, List.getElem_cons_zero, -List.reduceReplicate, oneO, rowO, hne, hg, hg', hb, hb'])
    refine ⟨by omega, ⟨by omega, by omega⟩, fun b' cap' hn1 hn2 hc => ?_⟩
    have hc1 : ¬ cap' = 1 := by omega
    (simp (maxSteps := 2000000) (disch := first | omega | assumption) [i64_in, tnS, Int.toNat_add, Int.toNat_mul, List.getElem?_cons_zero, List.getElem_cons_zero, -List.reduceReplicate, hn1, hn2, hb, hb', hc, htk, hc1])
    (repeat ((with_reducible refine And.intro ?_ ?_); (· first | omega | (show barB _ _ = true; kernel_rfl) | (show rdJ _ _ _ _ _ = true; kernel_rfl) | (show tailB _ _ _ = true; kernel_rfl) | (show sftB _ _ _ = true; kernel_rfl))))
    (simp (maxSteps := 2000000) (disch := first | omega | assumption) [i64_in, tnS, Int.toNat_add, Int.toNat_mul, List.getElem?_cons_zero, List.getElem_cons_zero, -List.reduceReplicate, Tryz.f31, InsQ])
    have e1 : List.drop (1 + ts.length) (encTrace x :: List.replicate (cap' - 1) tr0A) = List.replicate (cap' - 1 - ts.length) tr0A := by
      rw [Nat.add_comm, List.drop_succ_cons, List.drop_replicate]
    have e2 := JK.zeros (cap' - 1 - ts.length)
    unfold JK at e2
    refine ⟨b', cap', List.replicate (cap' - 1 - ts.length) tr0A, JK.zeros _, by simp; omega, ⟨rfl, rfl⟩, HSub.of_sub ?_⟩
    show List.Sublist _ ((b', HObj.var (TyD.arr cap' 34) (AV.agg (encTrace x :: AV.erks (trs ts ++ List.drop (1 + ts.length) (encTrace x :: List.replicate (cap' - 1) tr0A))))) :: _)
    rw [e1, erks_app', erks_trs, e2]
    exact (List.nil_sublist _).cons_cons _
  · have hg' : ¬ (cap : Int) < ts.length + 1 := by omega
    have hc1 : ¬ cap = 1 := by omega
    have hc0 : 0 < cap := by omega
    have hmin : min (ts.length + 1) ts.length = ts.length := by omega
    have htk : (trs ts ++ j).take ts.length = trs ts := by rw [List.take_append_of_le_length (by simp)]; exact List.take_of_length_le (by simp)
    (simp (maxSteps := 2000000) (disch := first | omega | assumption) [i64_in, tnS, Int.toNat_add, Int.toNat_mul, List.getElem?_cons_zero, List.getElem_cons_zero, -List.reduceReplicate, oneO, rowO, hne, hg, hg', hb, hb', hc1, ovV, ovOKt, hc0, hmin, htk])
    (repeat ((with_reducible refine And.intro ?_ ?_); (· first | omega | (show barB _ _ = true; kernel_rfl) | (show rdJ _ _ _ _ _ = true; kernel_rfl) | (show tailB _ _ _ = true; kernel_rfl) | (show sftB _ _ _ = true; kernel_rfl))))
    (simp (maxSteps := 2000000) (disch := first | omega | assumption) [i64_in, tnS, Int.toNat_add, Int.toNat_mul, List.getElem?_cons_zero, List.getElem_cons_zero, -List.reduceReplicate, Tryz.f31, InsQ])
    have e1 : (List.take 1 (trs ts ++ j) ++ (trs ts ++ List.drop (1 + ts.length) (trs ts ++ j))).tail = trs ts ++ j.drop 1 := by
      cases ts with
      | nil => simp at h0
      | cons a r =>
        have e3 : List.drop (1 + (a :: r).length) (trs (a :: r) ++ j) = j.drop 1 := by
          rw [List.drop_append, List.drop_of_length_le (by simp)]
          simp [trs]
        rw [e3]
        rfl
    have e2 := hj.drop 1
    unfold JK at e2
    refine ⟨b, cap, j.drop 1, hj.drop 1, by simp; omega, ⟨rfl, rfl⟩, HSub.of_sub ?_⟩
    rw [e1, erks_app', erks_trs, e2]
    exact (List.nil_sublist _).cons_cons _
end Go.Proofs.YthdgnfnalimcnaaGreatDoor
