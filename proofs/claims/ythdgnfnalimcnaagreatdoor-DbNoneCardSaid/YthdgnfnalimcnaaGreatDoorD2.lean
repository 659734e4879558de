/- Out of a row of traces: those that are the same. No condition beyond each theorem's own. -/
import Derived.Test.YthdgnfnalimcnaaGreatDoorD1
set_option linter.unusedSimpArgs false
set_option linter.unusedVariables false
set_option linter.unusedSectionVars false
set_option maxRecDepth 100000
/-! Out of a row of traces: those that are the same. -/
namespace Go.Proofs.YthdgnfnalimcnaaGreatDoor
open Go Go.Ab
open Classical
variable [Sel]
attribute [local simp] vc_skip hiLen zN capV cpyD appendZ clearV delV mdel copyVT extV ovV vc_label vc_region vc_drawn vc_seq vc_cond vc_block vc_exit vc_goto vc_ret vc_loop vc_scope vcOps_nil vcOps_cons vcPs_nil vcPs_cons vcDs_nil vcDs_cons vcD impB mkd wkOf isCallV rdOK_eq rdO_nil rdO_tmp rdO_const rdO_global rdO_func rdL_nil rdL_cons rdT_av rdT_cst rdT_pel rdT_tup rdT_junk rdT_loc St.app Op.operands Call.operands vcG_eq iteP wkOf isCallV vcOp putK_eq pureV ev co coC asI asB asS isNil nkOf derefV fieldAddrV indexAddrV indexV lowV boundsV sliceV pickV_eq unV convV convB bytesOf capOf lenV minV withSrc slice3V lookupV mapOf mfind mput scalT mapUpdV makeSliceV appendM appendN growM growOK zM binI isConst binV St.put upd KSeq_n KSeq_x KSeq_g KSeq_r KBlock_n KBlock_x KBlock_g KBlock_r KScope_n KScope_x KScope_r KRet_n KRet_r resL retTV TV.er AV.er AV.ers AV.erk AV.erks Tok.k Heap.er_nil Heap.er_cons Heap.er_app HObj.er_var HObj.er_map Heap.keys_nil Heap.keys_cons Heap.keys_app hget hset subT getP setP_nil setP_one setP_two setPo_some storeV buildV buildL partsOf capTV argOK entry St.of lk_nil lk_cons leLoc siterOf_siter gB_undef gB_av gB_cst undef isNE_tmp isSlT nslD nslDs mslOf mstrV copyV copyK unsV ustrV hdel dataV sameP mtbD isSlN slNilV vcDo_nil vcDo_cons isLt sft sftD softV rangeMV entryMV cmpV

def kp (t : Trace) (ts : List Trace) : List Trace := ts.filter fun x => !sameV x t
theorem kp_len (t : Trace) (ts : List Trace) : (kp t ts).length ≤ ts.length := List.length_filter_le _ _
theorem idxOf_spec {α : Type} (p : α → Bool) (xs : List α) : (idxOf p xs = -1 ∧ ∀ x ∈ xs, p x = false) ∨ ∃ (i : Nat) (h : i < xs.length), idxOf p xs = i ∧ p xs[i] = true ∧ ∀ x ∈ xs.take i, p x = false := by
  unfold idxOf
  cases h : xs.findIdx? p with
  | none =>
    left; rw [List.findIdx?_eq_none_iff] at h
    exact ⟨rfl, h⟩
  | some i =>
    right
    rw [List.findIdx?_eq_some_iff_getElem] at h
    obtain ⟨hl, hp, hn⟩ := h
    refine ⟨i, hl, rfl, hp, fun x hx => ?_⟩
    obtain ⟨q, hq, rfl⟩ := List.mem_take_iff_getElem.1 hx
    simpa using hn q (by omega)
theorem kp_all {t : Trace} {ts : List Trace} (h : ∀ x ∈ ts, sameV x t = false) : kp t ts = ts := by
  unfold kp
  rw [List.filter_eq_self]
  intro x hx; simp [h x hx]
theorem kp_take_succ {t : Trace} {ts : List Trace} {k : Nat} (h : k < ts.length) : kp t (ts.take (k+1)) = if sameV ts[k] t = true then kp t (ts.take k) else kp t (ts.take k) ++ [ts[k]] := by
  unfold kp
  rw [List.take_succ_eq_append_getElem h, List.filter_append]
  by_cases hs : sameV ts[k] t = true <;> simp [hs]
theorem set_mid (A M : List AV) (m y : AV) : (A ++ (m :: M)).set A.length y = A ++ (y :: M) := by
  rw [List.set_append_right _ _ (Nat.le_refl _)]; simp
set_option maxHeartbeats 4000000 in
theorem delTr_ok (ts : List Trace) (t : Trace) (hts : ∀ x ∈ ts, TrOK x) (ht : TrOK t) (b bt cap : Nat) (j : List AV) (hj : JK j) (hb : b ≠ bt) (hcap : ts.length + j.length = cap) (hn : ts.length ≤ 1000) :
    ACalls Tryz.prog 28 [.av (.slice 34) (.msl b 34 0 ts.length cap), .av .func (capF bt)] [(b, rowO cap ts j), (bt, tvO t)]
      fun r H' => ∃ j', JK j' ∧ (kp t ts).length + j'.length = cap ∧ r = .av (.slice 34) (.msl b 34 0 (kp t ts).length cap) ∧ H' = [(b, rowO cap (kp t ts) j'), (bt, tvO t)] := by
  have hb' : ¬ bt = b := fun e => hb e.symm
  refine ACalls.of_vc laid mixed Tryz.func28 rfl (by kernel_rfl) cf0 (by simp [Tryz.ntmps28]) fun imm0 w0 => ?_
  (simp (maxSteps := 2000000) (disch := first | omega | assumption) [i64_in, tnS, Int.toNat_add, Int.toNat_mul, List.getElem?_cons_zero, List.getElem_cons_zero])
  refine callV_all (R := fun r' H' => r' = .av (.int .i64) (.i .i64 (idxOf (fun x => sameV x t) ts)) ∧ H' = [(b, rowO cap ts j), (bt, tvO t)]) rfl (by simp [argOK]) (by simp) ?_ ?_
  · have := idxTr_ok ts t hts ht b bt cap j hj hb hcap hn
    simpa [TV.er, AV.er, tvO, capF, rowO_er hj] using this
  rintro r' H' ⟨rfl, rfl⟩
  rcases idxOf_spec (fun x => sameV x t) ts with ⟨he, hall⟩ | ⟨i, hi, he, hsame, hpre⟩
  · (simp (maxSteps := 2000000) (disch := first | omega | assumption) [i64_in, tnS, Int.toNat_add, Int.toNat_mul, List.getElem?_cons_zero, List.getElem_cons_zero, he, Tryz.f28, rowO_er hj, tvO, kp_all hall])
    exact ⟨j, hj, hcap, rfl⟩
  · have hk0 : kp t (ts.take i) = ts.take i := kp_all hpre
    have hk1 : kp t (ts.take (i+1)) = ts.take i := by rw [kp_take_succ hi, if_pos hsame, hk0]
    have hne : ¬ (i : Int) = -1 := by omega
    have hsplit : trs ts ++ j = trs (ts.take i) ++ (encTrace ts[i] :: ([] ++ (trs (ts.drop (i+1)) ++ j))) := by
      have : ts = ts.take i ++ ts[i] :: ts.drop (i+1) := by simp
      conv => lhs; rw [this]
      simp only [trs, List.map_append, List.map_cons, List.nil_append, List.append_assoc, List.cons_append]
    (simp (maxSteps := 2000000) (disch := first | omega | assumption) [i64_in, tnS, Int.toNat_add, Int.toNat_mul, List.getElem?_cons_zero, List.getElem_cons_zero, he, hne])
    refine AT.loop' (α := Nat × AV × List AV) (fun p => St.of [(0, .av (.slice 34) (.msl b 34 0 ts.length cap)), (1, .av .func (capF bt)), (5, .av (.int .i64) (.i .i64 (kp t (ts.take p.1)).length)), (6, .av (.int .i64) (.i .i64 p.1))] [] (fun _ => 0)
        [(b, .var (.arr cap 34) (.agg (trs (kp t (ts.take p.1)) ++ (p.2.1 :: (p.2.2 ++ (trs (ts.drop p.1) ++ j)))))), (bt, tvO t)])
      (fun p => p.1 ≤ ts.length ∧ JK (p.2.1 :: p.2.2) ∧ (kp t (ts.take p.1)).length + (p.2.2.length + 1) = p.1) (fun p => ts.length - p.1) (i+1, encTrace ts[i], []) ?_ ?_ ?_
    · have hli : (ts.take i).length = i := by rw [List.length_take]; omega
      refine Le.of ?_ ?_ ?_ ?_ ?_ <;> simp [leTV, locsIn, encDigs, encTraces, encWant, encTrace, encReads, encRead, encMades, encMade, hk1, hsplit, rowO, hli] <;> try omega
    · refine ⟨by simp only; omega, by simp [JK, AV.erks_eq], ?_⟩
      simp only [hk1, List.length_take, List.length_nil]; omega
    rintro ⟨k, m, mid⟩ ⟨hk, hjm, hlen⟩ KL hN hE
    simp only at hk hjm hlen
    obtain ⟨F, hF⟩ : ∃ F, F = kp t (ts.take k) := ⟨_, rfl⟩
    rw [← hF] at hlen
    have hnx := fun h : k < ts.length => kp_take_succ (t := t) h
    simp only [← hF] at hnx ⊢
    refine vc_sound (cf := cf0) laid mixed _ _ _ (by kernel_rfl) ?_
    by_cases hlt : k < ts.length
    · have hlt' : (k : Int) < ts.length := by omega
      have hnx := hnx hlt
      have hd : trs (ts.drop k) = encTrace ts[k] :: trs (ts.drop (k+1)) := by
        rw [List.drop_eq_getElem_cons hlt]; rfl
      have hg : (trs F ++ (m :: (mid ++ (trs (ts.drop k) ++ j))))[k]? = some (encTrace ts[k]) := by
        rw [hd, List.getElem?_append_right (by simp; omega)]
        have : k - (trs F).length = mid.length + 1 := by simp; omega
        rw [this, List.getElem?_cons_succ, List.getElem?_append_right (Nat.le_refl _)]
        simp
      have hgi : (trs F ++ (m :: (mid ++ (trs (ts.drop k) ++ j))))[F.length]? = some m := by
        rw [List.getElem?_append_right (by simp)]; simp
      have hst := set_mid (trs F) (mid ++ (trs (ts.drop k) ++ j)) m (encTrace ts[k])
      rw [trs_length] at hst
      obtain ⟨x, hx⟩ : ∃ x, x = ts[k] := ⟨_, rfl⟩
      have hxo : TrOK x := by rw [hx]; exact hts _ (List.getElem_mem hlt)
      rw [← hx] at hg hst hd hnx
      (simp (maxSteps := 2000000) (disch := first | omega | assumption) [i64_in, tnS, Int.toNat_add, Int.toNat_mul, List.getElem?_cons_zero, List.getElem_cons_zero, hlt', hlt, hg])
      (repeat ((with_reducible refine And.intro ?_ ?_); (· first | omega | (show barB _ _ = true; kernel_rfl) | (show rdJ _ _ _ _ _ = true; kernel_rfl) | (show tailB _ _ _ = true; kernel_rfl) | (show sftB _ _ _ = true; kernel_rfl))))
      refine callV_sub (R := fun r' H' => r' = .av .bool (.b (sameV x t)) ∧ H' = [(bt, tvO t)]) [(bt, tvO t)] _ (List.Perm.swap _ _ _) rfl (by simp [argOK]) (by simp) ?_ ?_
      · have := add1_ok x t hxo ht bt
        simpa [TV.er, AV.er, tvO] using this
      rintro r' H' ⟨rfl, rfl⟩ _
      refine ⟨_, HSub.of_perm (List.Perm.swap _ _ _), ?_⟩
      by_cases hp : sameV x t = true
      · rw [if_pos hp] at hnx
        (simp (maxSteps := 2000000) (disch := first | omega | assumption) [i64_in, tnS, Int.toNat_add, Int.toNat_mul, List.getElem?_cons_zero, List.getElem_cons_zero, hp])
        refine hN _ (k+1, m, mid ++ [encTrace x]) ?_ ⟨by simp only; omega, ?_, ?_⟩ (by simp only; omega)
        · refine Le.of ?_ ?_ ?_ ?_ ?_ <;> simp [leTV, locsIn, encDigs, encTraces, encWant, encTrace, encReads, encRead, encMades, encMade, hnx, hd] <;> try omega
        · simp only; rw [← List.cons_append]; exact hjm.app (by simp [JK, AV.erks_eq])
        · simp only [hnx, List.length_append, List.length_cons, List.length_nil]; omega
      · rw [if_neg hp] at hnx
        (simp (maxSteps := 2000000) (disch := first | omega | assumption) [i64_in, tnS, Int.toNat_add, Int.toNat_mul, List.getElem?_cons_zero, List.getElem_cons_zero, hp, hgi, hst])
        (repeat ((with_reducible refine And.intro ?_ ?_); (· first | omega | (show barB _ _ = true; kernel_rfl) | (show rdJ _ _ _ _ _ = true; kernel_rfl) | (show tailB _ _ _ = true; kernel_rfl) | (show sftB _ _ _ = true; kernel_rfl))))
        obtain ⟨m', mid', hmm⟩ : ∃ m' mid', mid ++ [encTrace x] = m' :: mid' := by cases mid with
          | nil => exact ⟨_, _, rfl⟩
          | cons a r => exact ⟨_, _, rfl⟩
        have hmm' : mid ++ (encTrace x :: (trs (ts.drop (k+1)) ++ j)) = m' :: (mid' ++ (trs (ts.drop (k+1)) ++ j)) := by
          have := congrArg (· ++ (trs (ts.drop (k+1)) ++ j)) hmm
          simpa using this
        have hml : mid'.length = mid.length := by
          have := congrArg List.length hmm
          simpa using this.symm
        have hjm' : JK (m' :: mid') := by
          rw [← hmm]
          have h1 := hjm.drop 1
          exact JK.app (by simpa using h1) (by simp [JK, AV.erks_eq])
        have heq : trs F ++ (encTrace x :: (mid ++ (trs (ts.drop k) ++ j))) = trs (F ++ [x]) ++ (m' :: (mid' ++ (trs (ts.drop (k+1)) ++ j))) := by
          rw [hd, List.cons_append, hmm', trs_app, List.append_assoc]; rfl
        refine hN _ (k+1, m', mid') ?_ ⟨by simp only; omega, hjm', ?_⟩ (by simp only; omega)
        · refine Le.of ?_ ?_ ?_ ?_ ?_ <;> simp [leTV, locsIn, hnx, heq] <;> try omega
        · simp only [hnx, List.length_append, List.length_cons, List.length_nil]; omega
    · have hlt' : ¬ (k : Int) < ts.length := by omega
      have hkn : k = ts.length := by omega
      have hFt : F = kp t ts := by rw [hF, hkn, List.take_length]
      subst hkn
      have hcf : ¬ cap = F.length := by omega
      have hdr : ts.drop ts.length = [] := by simp
      have h1 : F.length ≤ ts.length := by omega
      have h2 : ts.length ≤ cap := by omega
      have hclr : (trs F ++ (m :: (mid ++ (trs [] ++ j)))).take F.length ++ (List.replicate (ts.length - F.length) tr0A ++ (trs F ++ (m :: (mid ++ (trs [] ++ j)))).drop ts.length) = trs F ++ (List.replicate (ts.length - F.length) tr0A ++ j) := by
        have e1 : (trs F ++ (m :: (mid ++ (trs [] ++ j)))).take F.length = trs F := by
          rw [List.take_append_of_le_length (by simp)]; exact List.take_of_length_le (by simp)
        have e2 : (trs F ++ (m :: (mid ++ (trs [] ++ j)))).drop ts.length = j := by
          have e3 : ts.length = (trs F).length + (mid.length + 1) := by simp; omega
          rw [e3, List.drop_append]
          have : (trs F).length + (mid.length + 1) - (trs F).length = mid.length + 1 := by omega
          rw [this, List.drop_of_length_le (by omega), List.drop_succ_cons]
          simp [trs]
        rw [e1, e2]
      have hz : JK (List.replicate (ts.length - F.length) tr0A) := JK.zeros _
      have hlr : (List.replicate (ts.length - F.length) tr0A).length = ts.length - F.length := List.length_replicate
      have her := (JK.app (JK.trs F) (hz.app hj))
      unfold JK at her
      simp only [tr0A] at hclr her
      (simp (maxSteps := 2000000) (disch := first | omega | assumption) [i64_in, tnS, Int.toNat_add, Int.toNat_mul, List.getElem?_cons_zero, List.getElem_cons_zero, hlt', hdr, hcf])
      refine hE _ _ (by simp) ?_
      (simp (maxSteps := 2000000) (disch := first | omega | assumption) [i64_in, tnS, Int.toNat_add, Int.toNat_mul, List.getElem?_cons_zero, List.getElem_cons_zero, hcf, hclr, hdr, -List.reduceReplicate])
      (repeat ((with_reducible refine And.intro ?_ ?_); (· first | omega | (show barB _ _ = true; kernel_rfl) | (show rdJ _ _ _ _ _ = true; kernel_rfl) | (show tailB _ _ _ = true; kernel_rfl) | (show sftB _ _ _ = true; kernel_rfl))))
      (simp (maxSteps := 2000000) (disch := first | omega | assumption) [i64_in, tnS, Int.toNat_add, Int.toNat_mul, List.getElem?_cons_zero, List.getElem_cons_zero, Tryz.f28, -List.reduceReplicate, hclr, her])
      refine ⟨List.replicate (ts.length - F.length) tr0A ++ j, hz.app hj, ?_, by rw [hFt], ?_, ?_⟩
      · rw [List.length_append, hlr, ← hFt]; omega
      · rw [← hFt]; rfl
      · simp [tvO, HObj.er_var]
end Go.Proofs.YthdgnfnalimcnaaGreatDoor
