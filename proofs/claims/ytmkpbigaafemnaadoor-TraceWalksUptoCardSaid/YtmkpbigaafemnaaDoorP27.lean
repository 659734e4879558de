/- The law TraceWalks: the program. No condition beyond each theorem's own. -/
import Derived.Test.YtmkpbigaafemnaaDoorP26
import Derived.Test.YtmkpbigaafemnaaDoorP17
set_option linter.unusedSimpArgs false
set_option linter.unusedVariables false
set_option linter.unusedSectionVars false
set_option maxRecDepth 100000
/-! The law TraceWalks: the program. -/
namespace Go.Proofs.YtmkpbigaafemnaaDoor
open Go Go.Ab
open Classical
attribute [local simp] vc_skip vc_label vc_region vc_drawn vc_seq vc_cond vc_block vc_exit vc_goto vc_ret vc_loop vc_scope vcOps_nil vcOps_cons vcPs_nil vcPs_cons vcDs_nil vcDs_cons vcD impB mkd wkOf isCallV rdOK_eq rdO_nil rdO_tmp rdO_const rdO_global rdO_func rdL_nil rdL_cons rdT_av rdT_cst rdT_pel rdT_tup rdT_junk rdT_loc St.app Op.operands Call.operands vcG_eq iteP wkOf isCallV vcOp putK_eq pureV ev co coC asI asB asS isNil nkOf derefV fieldAddrV indexAddrV indexV lowV boundsV sliceV pickV_eq unV convV convB bytesOf capOf lenV minV withSrc slice3V lookupV mapOf mfind mput scalT mapUpdV makeSliceV appendM appendN growM growOK zM binI isConst binV St.put upd KSeq_n KSeq_x KSeq_g KSeq_r KBlock_n KBlock_x KBlock_g KBlock_r KScope_n KScope_x KScope_r KRet_n KRet_r resL retTV TV.er AV.er AV.ers AV.erk AV.erks Tok.k Heap.er_nil Heap.er_cons Heap.er_app HObj.er_var HObj.er_map Heap.keys_nil Heap.keys_cons Heap.keys_app hget hset subT getP setP_nil setP_one setP_two setPo_some storeV buildV buildL partsOf capTV argOK entry St.of lk_nil lk_cons leLoc siterOf_siter gB_undef gB_av gB_cst undef isNE_tmp isSlT nslD nslDs mslOf mstrV copyV copyK unsV ustrV hdel dataV sameP mtbD

@[simp] theorem fnok6 : fnOK Tryd.prog 6 = true := by kernel_rfl
@[simp] theorem isne6 : isNE Tryd.prog (.func 6) = false := isNE_func fnok6
theorem readsV_dist : ∀ {l : List Read} {met : List (List UInt8)}, readsV met l = 0 → (∀ r ∈ l, r.path ∉ met) ∧ (l.map (·.path)).Nodup
  | [], _, _ => by simp
  | x :: l, met, h => by
    unfold readsV at h
    split at h
    · cases h
    · split at h
      · cases h
      · split at h
        · cases h
        · rename_i h1 h2 h3
          obtain ⟨i1, i2⟩ := readsV_dist h
          refine ⟨fun r hr => ?_, ?_⟩
          · rcases List.mem_cons.1 hr with rfl | hr
            · exact h2
            · exact fun hm => i1 r hr (List.mem_append_left _ hm)
          · rw [List.map_cons, List.nodup_cons]
            refine ⟨fun hm => ?_, i2⟩
            obtain ⟨r, hr, e⟩ := List.mem_map.1 hm
            exact i1 r hr (by rw [e]; simp)
theorem find_self : ∀ {l : List Read}, (l.map (·.path)).Nodup → ∀ r ∈ l, l.find? (fun x => decide (x.path = r.path)) = some r
  | [], _, r, hr => by cases hr
  | x :: l, hn, r, hr => by
    rw [List.map_cons, List.nodup_cons] at hn
    rw [List.find?_cons]
    rcases List.mem_cons.1 hr with rfl | hr
    · simp
    · have : ¬ x.path = r.path := fun e => hn.1 (by rw [e]; exact List.mem_map.2 ⟨r, hr, rfl⟩)
      simp only [this, decide_false]
      exact find_self hn.2 r hr
theorem holdsV_pre (known b : List Read) : ∀ a : List Read, (∀ r ∈ a, known.find? (fun x => decide (x.path = r.path)) = some r) → holdsV known (a ++ b) = holdsV known b
  | [], _ => rfl
  | r :: a, h => by
    have h1 := h r (by simp)
    have h2 := holdsV_pre known b a fun x hx => h x (by simp [hx])
    simp only [List.cons_append, holdsV, h1, if_true]
    exact h2
theorem nodup_take {l : List Read} (h : (l.map (·.path)).Nodup) (i : Nat) : ((l.take i).map (·.path)).Nodup := by
  rw [List.map_take]
  exact h.sublist (List.take_sublist _ _)
theorem holds_at {l : List Read} (h : (l.map (·.path)).Nodup) {i : Nat} (hi : i < l.length) : holdsV (l.take i) l = (false, l[i].path) := by
  have e : l = l.take i ++ (l[i] :: l.drop (i+1)) := by rw [List.getElem_cons_drop, List.take_append_drop]
  have h1 : holdsV (l.take i) (l.take i ++ (l[i] :: l.drop (i+1))) = holdsV (l.take i) (l[i] :: l.drop (i+1)) := holdsV_pre _ _ _ (find_self (nodup_take h i))
  rw [← e] at h1
  rw [h1]
  have hn : (l.take i).find? (fun x => decide (x.path = l[i].path)) = none := by
    rw [List.find?_eq_none]
    intro x hx
    simp only [decide_eq_true_eq]
    intro e2
    obtain ⟨j, hj, e3⟩ := List.mem_take_iff_getElem.1 hx
    have hj' : j < i ∧ j < l.length := by omega
    have := List.pairwise_iff_getElem.1 h j i (by simpa using hj'.2) (by simpa using hi) hj'.1
    simp only [List.getElem_map] at this
    exact this (by rw [e3, e2])
  simp only [holdsV, hn]
theorem holds_all {l : List Read} (h : (l.map (·.path)).Nodup) : holdsV l l = (true, []) := by
  have := holdsV_pre l [] l (find_self h)
  rw [List.append_nil] at this
  rw [this]; rfl
set_option maxHeartbeats 8000000 in
theorem traceWalks_ok (t : Trace) (ht : okTrace t) (hr2 : ∀ r ∈ t.reads, r.path.length ≤ 1000000000) (ho2 : ∀ r ∈ t.outs, r.path.length ≤ 1000000000) :
    PC Tryd.prog 6 [.av (tyOf Tryd.prog 28) (encTrace t)] (.av .bool (.b true)) := by
  have htp := (okTrace_p ht).1
  have hto := (okTrace_p ht).2.2
  refine PC.of <| ACalls.of_vc laid mixed Tryd.func6 rfl (by kernel_rfl) cf0 (by simp [Tryd.ntmps6]) fun imm0 w0 => ?_
  (simp (maxSteps := 2000000) (disch := first | omega | assumption) [i64_in, tnS, Int.toNat_add, Int.toNat_mul, List.getElem?_cons_zero, List.getElem_cons_zero])
  refine callV_pc alive_ok rfl rfl (by simp) (by simp [argLe, TV.er, AV.er]) ?_
  (simp (maxSteps := 2000000) (disch := first | omega | assumption) [i64_in, tnS, Int.toNat_add, Int.toNat_mul, List.getElem?_cons_zero, List.getElem_cons_zero])
  refine callV_pc (okTrace_wide ht) rfl rfl (by simp) (by simp [argLe, TV.er]) ?_
  cases hw : wideTV t
  rotate_left
  · (simp (maxSteps := 2000000) (disch := first | omega | assumption) [i64_in, tnS, Int.toNat_add, Int.toNat_mul, List.getElem?_cons_zero, List.getElem_cons_zero, hw, Tryd.f6])
  (simp (maxSteps := 2000000) (disch := first | omega | assumption) [i64_in, tnS, Int.toNat_add, Int.toNat_mul, List.getElem?_cons_zero, List.getElem_cons_zero, hw])
  refine callV_pc (rcheck_ok t htp hr2 ho2) rfl rfl (by simp) (by simp [argLe, TV.er]) ?_
  by_cases hc : checkV t = 0
  rotate_left
  · (simp (maxSteps := 2000000) (disch := first | omega | assumption) [i64_in, tnS, Int.toNat_add, Int.toNat_mul, List.getElem?_cons_zero, List.getElem_cons_zero, hc, Tryd.f6])
  (simp (maxSteps := 2000000) (disch := first | omega | assumption) [i64_in, tnS, Int.toNat_add, Int.toNat_mul, List.getElem?_cons_zero, List.getElem_cons_zero, hc])
  have hnd := (readsV_dist (checkV_parts hc).1).2
  have hlen := (checkV_len hc).1
  refine AT.loop' (α := Nat) (fun k => St.of [(1, .loc 1 []), (3, .av (.slice 43) (.sl (.own 49 k) ((t.reads.take k).map encRead))), (4, .av (.int .i64) (.i .i64 k))] [(1, (tyOf Tryd.prog 28, encTrace t))] (fun j => if j = 49 then k else 0) [])
    (fun k => k ≤ t.reads.length) (fun k => t.reads.length - k) 0 ?_ ?_ ?_
  · refine Le.of ?_ ?_ ?_ ?_ ?_ <;> simp [leTV, locsIn, encDigs, encTraces, encWant, encTrace, encReads, encRead, encMades, encMade, encTrace, encReads, encMades] <;> try omega
  · simp
  rintro k hk KL hN hE
  have htl : (t.reads.take k).length = k := by rw [List.length_take]; omega
  refine vc_sound (cf := cf0) laid mixed _ _ _ (by kernel_rfl) ?_
  by_cases hlt : k < t.reads.length
  · have hlt' : (k : Int) < t.reads.length := by omega
    have hg := map_get encRead t.reads k hlt
    have hat := holds_at hnd hlt
    have htk : (t.reads.map encRead).take (k+1) = (t.reads.map encRead).take k ++ [encRead t.reads[k]] := by
      rw [← List.map_take, List.take_succ_eq_append_getElem hlt, List.map_append, List.map_cons, List.map_nil, List.map_take]
    (simp (maxSteps := 2000000) (disch := first | omega | assumption) [i64_in, tnS, Int.toNat_add, Int.toNat_mul, List.getElem?_cons_zero, List.getElem_cons_zero, hlt', encTrace, encReads])
    refine callV_pc (holds_ok t (t.reads.take k) (by omega) hto.1) rfl rfl (by simp) (by simp [argLe, TV.er, encTrace, AV.er, AV.ers, AV.ers_eq, encReads, encMades, (funext er_encRead : AV.er ∘ encRead = encRead)]) ?_
    (simp (maxSteps := 2000000) (disch := first | omega | assumption) [i64_in, tnS, Int.toNat_add, Int.toNat_mul, List.getElem?_cons_zero, List.getElem_cons_zero, holdsTV, hat, hg, hlt', encRead])
    (simp (maxSteps := 2000000) (disch := first | omega | assumption) [i64_in, tnS, Int.toNat_add, Int.toNat_mul, List.getElem?_cons_zero, List.getElem_cons_zero, appendV, htl])
    refine ⟨by omega, by omega, hN _ (k+1) ?_ (by omega) (by omega)⟩
    refine Le.of ?_ ?_ ?_ ?_ ?_ <;> simp [leTV, locsIn, encDigs, encTraces, encWant, encTrace, encReads, encRead, encMades, encMade, encTrace, encReads, encMades, encRead, htk] <;> try omega
    all_goals (intro j; by_cases hj : j = 49 <;> simp [hj])
  · have hlt' : ¬ (k : Int) < t.reads.length := by omega
    have hkn : k = t.reads.length := by omega
    subst hkn
    (simp (maxSteps := 2000000) (disch := first | omega | assumption) [i64_in, tnS, Int.toNat_add, Int.toNat_mul, List.getElem?_cons_zero, List.getElem_cons_zero, hlt', encTrace, encReads])
    refine hE _ _ (by simp) ?_
    (simp (maxSteps := 2000000) (disch := first | omega | assumption) [i64_in, tnS, Int.toNat_add, Int.toNat_mul, List.getElem?_cons_zero, List.getElem_cons_zero])
    refine callV_pc (holds_ok t t.reads hto.1 hto.1) rfl rfl (by simp) (by simp [argLe, TV.er, encTrace, AV.er, AV.ers, AV.ers_eq, encReads, encMades, (funext er_encRead : AV.er ∘ encRead = encRead)]) ?_
    (simp (maxSteps := 2000000) (disch := first | omega | assumption) [i64_in, tnS, Int.toNat_add, Int.toNat_mul, List.getElem?_cons_zero, List.getElem_cons_zero, holdsTV, holds_all hnd, Tryd.f6])
end Go.Proofs.YtmkpbigaafemnaaDoor
