/- The law TraceHolds: the program. No condition beyond each theorem's own. -/
import Derived.Test.YtmkpbigaafemnaaDoorP21
set_option linter.unusedSimpArgs false
set_option linter.unusedVariables false
set_option linter.unusedSectionVars false
set_option maxRecDepth 100000
/-! The law TraceHolds: the program. -/
namespace Go.Proofs.YtmkpbigaafemnaaDoor
open Go Go.Ab
open Classical
attribute [local simp] vc_skip vc_label vc_region vc_drawn vc_seq vc_cond vc_block vc_exit vc_goto vc_ret vc_loop vc_scope vcOps_nil vcOps_cons vcPs_nil vcPs_cons vcDs_nil vcDs_cons vcD impB mkd wkOf isCallV rdOK_eq rdO_nil rdO_tmp rdO_const rdO_global rdO_func rdL_nil rdL_cons rdT_av rdT_cst rdT_pel rdT_tup rdT_junk rdT_loc St.app Op.operands Call.operands vcG_eq iteP wkOf isCallV vcOp putK_eq pureV ev co coC asI asB asS isNil nkOf derefV fieldAddrV indexAddrV indexV lowV boundsV sliceV pickV_eq unV convV convB bytesOf capOf lenV minV withSrc slice3V lookupV mapOf mfind mput scalT mapUpdV makeSliceV appendM appendN growM growOK zM binI isConst binV St.put upd KSeq_n KSeq_x KSeq_g KSeq_r KBlock_n KBlock_x KBlock_g KBlock_r KScope_n KScope_x KScope_r KRet_n KRet_r resL retTV TV.er AV.er AV.ers AV.erk AV.erks Tok.k Heap.er_nil Heap.er_cons Heap.er_app HObj.er_var HObj.er_map Heap.keys_nil Heap.keys_cons Heap.keys_app hget hset subT getP setP_nil setP_one setP_two setPo_some storeV buildV buildL partsOf capTV argOK entry St.of lk_nil lk_cons leLoc siterOf_siter gB_undef gB_av gB_cst undef isNE_tmp isSlT nslD nslDs mslOf mstrV copyV copyK unsV ustrV hdel dataV sameP mtbD isSlN slNilV vcDo_nil vcDo_cons isLt sft sftD softV

@[simp] theorem fnok5 : fnOK Tryd.prog 5 = true := by kernel_rfl
@[simp] theorem isne5 : isNE Tryd.prog (.func 5) = false := isNE_func fnok5
theorem find_app {known more : List Read} {p : List UInt8} : (known ++ more).find? (fun x => decide (x.path = p)) = (known.find? (fun x => decide (x.path = p))).or (more.find? (fun x => decide (x.path = p))) := List.find?_append
theorem knowsV_find {l : List Read} {p : List UInt8} : knowsV l p = (l.find? (fun x => decide (x.path = p))).isSome := by
  simp only [knowsV, List.isSome_find?]
theorem holds_not (l : List Read) : ∀ rs, (holdsV l rs).2 = [] ∨ ((holdsV l rs).1 = false ∧ knowsV l (holdsV l rs).2 = false)
  | [] => .inl rfl
  | r :: rs => by
    have ih := holds_not l rs
    unfold holdsV
    split
    · rename_i h
      exact .inr ⟨rfl, by rw [knowsV_find, h]; rfl⟩
    · split
      · exact ih
      · exact .inl rfl
theorem knowsV_app {a b : List Read} {p : List UInt8} : knowsV (a ++ b) p = (knowsV a p || knowsV b p) := by simp [knowsV]
/-- more is known: what then? -/
theorem holds_more (known more : List Read) : ∀ rs : List Read,
    ((holdsV known rs).2 = [] → holdsV (known ++ more) rs = holdsV known rs ∨ (rs.any fun x => decide (x.path = [])) = true) ∧
    ((holdsV known rs).2 ≠ [] → (∃ b, holdsV (known ++ more) rs = (b, [])) ∨ ((holdsV (known ++ more) rs).1 = false ∧ ((holdsV (known ++ more) rs).2 ≠ (holdsV known rs).2 ∨ knowsV more (holdsV known rs).2 = false)))
  | [] => by simp [holdsV]
  | r :: rs => by
    obtain ⟨i1, i2⟩ := holds_more known more rs
    cases hf : known.find? (fun x => decide (x.path = r.path)) with
    | some x =>
      have h1 : (known ++ more).find? (fun x => decide (x.path = r.path)) = some x := by rw [find_app, hf]; rfl
      by_cases hx : x = r
      · have e1 : holdsV known (r :: rs) = holdsV known rs := by simp only [holdsV, hf, if_pos hx]
        have e2 : holdsV (known ++ more) (r :: rs) = holdsV (known ++ more) rs := by simp only [holdsV, h1, if_pos hx]
        rw [e1, e2]
        refine ⟨fun h => ?_, i2⟩
        rcases i1 h with h | h
        · exact .inl h
        · exact .inr (by rw [List.any_cons, h, Bool.or_true])
      · have e1 : holdsV known (r :: rs) = (false, []) := by simp only [holdsV, hf, if_neg hx]
        have e2 : holdsV (known ++ more) (r :: rs) = (false, []) := by simp only [holdsV, h1, if_neg hx]
        rw [e1, e2]
        exact ⟨fun _ => .inl rfl, fun h => (h rfl).elim⟩
    | none =>
      have e1 : holdsV known (r :: rs) = (false, r.path) := by simp only [holdsV, hf]
      rw [e1]
      refine ⟨fun h => .inr ?_, fun h => ?_⟩
      · simp only [List.any_cons]; simp only at h; rw [h]; rfl
      · cases hk : knowsV more r.path with
        | false =>
          have h0 := hk
          rw [knowsV_find] at h0
          have h1 : (known ++ more).find? (fun x => decide (x.path = r.path)) = none := by
            rw [find_app, hf]
            cases h2 : more.find? (fun x => decide (x.path = r.path)) with
            | none => rfl
            | some y => rw [h2] at h0; cases h0
          have e2 : holdsV (known ++ more) (r :: rs) = (false, r.path) := by simp only [holdsV, h1]
          rw [e2]
          exact .inr ⟨rfl, .inr rfl⟩
        | true =>
          rcases holds_not (known ++ more) (r :: rs) with h2 | ⟨h2, h3⟩
          · left; exact ⟨(holdsV (known ++ more) (r :: rs)).1, by rw [← h2]⟩
          · right
            refine ⟨h2, .inl fun e => ?_⟩
            simp only at e
            rw [e, knowsV_app, hk, Bool.or_true] at h3
            cases h3
/-- what the law tells -/
def thV (t : Trace) (known more : List Read) : Bool :=
  if (holdsV known t.reads).2 = [] then (decide ((holdsV (known ++ more) t.reads).1 = (holdsV known t.reads).1) && decide ((holdsV (known ++ more) t.reads).2 = [])) || emptyV t
  else ((holdsV (known ++ more) t.reads).1 && decide ((holdsV (known ++ more) t.reads).2 = [])) || (!(holdsV (known ++ more) t.reads).1 && (!decide ((holdsV (known ++ more) t.reads).2 = (holdsV known t.reads).2) || !knowsV more (holdsV known t.reads).2))
theorem thV_true (t : Trace) (known more : List Read) : thV t known more = true := by
  obtain ⟨h1, h2⟩ := holds_more known more t.reads
  unfold thV
  split
  · rename_i h
    rcases h1 h with e | e
    · rw [e]; simp [h]
    · rw [show emptyV t = true from e, Bool.or_true]
  · rename_i h
    rcases h2 h with ⟨b, e⟩ | ⟨e1, e2 | e2⟩
    · have hne : ¬ [] = (holdsV known t.reads).2 := fun e => h e.symm
      rw [e]; cases b <;> simp [hne]
    · simp [e1, e2]
    · simp [e1, e2]
set_option maxHeartbeats 8000000 in
theorem traceHolds_ok (t : Trace) (known more : List Read) (hl : t.reads.length ≤ 9223372036854775807) (hm : t.outs.length ≤ 9223372036854775807) (hlp : ∀ r ∈ t.reads, r.path.length ≤ 9223372036854775807) (hmp : ∀ r ∈ t.outs, r.path.length ≤ 9223372036854775807) (hk : known.length ≤ 9223372036854775807) (hmo : more.length ≤ 9223372036854775807) :
    PC Tryd.prog 5 [.av (tyOf Tryd.prog 28) (encTrace t), .av (.slice 43) (encReads known), .av (.slice 43) (encReads more)] (.av .bool (.b true)) := by
  unfold PC
  refine ACalls.sub (R := fun r H' => r = .av .bool (.b true)) ?_ (fun r H' hr _ => ⟨[], HSub.of_sub (List.nil_sublist _), hr, rfl⟩)
  refine ACalls.of_vc laid mixed Tryd.func5 rfl (by kernel_rfl) cf0 (by simp [Tryd.ntmps5]) fun imm0 w0 => ?_
  (simp (maxSteps := 2000000) (disch := first | omega | assumption) [i64_in, tnS, Int.toNat_add, Int.toNat_mul, List.getElem?_cons_zero, List.getElem_cons_zero])
  refine callV_pc alive_ok rfl rfl (by simp) (by simp [argLe, TV.er, AV.er]) ?_
  (simp (maxSteps := 2000000) (disch := first | omega | assumption) [i64_in, tnS, Int.toNat_add, Int.toNat_mul, List.getElem?_cons_zero, List.getElem_cons_zero])
  refine callV_pc (wide_ok t hl hm hlp hmp) rfl rfl (by simp) (by simp [argLe, TV.er, encTrace, AV.er, AV.ers, AV.ers_eq, encReads, encMades]) ?_
  by_cases hw : wideTV t = true
  · (simp (maxSteps := 2000000) (disch := first | omega | assumption) [i64_in, tnS, Int.toNat_add, Int.toNat_mul, List.getElem?_cons_zero, List.getElem_cons_zero, hw, encReads, Tryd.f5])
  rw [Bool.not_eq_true] at hw
  by_cases h1 : 60 < known.length
  · have h1' : (60 : Int) < known.length := by omega
    (simp (maxSteps := 2000000) (disch := first | omega | assumption) [i64_in, tnS, Int.toNat_add, Int.toNat_mul, List.getElem?_cons_zero, List.getElem_cons_zero, hw, encReads, h1', Tryd.f5])
  have h1' : ¬ (60 : Int) < known.length := by omega
  by_cases h2 : 60 < more.length
  · have h2' : (60 : Int) < more.length := by omega
    (simp (maxSteps := 2000000) (disch := first | omega | assumption) [i64_in, tnS, Int.toNat_add, Int.toNat_mul, List.getElem?_cons_zero, List.getElem_cons_zero, hw, encReads, h1', h2', Tryd.f5])
  have h2' : ¬ (60 : Int) < more.length := by omega
  have hth := thV_true t known more
  unfold thV at hth
  obtain ⟨⟨a, p⟩, e1⟩ : ∃ x, holdsV known t.reads = x := ⟨_, rfl⟩
  obtain ⟨⟨b, q⟩, e2⟩ : ∃ x, holdsV (known ++ more) t.reads = x := ⟨_, rfl⟩
  rw [e1, e2] at hth
  simp only at hth
  (simp (maxSteps := 2000000) (disch := first | omega | assumption) [i64_in, tnS, Int.toNat_add, Int.toNat_mul, List.getElem?_cons_zero, List.getElem_cons_zero, hw, encReads, h1', h2'])
  refine callV_pc (holds_ok t known hk hl) rfl rfl (by simp) (by simp [argLe, TV.er, encTrace, AV.er, AV.ers, AV.ers_eq, encReads, encMades]) ?_
  (simp (maxSteps := 2000000) (disch := first | omega | assumption) [i64_in, tnS, Int.toNat_add, Int.toNat_mul, List.getElem?_cons_zero, List.getElem_cons_zero, holdsTV, e1])
  refine callV_pc (rholds_ok t known hk hl) rfl rfl (by simp) (by simp [argLe, TV.er, encTrace, AV.er, AV.ers, AV.ers_eq, encReads, encMades]) ?_
  (simp (maxSteps := 2000000) (disch := first | omega | assumption) [i64_in, tnS, Int.toNat_add, Int.toNat_mul, List.getElem?_cons_zero, List.getElem_cons_zero, holdsTV, e1, appendV])
  refine ⟨by omega, by omega, by omega, by omega, ?_⟩
  refine callV_pc (holds_ok t (known ++ more) (by simp; omega) hl) rfl rfl (by simp) (by simp [argLe, TV.er, encTrace, AV.er, AV.ers, AV.ers_eq, encReads, encMades, (funext er_encRead : AV.er ∘ encRead = encRead)]) ?_
  by_cases hp : p = []
  · subst hp
    rw [if_pos rfl] at hth
    have em : a ≠ b ∨ q ≠ [] → emptyV t = true := fun h => by
      rcases h with h | h
      · cases a <;> cases b <;> simp_all
      · cases a <;> cases b <;> simp_all
    cases a <;> cases b
    · by_cases hq : q = []
      · subst hq; (simp (maxSteps := 2000000) (disch := first | omega | assumption) [i64_in, tnS, Int.toNat_add, Int.toNat_mul, List.getElem?_cons_zero, List.getElem_cons_zero, holdsTV, e1, e2, Tryd.f5])
      · have he := em (.inr hq)
        (simp (maxSteps := 2000000) (disch := first | omega | assumption) [i64_in, tnS, Int.toNat_add, Int.toNat_mul, List.getElem?_cons_zero, List.getElem_cons_zero, holdsTV, e1, e2, hq])
        refine callV_pc (empty_ok t hl) rfl rfl (by simp) (by simp [argLe, TV.er, encTrace, AV.er, AV.ers, AV.ers_eq, encReads, encMades]) ?_
        (simp (maxSteps := 2000000) (disch := first | omega | assumption) [i64_in, tnS, Int.toNat_add, Int.toNat_mul, List.getElem?_cons_zero, List.getElem_cons_zero, he, Tryd.f5])
    · have he := em (.inl (by simp))
      (simp (maxSteps := 2000000) (disch := first | omega | assumption) [i64_in, tnS, Int.toNat_add, Int.toNat_mul, List.getElem?_cons_zero, List.getElem_cons_zero, holdsTV, e1, e2])
      refine callV_pc (empty_ok t hl) rfl rfl (by simp) (by simp [argLe, TV.er, encTrace, AV.er, AV.ers, AV.ers_eq, encReads, encMades]) ?_
      (simp (maxSteps := 2000000) (disch := first | omega | assumption) [i64_in, tnS, Int.toNat_add, Int.toNat_mul, List.getElem?_cons_zero, List.getElem_cons_zero, he, Tryd.f5])
    · have he := em (.inl (by simp))
      (simp (maxSteps := 2000000) (disch := first | omega | assumption) [i64_in, tnS, Int.toNat_add, Int.toNat_mul, List.getElem?_cons_zero, List.getElem_cons_zero, holdsTV, e1, e2])
      refine callV_pc (empty_ok t hl) rfl rfl (by simp) (by simp [argLe, TV.er, encTrace, AV.er, AV.ers, AV.ers_eq, encReads, encMades]) ?_
      (simp (maxSteps := 2000000) (disch := first | omega | assumption) [i64_in, tnS, Int.toNat_add, Int.toNat_mul, List.getElem?_cons_zero, List.getElem_cons_zero, he, Tryd.f5])
    · by_cases hq : q = []
      · subst hq; (simp (maxSteps := 2000000) (disch := first | omega | assumption) [i64_in, tnS, Int.toNat_add, Int.toNat_mul, List.getElem?_cons_zero, List.getElem_cons_zero, holdsTV, e1, e2, Tryd.f5])
      · have he := em (.inr hq)
        (simp (maxSteps := 2000000) (disch := first | omega | assumption) [i64_in, tnS, Int.toNat_add, Int.toNat_mul, List.getElem?_cons_zero, List.getElem_cons_zero, holdsTV, e1, e2, hq])
        refine callV_pc (empty_ok t hl) rfl rfl (by simp) (by simp [argLe, TV.er, encTrace, AV.er, AV.ers, AV.ers_eq, encReads, encMades]) ?_
        (simp (maxSteps := 2000000) (disch := first | omega | assumption) [i64_in, tnS, Int.toNat_add, Int.toNat_mul, List.getElem?_cons_zero, List.getElem_cons_zero, he, Tryd.f5])
  · rw [if_neg hp] at hth
    cases b
    · by_cases hq : q = p
      · subst hq
        have hk0 : knowsV more q = false := by simpa [hp] using hth
        (simp (maxSteps := 2000000) (disch := first | omega | assumption) [i64_in, tnS, Int.toNat_add, Int.toNat_mul, List.getElem?_cons_zero, List.getElem_cons_zero, holdsTV, e1, e2, hp])
        refine callV_pc (knows_ok more q hmo) rfl rfl (by simp) (by simp [argLe, TV.er, AV.er, AV.ers, AV.ers_eq, encReads]) ?_
        (simp (maxSteps := 2000000) (disch := first | omega | assumption) [i64_in, tnS, Int.toNat_add, Int.toNat_mul, List.getElem?_cons_zero, List.getElem_cons_zero, hk0, Tryd.f5])
      · (simp (maxSteps := 2000000) (disch := first | omega | assumption) [i64_in, tnS, Int.toNat_add, Int.toNat_mul, List.getElem?_cons_zero, List.getElem_cons_zero, holdsTV, e1, e2, hp, hq, Tryd.f5])
    · have hq : q = [] := by simpa using hth
      subst hq
      (simp (maxSteps := 2000000) (disch := first | omega | assumption) [i64_in, tnS, Int.toNat_add, Int.toNat_mul, List.getElem?_cons_zero, List.getElem_cons_zero, holdsTV, e1, e2, hp, Tryd.f5])
end Go.Proofs.YtmkpbigaafemnaaDoor
