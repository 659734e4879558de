/- The law TraceOf: the program; what a reading of an outcome tells. No condition beyond each theorem's own. -/
import Derived.Test.YtmkpbigaafemnaaDoorP35
import Derived.Test.YtmkpbigaafemnaaDoorP26
set_option linter.unusedSimpArgs false
set_option linter.unusedVariables false
set_option linter.unusedSectionVars false
set_option maxRecDepth 100000
/-! The law TraceOf: the program; what a reading of an outcome tells. -/
namespace Go.Proofs.YtmkpbigaafemnaaDoor
open Go Go.Ab
open Classical
attribute [local simp] vc_skip vc_label vc_region vc_drawn vc_seq vc_cond vc_block vc_exit vc_goto vc_ret vc_loop vc_scope vcOps_nil vcOps_cons vcPs_nil vcPs_cons vcDs_nil vcDs_cons vcD impB mkd wkOf isCallV rdOK_eq rdO_nil rdO_tmp rdO_const rdO_global rdO_func rdL_nil rdL_cons rdT_av rdT_cst rdT_pel rdT_tup rdT_junk rdT_loc St.app Op.operands Call.operands vcG_eq iteP wkOf isCallV vcOp putK_eq pureV ev co coC asI asB asS isNil nkOf derefV fieldAddrV indexAddrV indexV lowV boundsV sliceV pickV_eq unV convV convB bytesOf capOf lenV minV withSrc slice3V lookupV mapOf mfind mput scalT mapUpdV makeSliceV appendM appendN growM growOK zM binI isConst binV St.put upd KSeq_n KSeq_x KSeq_g KSeq_r KBlock_n KBlock_x KBlock_g KBlock_r KScope_n KScope_x KScope_r KRet_n KRet_r resL retTV TV.er AV.er AV.ers AV.erk AV.erks Tok.k Heap.er_nil Heap.er_cons Heap.er_app HObj.er_var HObj.er_map Heap.keys_nil Heap.keys_cons Heap.keys_app hget hset subT getP setP_nil setP_one setP_two setPo_some storeV buildV buildL partsOf capTV argOK entry St.of lk_nil lk_cons leLoc siterOf_siter gB_undef gB_av gB_cst undef isNE_tmp isSlT nslD nslDs mslOf mstrV copyV copyK unsV ustrV hdel dataV sameP mtbD isSlN slNilV vcDo_nil vcDo_cons isLt sft sftD softV

@[simp] theorem fnok8 : fnOK Tryd.prog 8 = true := by kernel_rfl
@[simp] theorem isne8 : isNE Tryd.prog (.func 8) = false := isNE_func fnok8
def okF (f : FileV) : Prop := f.path.length ≤ maxLen ∧ f.data.length ≤ maxLen
def okOut (o : OutV) : Prop := (o.outs.length ≤ maxLen ∧ ∀ f ∈ o.outs, okF f) ∧ o.reads.length ≤ maxLen ∧ ∀ r ∈ o.reads, okR r
theorem decFile {n : Nat} {x : AV} (h : WTy Tryd.prog (n + 3) 58 x) : ∃ f : FileV, x = encFile f ∧ okF f := by
  rw [WTy] at h
  simp only [ty58] at h
  obtain ⟨xs, rfl, hlen, h⟩ := h
  match xs, hlen with
  | [a, b], _ =>
    have h1 := h 0 9 a rfl rfl
    have h2 := h 1 9 b rfl rfl
    simp only [WTy, ty9] at h1 h2
    obtain ⟨s, rfl, hs⟩ := h1
    obtain ⟨q, rfl, hq⟩ := h2
    exact ⟨⟨s, q⟩, rfl, hs, hq⟩
theorem decFiles {n : Nat} {x : AV} (h : WTy Tryd.prog (n + 4) 54 x) : ∃ l : List FileV, x = encFiles l ∧ l.length ≤ maxLen ∧ ∀ r ∈ l, okF r := by
  rw [WTy] at h
  simp only [ty54] at h
  obtain ⟨xs, rfl, hlen, h⟩ := h
  obtain ⟨l, rfl, h2⟩ := list_dec h fun y hy => decFile hy
  exact ⟨l, rfl, by simpa using hlen, h2⟩
theorem decI {n : Nat} {x : AV} (h : WTy Tryd.prog (n + 1) 3 x) : ∃ m : Int, x = .i .i64 m := by
  simp only [WTy, ty3] at h
  obtain ⟨m, rfl, hm⟩ := h
  exact ⟨m, rfl⟩
theorem decE {n : Nat} {x : AV} (h : WTy Tryd.prog (n + 1) 32 x) : ∃ m : Int, x = .i .i64 m := by
  simp only [WTy, ty32] at h
  obtain ⟨m, rfl, hm⟩ := h
  exact ⟨m, rfl⟩
theorem decOut {n : Nat} {x : AV} (h : WTy Tryd.prog (n + 5) 56 x) : ∃ o : OutV, x = encOut o ∧ okOut o := by
  rw [WTy] at h
  simp only [ty56] at h
  obtain ⟨xs, rfl, hlen, h⟩ := h
  match xs, hlen with
  | [a, b, c, d], _ =>
    obtain ⟨k, rfl⟩ := decI (h 0 3 a rfl rfl)
    obtain ⟨w, rfl⟩ := decE (h 1 32 b rfl rfl)
    obtain ⟨f, rfl, h1⟩ := decFiles (h 2 54 c rfl rfl)
    obtain ⟨r, rfl, h2⟩ := decReads (h 3 25 d rfl rfl)
    exact ⟨⟨k, w, f, r⟩, rfl, h1, h2⟩
set_option maxHeartbeats 8000000 in
theorem traceOf_ok (key : Dig) (o : OutV) (ho : okOut o) :
    PC Tryd.prog 8 [.av (tyOf Tryd.prog 24) (encD key), .av (tyOf Tryd.prog 56) (encOut o)] (.av .bool (.b true)) := by
  obtain ⟨⟨ho1, ho2⟩, hr1, hr2⟩ := ho
  have hx := max63
  obtain ⟨kind, why, outs, reads⟩ := o
  simp only at hr1 ho1 hr2 ho2
  replace ho2 : ∀ f ∈ outs, f.path.length ≤ 9223372036854775807 ∧ f.data.length ≤ 9223372036854775807 := fun f hf => ⟨Nat.le_trans (ho2 f hf).1 hx, Nat.le_trans (ho2 f hf).2 hx⟩
  replace hr2 : ∀ r ∈ reads, r.path.length ≤ 9223372036854775807 := fun r hr => Nat.le_trans (hr2 r hr).2 hx
  replace ho1 := Nat.le_trans ho1 hx
  replace hr1 := Nat.le_trans hr1 hx
  clear hx
  refine PC.of <| ACalls.of_vc laid mixed Tryd.func8 rfl (by kernel_rfl) cf0 (by simp [Tryd.ntmps8]) fun imm0 w0 => ?_
  (simp (maxSteps := 2000000) (disch := first | omega | assumption) [i64_in, tnS, Int.toNat_add, Int.toNat_mul, List.getElem?_cons_zero, List.getElem_cons_zero])
  refine callV_pc alive_ok rfl rfl (by simp) (by simp [argLe, TV.er, AV.er]) ?_
  by_cases h1 : 60 < reads.length
  · have h1' : (60 : Int) < reads.length := by omega
    (simp (maxSteps := 2000000) (disch := first | omega | assumption) [i64_in, tnS, Int.toNat_add, Int.toNat_mul, List.getElem?_cons_zero, List.getElem_cons_zero, encOut, encReads, encFiles, h1', Tryd.f8])
  have h1' : ¬ (60 : Int) < reads.length := by omega
  by_cases h2 : 60 < outs.length
  · have h2' : (60 : Int) < outs.length := by omega
    (simp (maxSteps := 2000000) (disch := first | omega | assumption) [i64_in, tnS, Int.toNat_add, Int.toNat_mul, List.getElem?_cons_zero, List.getElem_cons_zero, encOut, encReads, encFiles, h1', h2', Tryd.f8])
  have h2' : ¬ (60 : Int) < outs.length := by omega
  (simp (maxSteps := 2000000) (disch := first | omega | assumption) [i64_in, tnS, Int.toNat_add, Int.toNat_mul, List.getElem?_cons_zero, List.getElem_cons_zero, encOut, encReads, encFiles, h1', h2'])
  refine AT.loop' (α := Nat) (fun k => St.of [(2, .loc 2 []), (3, .loc 3 []), (5, .av (.int .i64) (.i .i64 k))] [(2, (tyOf Tryd.prog 24, encD key)), (3, (tyOf Tryd.prog 56, encOut ⟨kind, why, outs, reads⟩))] (fun _ => 0) [])
    (fun k => k ≤ outs.length ∧ ∀ f ∈ outs.take k, f.path.length ≤ 300 ∧ f.data.length ≤ 300) (fun k => outs.length - k) 0 ?_ ?_ ?_
  · refine Le.of ?_ ?_ ?_ ?_ ?_ <;> simp [leTV, locsIn, encDigs, encTraces, encWant, encTrace, encReads, encRead, encMades, encMade, encOut, encReads, encFiles] <;> try omega
  · simp
  rintro k ⟨hk, hpre⟩ KL hN hE
  refine vc_sound (cf := cf0) laid mixed _ _ _ (by kernel_rfl) ?_
  by_cases hlt : k < outs.length
  · have hlt' : (k : Int) < outs.length := by omega
    have hg := map_getF outs k hlt
    have hd := ho2 outs[k] (List.getElem_mem hlt)
    have hnx : ∀ f ∈ outs.take (k+1), f ∈ outs.take k ∨ f = outs[k] := by
      intro f hf
      rw [List.take_succ_eq_append_getElem hlt] at hf
      rcases List.mem_append.1 hf with h | h
      · exact .inl h
      · exact .inr (by simpa using h)
    obtain ⟨f, hf⟩ : ∃ f, f = outs[k] := ⟨_, rfl⟩
    rw [← hf] at hg hd hnx
    clear hf
    by_cases h3 : 300 < f.data.length
    · have h3' : (300 : Int) < f.data.length := by omega
      (simp (maxSteps := 2000000) (disch := first | omega | assumption) [i64_in, tnS, Int.toNat_add, Int.toNat_mul, List.getElem?_cons_zero, List.getElem_cons_zero, hlt', hlt, hg, encOut, encFiles, encFile, h3'])
      refine hE _ _ (by simp) ?_
      (simp (maxSteps := 2000000) (disch := first | omega | assumption) [i64_in, tnS, Int.toNat_add, Int.toNat_mul, List.getElem?_cons_zero, List.getElem_cons_zero, Tryd.f8])
    have h3' : ¬ (300 : Int) < f.data.length := by omega
    by_cases h4 : 300 < f.path.length
    · have h4' : (300 : Int) < f.path.length := by omega
      (simp (maxSteps := 2000000) (disch := first | omega | assumption) [i64_in, tnS, Int.toNat_add, Int.toNat_mul, List.getElem?_cons_zero, List.getElem_cons_zero, hlt', hlt, hg, encOut, encFiles, encFile, h3', h4'])
      refine hE _ _ (by simp) ?_
      (simp (maxSteps := 2000000) (disch := first | omega | assumption) [i64_in, tnS, Int.toNat_add, Int.toNat_mul, List.getElem?_cons_zero, List.getElem_cons_zero, Tryd.f8])
    have h4' : ¬ (300 : Int) < f.path.length := by omega
    (simp (maxSteps := 2000000) (disch := first | omega | assumption) [i64_in, tnS, Int.toNat_add, Int.toNat_mul, List.getElem?_cons_zero, List.getElem_cons_zero, hlt', hlt, hg, encOut, encFiles, encFile, h3', h4'])
    refine hN _ (k+1) ?_ ⟨by omega, fun x hx => ?_⟩ (by omega)
    · refine Le.of ?_ ?_ ?_ ?_ ?_ <;> simp [leTV, locsIn, encDigs, encTraces, encWant, encTrace, encReads, encRead, encMades, encMade, encOut, encFiles] <;> try omega
    · rcases hnx x hx with h | rfl
      · exact hpre x h
      · omega
  have hkn : k = outs.length := by omega
  have hlt' : ¬ (k : Int) < outs.length := by omega
  rw [List.take_of_length_le (by omega)] at hpre
  (simp (maxSteps := 2000000) (disch := first | omega | assumption) [i64_in, tnS, Int.toNat_add, Int.toNat_mul, List.getElem?_cons_zero, List.getElem_cons_zero, hlt', encOut, encFiles])
  refine hE _ _ (by simp) ?_
  clear hN hE
  (simp (maxSteps := 2000000) (disch := first | omega | assumption) [i64_in, tnS, Int.toNat_add, Int.toNat_mul, List.getElem?_cons_zero, List.getElem_cons_zero])
  refine AT.loop' (α := Nat) (fun k => St.of [(2, .loc 2 []), (3, .loc 3 []), (6, .av (.int .i64) (.i .i64 k))] [(2, (tyOf Tryd.prog 24, encD key)), (3, (tyOf Tryd.prog 56, encOut ⟨kind, why, outs, reads⟩))] (fun _ => 0) [])
    (fun k => k ≤ reads.length ∧ ∀ f ∈ reads.take k, f.path.length ≤ 300) (fun k => reads.length - k) 0 ?_ ?_ ?_
  · refine Le.of ?_ ?_ ?_ ?_ ?_ <;> simp [leTV, locsIn, encDigs, encTraces, encWant, encTrace, encReads, encRead, encMades, encMade, encOut, encReads, encFiles] <;> try omega
  · simp
  rintro k2 ⟨hk2, hpre2⟩ KL2 hN hE
  refine vc_sound (cf := cf0) laid mixed _ _ _ (by kernel_rfl) ?_
  by_cases hlt2 : k2 < reads.length
  · have hlt2' : (k2 : Int) < reads.length := by omega
    have hg := map_get encRead reads k2 hlt2
    have hd := hr2 reads[k2] (List.getElem_mem hlt2)
    have hnx : ∀ f ∈ reads.take (k2+1), f ∈ reads.take k2 ∨ f = reads[k2] := by
      intro f hf
      rw [List.take_succ_eq_append_getElem hlt2] at hf
      rcases List.mem_append.1 hf with h | h
      · exact .inl h
      · exact .inr (by simpa using h)
    obtain ⟨f, hf⟩ : ∃ f, f = reads[k2] := ⟨_, rfl⟩
    rw [← hf] at hg hd hnx
    clear hf
    by_cases h4 : 300 < f.path.length
    · have h4' : (300 : Int) < f.path.length := by omega
      (simp (maxSteps := 2000000) (disch := first | omega | assumption) [i64_in, tnS, Int.toNat_add, Int.toNat_mul, List.getElem?_cons_zero, List.getElem_cons_zero, hlt2', hlt2, hg, encOut, encReads, encRead, h4'])
      refine hE _ _ (by simp) ?_
      (simp (maxSteps := 2000000) (disch := first | omega | assumption) [i64_in, tnS, Int.toNat_add, Int.toNat_mul, List.getElem?_cons_zero, List.getElem_cons_zero, Tryd.f8])
    have h4' : ¬ (300 : Int) < f.path.length := by omega
    (simp (maxSteps := 2000000) (disch := first | omega | assumption) [i64_in, tnS, Int.toNat_add, Int.toNat_mul, List.getElem?_cons_zero, List.getElem_cons_zero, hlt2', hlt2, hg, encOut, encReads, encRead, h4'])
    refine hN _ (k2+1) ?_ ⟨by omega, fun x hx => ?_⟩ (by omega)
    · refine Le.of ?_ ?_ ?_ ?_ ?_ <;> simp [leTV, locsIn, encDigs, encTraces, encWant, encTrace, encReads, encRead, encMades, encMade, encOut, encReads] <;> try omega
    · rcases hnx x hx with h | rfl
      · exact hpre2 x h
      · omega
  have hkn2 : k2 = reads.length := by omega
  have hlt2' : ¬ (k2 : Int) < reads.length := by omega
  rw [List.take_of_length_le (by omega)] at hpre2
  (simp (maxSteps := 2000000) (disch := first | omega | assumption) [i64_in, tnS, Int.toNat_add, Int.toNat_mul, List.getElem?_cons_zero, List.getElem_cons_zero, hlt2', encOut, encReads])
  refine hE _ _ (by simp) ?_
  clear hN hE
  have hok : OutOK ⟨kind, why, outs, reads⟩ := ⟨by simp only; omega, by simp only; omega, fun r hr => Nat.le_trans (hpre2 r hr) (by decide), fun f hf => ⟨Nat.le_trans (hpre f hf).1 (by decide), Nat.le_trans (hpre f hf).2 (by decide)⟩⟩
  obtain ⟨t, ht⟩ : ∃ t, t = ofT key ⟨kind, why, outs, reads⟩ := ⟨_, rfl⟩
  have hss : sameV t t = true := sameV_iff.2 rfl
  have htk : TrOK t := by
    rw [ht]
    unfold ofT
    split
    · exact ⟨by decide, by decide⟩
    · split
      · exact ⟨by simp only [trOf]; omega, by simp only [trOf, List.length_map]; omega⟩
      · exact ⟨by decide, by decide⟩
  (simp (maxSteps := 2000000) (disch := first | omega | assumption) [i64_in, tnS, Int.toNat_add, Int.toNat_mul, List.getElem?_cons_zero, List.getElem_cons_zero, encOut])
  refine callV_pc (of_ok key _ hok) rfl rfl (by simp) (by simp [argLe, TV.er, encOut, encReads, encFiles, AV.ers_eq, Function.comp_def]) ?_
  (simp (maxSteps := 2000000) (disch := first | omega | assumption) [i64_in, tnS, Int.toNat_add, Int.toNat_mul, List.getElem?_cons_zero, List.getElem_cons_zero, ofTV, ← ht])
  refine callV_pc (rof_ok key _ hok) rfl rfl (by simp) (by simp [argLe, TV.er, encOut, encReads, encFiles, AV.ers_eq, Function.comp_def]) ?_
  (simp (maxSteps := 2000000) (disch := first | omega | assumption) [i64_in, tnS, Int.toNat_add, Int.toNat_mul, List.getElem?_cons_zero, List.getElem_cons_zero, ofTV, ← ht])
  refine callV_pc (rsame_ok t t htk htk) rfl rfl (by simp) (by simp [argLe, TV.er]) ?_
  (simp (maxSteps := 2000000) (disch := first | omega | assumption) [i64_in, tnS, Int.toNat_add, Int.toNat_mul, List.getElem?_cons_zero, List.getElem_cons_zero, hss, Tryd.f8])
end Go.Proofs.YtmkpbigaafemnaaDoor
