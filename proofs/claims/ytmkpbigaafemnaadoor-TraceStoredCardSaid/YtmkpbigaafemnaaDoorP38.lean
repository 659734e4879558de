/- The law TraceStored: the program. No condition beyond each theorem's own. -/
import Derived.Test.YtmkpbigaafemnaaDoorP36
import Derived.Test.YtmkpbigaafemnaaDoorP37
set_option linter.unusedSimpArgs false
set_option linter.unusedVariables false
set_option linter.unusedSectionVars false
set_option maxRecDepth 100000
/-! The law TraceStored: the program. -/
namespace Go.Proofs.YtmkpbigaafemnaaDoor
open Go Go.Ab
open Classical
attribute [local simp] vc_skip vc_label vc_region vc_drawn vc_seq vc_cond vc_block vc_exit vc_goto vc_ret vc_loop vc_scope vcOps_nil vcOps_cons vcPs_nil vcPs_cons vcDs_nil vcDs_cons vcD impB mkd wkOf isCallV rdOK_eq rdO_nil rdO_tmp rdO_const rdO_global rdO_func rdL_nil rdL_cons rdT_av rdT_cst rdT_pel rdT_tup rdT_junk rdT_loc St.app Op.operands Call.operands vcG_eq iteP wkOf isCallV vcOp putK_eq pureV ev co coC asI asB asS isNil nkOf derefV fieldAddrV indexAddrV indexV lowV boundsV sliceV pickV_eq unV convV convB bytesOf capOf lenV minV withSrc slice3V lookupV mapOf mfind mput scalT mapUpdV makeSliceV appendM appendN growM growOK zM binI isConst binV St.put upd KSeq_n KSeq_x KSeq_g KSeq_r KBlock_n KBlock_x KBlock_g KBlock_r KScope_n KScope_x KScope_r KRet_n KRet_r resL retTV TV.er AV.er AV.ers AV.erk AV.erks Tok.k Heap.er_nil Heap.er_cons Heap.er_app HObj.er_var HObj.er_map Heap.keys_nil Heap.keys_cons Heap.keys_app hget hset subT getP setP_nil setP_one setP_two setPo_some storeV buildV buildL partsOf capTV argOK entry St.of lk_nil lk_cons leLoc siterOf_siter gB_undef gB_av gB_cst undef isNE_tmp isSlT nslD nslDs mslOf mstrV copyV copyK unsV ustrV hdel dataV sameP mtbD isSlN slNilV vcDo_nil vcDo_cons isLt sft sftD softV

@[simp] theorem fnok9 : fnOK Tryd.prog 9 = true := by kernel_rfl
@[simp] theorem isne9 : isNE Tryd.prog (.func 9) = false := isNE_func fnok9
def StInv (l : List (Dig × List UInt8)) (ds : List FileV) : Prop := (∀ p ∈ l, ∃ x ∈ ds, p = (sha x.data, x.data)) ∧ ∀ x ∈ ds, (l.find? fun p => decide (p.1 = sha x.data)) = some (sha x.data, x.data)
theorem StInv.step {l : List (Dig × List UInt8)} {ds : List FileV} {x : FileV} (h : StInv l ds) (hx : ∀ y ∈ ds, x.data = y.data ∨ sha x.data ≠ sha y.data) : StInv (putL (sha x.data) x.data l) (ds ++ [x]) := by
  obtain ⟨h1, h2⟩ := h
  cases hf : l.find? (fun p => decide (p.1 = sha x.data)) with
  | some p =>
    have hpl : putL (sha x.data) x.data l = l := by simp only [putL, hf]
    rw [hpl]
    have hpm := List.mem_of_find?_eq_some hf
    have hp1 : p.1 = sha x.data := by simpa using List.find?_some hf
    obtain ⟨y, hy, rfl⟩ := h1 p hpm
    have hxy : x.data = y.data := by
      rcases hx y hy with h | h
      · exact h
      · exact absurd hp1.symm h
    refine ⟨fun q hq => ?_, fun z hz => ?_⟩
    · obtain ⟨w, hw, e⟩ := h1 q hq
      exact ⟨w, List.mem_append_left _ hw, e⟩
    · rcases List.mem_append.1 hz with hz | hz
      · exact h2 z hz
      · rw [List.mem_singleton] at hz
        subst hz
        rw [hf, hxy]
  | none =>
    have hpl : putL (sha x.data) x.data l = l ++ [(sha x.data, x.data)] := by simp only [putL, hf]
    rw [hpl]
    refine ⟨fun q hq => ?_, fun z hz => ?_⟩
    · rcases List.mem_append.1 hq with hq | hq
      · obtain ⟨w, hw, e⟩ := h1 q hq
        exact ⟨w, List.mem_append_left _ hw, e⟩
      · rw [List.mem_singleton] at hq
        exact ⟨x, by simp, hq⟩
    · rw [List.find?_append]
      rcases List.mem_append.1 hz with hz | hz
      · rw [h2 z hz]; rfl
      · rw [List.mem_singleton] at hz
        subst hz
        rw [hf]; simp
set_option maxHeartbeats 8000000 in
theorem traceStored_ok (key : Dig) (outs : List FileV) (ho1 : outs.length ≤ maxLen) (ho2 : ∀ f ∈ outs, okF f) :
    PC Tryd.prog 9 [.av (tyOf Tryd.prog 24) (encD key), .av (tyOf Tryd.prog 54) (encFiles outs)] (.av .bool (.b true)) := by
  have hx := max63
  replace ho2 : ∀ f ∈ outs, f.path.length ≤ 9223372036854775807 ∧ f.data.length ≤ 9223372036854775807 := fun f hf => ⟨Nat.le_trans (ho2 f hf).1 hx, Nat.le_trans (ho2 f hf).2 hx⟩
  replace ho1 := Nat.le_trans ho1 hx
  clear hx
  refine PC.of <| ACalls.of_vc laid mixed Tryd.func9 rfl (by kernel_rfl) cf0 (by simp [Tryd.ntmps9]) fun imm0 w0 => ?_
  (simp (maxSteps := 2000000) (disch := first | omega | assumption) [i64_in, tnS, Int.toNat_add, Int.toNat_mul, List.getElem?_cons_zero, List.getElem_cons_zero])
  refine callV_pc alive_ok rfl rfl (by simp) (by simp [argLe, TV.er, AV.er]) ?_
  by_cases h1 : 30 < outs.length
  · have h1' : (30 : Int) < outs.length := by omega
    (simp (maxSteps := 2000000) (disch := first | omega | assumption) [i64_in, tnS, Int.toNat_add, Int.toNat_mul, List.getElem?_cons_zero, List.getElem_cons_zero, encFiles, h1', Tryd.f9])
  have h1' : ¬ (30 : Int) < outs.length := by omega
  (simp (maxSteps := 2000000) (disch := first | omega | assumption) [i64_in, tnS, Int.toNat_add, Int.toNat_mul, List.getElem?_cons_zero, List.getElem_cons_zero, encFiles, h1'])
  refine callV_all (R := fun r H' => ∃ B M, M ≠ B ∧ r = .av .ptr (.ptr B StoreT []) ∧ H' = stO B M [] 0) rfl (by simp [argOK]) (by simp) ?_ ?_
  · simpa [Heap.er_nil] using snew_ok
  rintro r H' ⟨B, M, hBM, rfl, rfl⟩
  (simp (maxSteps := 2000000) (disch := first | omega | assumption) [i64_in, tnS, Int.toNat_add, Int.toNat_mul, List.getElem?_cons_zero, List.getElem_cons_zero])
  refine AT.loopV (α := Nat × List (Dig × List UInt8) × Int) (fun k ver => St.of [(1, .av (.slice 58) (.sl .no (outs.map encFile))), (2, .loc 2 []), (5, .av .ptr (.ptr B StoreT [])), (6, .av (.int .i64) (.i .i64 k.1))] [(2, (tyOf Tryd.prog 24, encD key))] ver (stO B M k.2.1 k.2.2))
    (fun k => k.1 ≤ outs.length ∧ (∀ f ∈ outs.take k.1, f.path.length ≤ 300 ∧ f.data.length ≤ 300) ∧ StInv k.2.1 (outs.take k.1)) (fun k => outs.length - k.1) (0, [], 0) ?_ ?_ ?_
  · refine Le.of ?_ ?_ ?_ ?_ ?_ <;> simp [leTV, locsIn, encDigs, encTraces, encWant, encTrace, encReads, encRead, encMades, encMade, ] <;> try omega
  · simp [StInv]
  rintro ⟨i, l, n⟩ ver ⟨hk, hpre, hinv⟩ KL hN hE
  simp only at hk hpre hinv hN
  refine vc_sound (cf := cf0) laid mixed _ _ _ (by kernel_rfl) ?_
  by_cases hlt : i < outs.length
  · have hlt' : (i : Int) < outs.length := by omega
    have hg := map_getF outs i hlt
    have hd := ho2 outs[i] (List.getElem_mem hlt)
    have hnx : outs.take (i+1) = outs.take i ++ [outs[i]] := List.take_succ_eq_append_getElem hlt
    obtain ⟨f, hf⟩ : ∃ f, f = outs[i] := ⟨_, rfl⟩
    rw [← hf] at hg hd hnx
    clear hf
    by_cases h3 : 300 < f.data.length
    · have h3' : (300 : Int) < f.data.length := by omega
      (simp (maxSteps := 2000000) (disch := first | omega | assumption) [i64_in, tnS, Int.toNat_add, Int.toNat_mul, List.getElem?_cons_zero, List.getElem_cons_zero, hlt', hlt, hg, encFile, h3'])
      refine hE _ _ (by simp) ?_
      (simp (maxSteps := 2000000) (disch := first | omega | assumption) [i64_in, tnS, Int.toNat_add, Int.toNat_mul, List.getElem?_cons_zero, List.getElem_cons_zero, Tryd.f9])
    have h3' : ¬ (300 : Int) < f.data.length := by omega
    by_cases h4 : 300 < f.path.length
    · have h4' : (300 : Int) < f.path.length := by omega
      (simp (maxSteps := 2000000) (disch := first | omega | assumption) [i64_in, tnS, Int.toNat_add, Int.toNat_mul, List.getElem?_cons_zero, List.getElem_cons_zero, hlt', hlt, hg, encFile, h3', h4'])
      refine hE _ _ (by simp) ?_
      (simp (maxSteps := 2000000) (disch := first | omega | assumption) [i64_in, tnS, Int.toNat_add, Int.toNat_mul, List.getElem?_cons_zero, List.getElem_cons_zero, Tryd.f9])
    have h4' : ¬ (300 : Int) < f.path.length := by omega
    (simp (maxSteps := 2000000) (disch := first | omega | assumption) [i64_in, tnS, Int.toNat_add, Int.toNat_mul, List.getElem?_cons_zero, List.getElem_cons_zero, hlt', hlt, hg, encFile, h3', h4'])
    have hpf : ∀ y ∈ outs.take (i+1), y.path.length ≤ 300 ∧ y.data.length ≤ 300 := by
      intro y hy
      rw [hnx] at hy
      rcases List.mem_append.1 hy with h | h
      · exact hpre y h
      · rw [List.mem_singleton] at h; subst h; omega
    refine AT.loopV (α := Nat) (fun j ver => St.of [(1, .av (.slice 58) (.sl .no (outs.map encFile))), (2, .loc 2 []), (5, .av .ptr (.ptr B StoreT [])), (6, .av (.int .i64) (.i .i64 i)), (7, .av (.int .i64) (.i .i64 j))] [(2, (tyOf Tryd.prog 24, encD key))] ver (stO B M l n))
      (fun j => j ≤ i ∧ ∀ y ∈ outs.take j, f.data = y.data ∨ sha f.data ≠ sha y.data) (fun j => i - j) 0 ?_ ?_ ?_
    · refine Le.of ?_ ?_ ?_ ?_ ?_ <;> simp [leTV, locsIn, encDigs, encTraces, encWant, encTrace, encReads, encRead, encMades, encMade, ] <;> try omega
    · simp
    rintro j ver2 ⟨hj, hun⟩ KL2 hN2 hE2
    refine vc_sound (cf := cf0) laid mixed _ _ _ (by kernel_rfl) ?_
    by_cases hji : j < i
    · have hji' : (j : Int) < i := by omega
      have hjl : j < outs.length := by omega
      have hgj := map_getF outs j hjl
      have hdj := ho2 outs[j] (List.getElem_mem hjl)
      have hdj2 : outs[j].data.length ≤ 300 := (hpre outs[j] (by rw [List.mem_take_iff_getElem]; exact ⟨j, by omega, rfl⟩)).2
      have hnj : outs.take (j+1) = outs.take j ++ [outs[j]] := List.take_succ_eq_append_getElem hjl
      obtain ⟨y, hy⟩ : ∃ y, y = outs[j] := ⟨_, rfl⟩
      rw [← hy] at hgj hdj hdj2 hnj
      clear hy
      by_cases hfy : f.data = y.data
      · (simp (maxSteps := 2000000) (disch := first | omega | assumption) [i64_in, tnS, Int.toNat_add, Int.toNat_mul, List.getElem?_cons_zero, List.getElem_cons_zero, hji', hlt, hjl, hg, hgj, encFile, hfy])
        refine hN2 _ (j+1) ?_ ⟨by omega, fun z hz => ?_⟩ (by omega)
        · refine Le.of ?_ ?_ ?_ ?_ ?_ <;> simp [leTV, locsIn, encDigs, encTraces, encWant, encTrace, encReads, encRead, encMades, encMade, ] <;> try omega
        · rw [hnj] at hz
          rcases List.mem_append.1 hz with h | h
          · exact hun z h
          · rw [List.mem_singleton] at h; subst h; exact .inl hfy
      · (simp (maxSteps := 2000000) (disch := first | omega | assumption) [i64_in, tnS, Int.toNat_add, Int.toNat_mul, List.getElem?_cons_zero, List.getElem_cons_zero, hji', hlt, hjl, hg, hgj, encFile, hfy])
        refine callD_pc (sum_ok f.data (by omega)) rfl rfl (by simp) (by simp [argLe, TV.er, AV.er, AV.ers, strs1]) ?_
        (simp (maxSteps := 2000000) (disch := first | omega | assumption) [i64_in, tnS, Int.toNat_add, Int.toNat_mul, List.getElem?_cons_zero, List.getElem_cons_zero, hlt, hjl, hg, hgj, encFile, hfy])
        refine callD_pc (sum_ok y.data (by omega)) rfl rfl (by simp) (by simp [argLe, TV.er, AV.er, AV.ers, strs1]) ?_
        by_cases hs : sha f.data = sha y.data
        · (simp (maxSteps := 2000000) (disch := first | omega | assumption) [i64_in, tnS, Int.toNat_add, Int.toNat_mul, List.getElem?_cons_zero, List.getElem_cons_zero, hs, encD])
          refine hE2 _ _ (by simp) ?_
          (simp (maxSteps := 2000000) (disch := first | omega | assumption) [i64_in, tnS, Int.toNat_add, Int.toNat_mul, List.getElem?_cons_zero, List.getElem_cons_zero])
          refine hE _ _ (by simp) ?_
          (simp (maxSteps := 2000000) (disch := first | omega | assumption) [i64_in, tnS, Int.toNat_add, Int.toNat_mul, List.getElem?_cons_zero, List.getElem_cons_zero, Tryd.f9])
        · (simp (maxSteps := 2000000) (disch := first | omega | assumption) [i64_in, tnS, Int.toNat_add, Int.toNat_mul, List.getElem?_cons_zero, List.getElem_cons_zero, hs, encD, encD_inj'])
          refine hN2 _ (j+1) ?_ ⟨by omega, fun z hz => ?_⟩ (by omega)
          · refine Le.of ?_ ?_ ?_ ?_ ?_ <;> simp [leTV, locsIn, encDigs, encTraces, encWant, encTrace, encReads, encRead, encMades, encMade, encD] <;> try omega
          · rw [hnj] at hz
            rcases List.mem_append.1 hz with h | h
            · exact hun z h
            · rw [List.mem_singleton] at h; subst h; exact .inr hs
    have hji' : ¬ (j : Int) < i := by omega
    have hje : j = i := by omega
    subst hje
    (simp (maxSteps := 2000000) (disch := first | omega | assumption) [i64_in, tnS, Int.toNat_add, Int.toNat_mul, List.getElem?_cons_zero, List.getElem_cons_zero, hji'])
    refine hE2 _ _ (by simp) ?_
    (simp (maxSteps := 2000000) (disch := first | omega | assumption) [i64_in, tnS, Int.toNat_add, Int.toNat_mul, List.getElem?_cons_zero, List.getElem_cons_zero, hlt, hg, encFile])
    refine callV_all (R := fun r H' => r = .av (tyOf Tryd.prog 24) (encD (sha f.data)) ∧ ∃ n', H' = stO B M (putL (sha f.data) f.data l) n') rfl (by simp [argOK]) (by simp) ?_ ?_
    · simpa [TV.er, AV.er] using sput_ok B M hBM l n f.data (by omega)
    rintro r H' ⟨rfl, n', rfl⟩
    (simp (maxSteps := 2000000) (disch := first | omega | assumption) [i64_in, tnS, Int.toNat_add, Int.toNat_mul, List.getElem?_cons_zero, List.getElem_cons_zero])
    refine hN _ (j+1, putL (sha f.data) f.data l, n') ?_ ⟨by omega, hpf, ?_⟩ (by simp only; omega)
    · refine Le.of ?_ ?_ ?_ ?_ ?_ <;> simp [leTV, locsIn, encDigs, encTraces, encWant, encTrace, encReads, encRead, encMades, encMade, ] <;> try omega
    · simp only
      rw [hnx]
      exact hinv.step hun
  have hkn : i = outs.length := by omega
  have hlt' : ¬ (i : Int) < outs.length := by omega
  rw [List.take_of_length_le (by omega)] at hpre hinv
  (simp (maxSteps := 2000000) (disch := first | omega | assumption) [i64_in, tnS, Int.toNat_add, Int.toNat_mul, List.getElem?_cons_zero, List.getElem_cons_zero, hlt'])
  refine hE _ _ (by simp) ?_
  clear hN hE
  have hok : OutOK ⟨1, 0, outs, []⟩ := ⟨by simp, by simp only; omega, by simp, fun f hf => ⟨Nat.le_trans (hpre f hf).1 (by decide), Nat.le_trans (hpre f hf).2 (by decide)⟩⟩
  obtain ⟨T, hT⟩ : ∃ T, T = ofT key ⟨1, 0, outs, []⟩ := ⟨_, rfl⟩
  obtain ⟨e, he⟩ : ∃ e, e = ofE key ⟨1, 0, outs, []⟩ := ⟨_, rfl⟩
  have hof := of_ok key _ hok
  simp only [ofTV, ← hT, ← he] at hof
  (simp (maxSteps := 2000000) (disch := first | omega | assumption) [i64_in, tnS, Int.toNat_add, Int.toNat_mul, List.getElem?_cons_zero, List.getElem_cons_zero])
  refine callV_pc hof rfl rfl (by simp) (by simp [argLe, TV.er, encOut, encReads, encFiles, AV.er, AV.ers, AV.ers_eq, Function.comp_def]) ?_
  by_cases he0 : e = 0
  rotate_left
  · (simp (maxSteps := 2000000) (disch := first | omega | assumption) [i64_in, tnS, Int.toNat_add, Int.toNat_mul, List.getElem?_cons_zero, List.getElem_cons_zero, he0, Tryd.f9])
  have hc : checkV (trOf key ⟨1, 0, outs, []⟩) = 0 := by rw [he] at he0; simpa [ofE] using he0
  have hT2 : T = ⟨key, [], outs.map mdOf⟩ := by
    rw [hT, ofT, if_neg (by simp), if_pos hc]; rfl
  subst hT2
  have hml : (outs.map mdOf).length = outs.length := by simp
  (simp (maxSteps := 2000000) (disch := first | omega | assumption) [i64_in, tnS, Int.toNat_add, Int.toNat_mul, List.getElem?_cons_zero, List.getElem_cons_zero, he0, encTrace, encReads, encMades, encD])
  refine AT.loopV (α := Nat) (fun k ver => St.of [(1, .av (.slice 58) (.sl .no (outs.map encFile))), (5, .av .ptr (.ptr B StoreT [])), (8, .loc 8 []), (10, .av (.int .i64) (.i .i64 k))] [(8, (tyOf Tryd.prog 28, .agg [encD key, .sl .no [], .sl .no (outs.map (encMade ∘ mdOf))]))] ver (stO B M l n))
    (fun k => k ≤ outs.length) (fun k => outs.length - k) 0 ?_ ?_ ?_
  · refine Le.of ?_ ?_ ?_ ?_ ?_ <;> simp [leTV, locsIn, encDigs, encTraces, encWant, encTrace, encReads, encRead, encMades, encMade, encD] <;> try omega
  · simp
  rintro k ver2 hk2 KL2 hN hE
  refine vc_sound (cf := cf0) laid mixed _ _ _ (by kernel_rfl) ?_
  by_cases hlt2 : k < outs.length
  · have hlt2' : (k : Int) < outs.length := by omega
    have hg := map_getF outs k hlt2
    have hgm : (outs.map (encMade ∘ mdOf))[k]? = some (.agg [.s outs[k].path, encD (sha outs[k].data)]) := by
      rw [List.getElem?_map, List.getElem?_eq_getElem hlt2]; rfl
    have hfd := hinv.2 outs[k] (List.getElem_mem hlt2)
    have hd := hpre outs[k] (List.getElem_mem hlt2)
    obtain ⟨f, hf⟩ : ∃ f, f = outs[k] := ⟨_, rfl⟩
    rw [← hf] at hg hgm hfd hd
    clear hf
    (simp (maxSteps := 2000000) (disch := first | omega | assumption) [i64_in, tnS, Int.toNat_add, Int.toNat_mul, List.getElem?_cons_zero, List.getElem_cons_zero, hlt2', hlt2, hgm])
    refine callV_all (R := fun r H' => r = .tup [(.str, .s f.data), (.bool, .b true)] ∧ H' = stO B M l n) rfl (by simp [argOK]) (by simp) ?_ ?_
    · have := sget_ok B M hBM l n (sha f.data)
      simpa [TV.er, AV.er, hfd] using this
    rintro r H' ⟨rfl, rfl⟩
    (simp (maxSteps := 2000000) (disch := first | omega | assumption) [i64_in, tnS, Int.toNat_add, Int.toNat_mul, List.getElem?_cons_zero, List.getElem_cons_zero, hlt2, hgm, hg, encFile])
    (repeat ((with_reducible refine And.intro ?_ ?_); (· first | omega | (show barB _ _ = true; kernel_rfl) | (show rdJ _ _ _ _ _ = true; kernel_rfl) | (show tailB _ _ _ = true; kernel_rfl) | (show sftB _ _ _ = true; kernel_rfl))))
    refine callD_pc (scheck_ok (sha f.data) f.data (by omega)) rfl rfl (by simp) (by simp [argLe, TV.er, AV.er]) ?_
    (simp (maxSteps := 2000000) (disch := first | omega | assumption) [i64_in, tnS, Int.toNat_add, Int.toNat_mul, List.getElem?_cons_zero, List.getElem_cons_zero])
    (repeat ((with_reducible refine And.intro ?_ ?_); (· first | omega | (show barB _ _ = true; kernel_rfl) | (show rdJ _ _ _ _ _ = true; kernel_rfl) | (show tailB _ _ _ = true; kernel_rfl) | (show sftB _ _ _ = true; kernel_rfl))))
    refine hN _ (k+1) ?_ (by omega) (by omega)
    refine Le.of ?_ ?_ ?_ ?_ ?_ <;> simp [leTV, locsIn, encDigs, encTraces, encWant, encTrace, encReads, encRead, encMades, encMade, encD] <;> try omega
  have hkn2 : k = outs.length := by omega
  have hlt2' : ¬ (k : Int) < outs.length := by omega
  (simp (maxSteps := 2000000) (disch := first | omega | assumption) [i64_in, tnS, Int.toNat_add, Int.toNat_mul, List.getElem?_cons_zero, List.getElem_cons_zero, hlt2'])
  refine hE _ _ (by simp) ?_
  (simp (maxSteps := 2000000) (disch := first | omega | assumption) [i64_in, tnS, Int.toNat_add, Int.toNat_mul, List.getElem?_cons_zero, List.getElem_cons_zero, Tryd.f9])
end Go.Proofs.YtmkpbigaafemnaaDoor
