/- The program's SHA-256: the words of a block. No condition beyond each theorem's own. -/
import Derived.Test.YtmkpbigaafemnaaDoorS4
set_option linter.unusedSimpArgs false
set_option linter.unusedVariables false
set_option linter.unusedSectionVars false
set_option maxRecDepth 100000
/-! The program's SHA-256: the words of a block. -/
namespace Go.Proofs.YtmkpbigaafemnaaDoor
open Go Go.Ab
open Classical
attribute [local simp] vc_skip vc_label vc_region vc_drawn vc_seq vc_cond vc_block vc_exit vc_goto vc_ret vc_loop vc_scope vcOps_nil vcOps_cons vcPs_nil vcPs_cons vcDs_nil vcDs_cons vcD impB mkd wkOf isCallV rdOK_eq rdO_nil rdO_tmp rdO_const rdO_global rdO_func rdL_nil rdL_cons rdT_av rdT_cst rdT_pel rdT_tup rdT_junk rdT_loc St.app Op.operands Call.operands vcG_eq iteP wkOf isCallV vcOp putK_eq pureV ev co coC asI asB asS isNil nkOf derefV fieldAddrV indexAddrV indexV lowV boundsV sliceV pickV_eq unV convV convB bytesOf capOf lenV minV withSrc slice3V lookupV mapOf mfind mput scalT mapUpdV makeSliceV appendM appendN growM growOK zM binI isConst binV St.put upd KSeq_n KSeq_x KSeq_g KSeq_r KBlock_n KBlock_x KBlock_g KBlock_r KScope_n KScope_x KScope_r KRet_n KRet_r resL retTV TV.er AV.er AV.ers AV.erk AV.erks Tok.k Heap.er_nil Heap.er_cons Heap.er_app HObj.er_var HObj.er_map Heap.keys_nil Heap.keys_cons Heap.keys_app hget hset subT getP setP_nil setP_one setP_two setPo_some storeV buildV buildL partsOf capTV argOK entry St.of lk_nil lk_cons leLoc siterOf_siter gB_undef gB_av gB_cst undef isNE_tmp isSlT nslD nslDs mslOf mstrV copyV copyK unsV ustrV hdel dataV sameP mtbD isSlN slNilV vcDo_nil vcDo_cons isLt sft sftD softV

abbrev cfSp : Cfg := ⟨fun _ => false, fun n => n == 72⟩
theorem encW_0 : encW 0 = .i .u32 0 := rfl
set_option maxHeartbeats 4000000 in
theorem spread_ok (b : List UInt8) (hb : b.length = 64) :
    PC Tryd.prog 105 [.av (.slice 5) (encBs b)] (.av (.arr 64 129) (.agg ((sched b 64).map encW))) := by
  have hbe : encBs b = .sl .no (b.map fun b => .i .u8 b.toNat) := rfl
  refine PC.of <| ACalls.of_vc laid mixed Tryd.func105 rfl (by kernel_rfl) cfSp (by simp [Tryd.ntmps105]) fun imm0 w0 => ?_
  (simp (maxSteps := 2000000) (disch := first | omega | assumption) [i64_in, tnS, Int.toNat_add, Int.toNat_mul, List.getElem?_cons_zero, List.getElem_cons_zero, hbe, hb])
  refine AT.loopV (α := Nat) (fun k ver => St.of [(2, .loc 2 []), (3, .loc 3 []), (11, .av (.slice 5) (encBs b)), (12, .av (.int .i64) (.i .i64 64)), (13, .av (.int .i64) (.i .i64 k))] [(2, (.arr 64 129, .agg (List.replicate 64 (.i .u32 0)))), (3, (.arr 64 129, .agg ((fillW (spreadAt b k)).map encW)))] ver [])
    (fun k => k ≤ 64) (fun k => 64 - k) 0 ?_ ?_ ?_
  · refine Le.of ?_ ?_ ?_ ?_ ?_ <;> simp [leTV, locsIn, encDigs, encTraces, encWant, encTrace, encReads, encRead, encMades, encMade, spreadAt_zero, encW_0, hbe] <;> try omega
  · simp
  · rintro k ver hk KL hN hE
    refine vc_sound (cf := cfSp) laid mixed _ _ _ (by kernel_rfl) ?_
    by_cases hlt : k < 64
    · have hlt' : (k : Int) < 64 := by omega
      obtain ⟨q, hq⟩ : ∃ q : Nat, k / 4 = q := ⟨_, rfl⟩
      have hq' : (k : Int).tdiv 4 = (q : Int) := by rw [Int.tdiv_eq_ediv_of_nonneg (by omega)]; omega
      have hst := spreadAt_step b k hlt
      obtain ⟨W, hW⟩ : ∃ W, fillW (spreadAt b k) = W := ⟨_, rfl⟩
      have hWl : W.length = 64 := by rw [← hW]; exact fillW_len (by simp [spreadAt]; split <;> simp <;> omega)
      obtain ⟨x, hx⟩ : ∃ x, W[q]? = some x := ⟨_, List.getElem?_eq_getElem (by omega)⟩
      obtain ⟨y, hy⟩ : ∃ x, b[k]? = some x := ⟨_, List.getElem?_eq_getElem (by omega)⟩
      have gx : ∀ g : q < W.length, W[q] = x := fun g => by rw [List.getElem?_eq_getElem g] at hx; simpa using hx
      have gy : ∀ g : k < b.length, b[k] = y := fun g => by rw [List.getElem?_eq_getElem g] at hy; simpa using hy
      rw [hW, hq, List.getD_eq_getElem?_getD, List.getD_eq_getElem?_getD, hx, hy] at hst
      have hs8 := wshl x (show 8 < 32 by omega)
      have hst' : (fillW (spreadAt b (k+1))).map encW = (W.map encW).set q (encW (x <<< UInt32.ofNat 8 ||| y.toUInt32)) := by rw [hst, List.map_set]; rfl
      (simp (maxSteps := 2000000) (disch := first | omega | assumption) [i64_in, tnS, Int.toNat_add, Int.toNat_mul, List.getElem?_cons_zero, List.getElem_cons_zero, hlt', hq', hbe, hW, gx, gy, hs8, wbyte, wor, -BitVec.toNat_or])
      (repeat ((with_reducible refine And.intro ?_ ?_); (· first | omega | (show barB _ _ = true; kernel_rfl) | (show rdJ _ _ _ _ _ = true; kernel_rfl) | (show tailB _ _ _ = true; kernel_rfl) | (show sftB _ _ _ = true; kernel_rfl))))
      refine hN _ (k+1) ?_ (by first | omega | (simp; done) | (simp; omega)) (by first | omega | (simp; done) | (simp; omega)); refine Le.of ?_ ?_ ?_ ?_ ?_ <;> simp [leTV, locsIn, encDigs, encTraces, encWant, encTrace, encReads, encRead, encMades, encMade, hst', hbe] <;> try omega
    · obtain rfl : k = 64 := by omega
      (simp (maxSteps := 2000000) (disch := first | omega | assumption) [i64_in, tnS, Int.toNat_add, Int.toNat_mul, List.getElem?_cons_zero, List.getElem_cons_zero])
      refine hE _ _ (by simp) ?_
      (simp (maxSteps := 2000000) (disch := first | omega | assumption) [i64_in, tnS, Int.toNat_add, Int.toNat_mul, List.getElem?_cons_zero, List.getElem_cons_zero])
      refine AT.loopV (α := Nat) (fun k ver => St.of [(2, .loc 2 []), (3, .loc 3 []), (6, .av (.int .i64) (.i .i64 k))] [(2, (.arr 64 129, .agg (List.replicate 64 (.i .u32 0)))), (3, (.arr 64 129, .agg ((fillW (sched b k)).map encW)))] ver [])
        (fun k => 16 ≤ k ∧ k ≤ 64) (fun k => 64 - k) 16 ?_ ?_ ?_
      · refine Le.of ?_ ?_ ?_ ?_ ?_ <;> simp [leTV, locsIn, encDigs, encTraces, encWant, encTrace, encReads, encRead, encMades, encMade, spreadAt_end] <;> try omega
      · simp
      · rintro k ver2 ⟨h16, hk⟩ KL2 hN2 hE2
        refine vc_sound (cf := cfSp) laid mixed _ _ _ (by kernel_rfl) ?_
        by_cases hkt : k < 64
        · obtain ⟨m, rfl⟩ : ∃ m, k = m + 16 := ⟨k - 16, by omega⟩
          have hfs := fillW_sched b (m+16) hkt h16
          have hWl := sched_len b (m+16)
          have hk' : (m : Int) + 16 < 64 := by omega
          obtain ⟨W, hW⟩ : ∃ W, sched b (m+16) = W := ⟨_, rfl⟩
          rw [hW] at hfs hWl
          obtain ⟨F, hF⟩ : ∃ F, fillW W = F := ⟨_, rfl⟩
          have hFl : F.length = 64 := by rw [← hF]; exact fillW_len (by omega)
          have hget : ∀ i, i < m + 16 → F[i]? = W[i]? := fun i hi => by rw [← hF, fillW, List.getElem?_append_left (by omega)]
          obtain ⟨x16, h16e⟩ : ∃ x, W[m]? = some x := ⟨_, List.getElem?_eq_getElem (by omega)⟩
          obtain ⟨x15, h15e⟩ : ∃ x, W[m+1]? = some x := ⟨_, List.getElem?_eq_getElem (by omega)⟩
          obtain ⟨x7, h7e⟩ : ∃ x, W[m+9]? = some x := ⟨_, List.getElem?_eq_getElem (by omega)⟩
          obtain ⟨x2, h2e⟩ : ∃ x, W[m+14]? = some x := ⟨_, List.getElem?_eq_getElem (by omega)⟩
          have g16 : ∀ h : m < F.length, F[m] = x16 := fun h => by have := (hget m (by omega)).trans h16e; rw [List.getElem?_eq_getElem h] at this; simpa using this
          have g15 : ∀ h : m+1 < F.length, F[m+1] = x15 := fun h => by have := (hget (m+1) (by omega)).trans h15e; rw [List.getElem?_eq_getElem h] at this; simpa using this
          have g7 : ∀ h : m+9 < F.length, F[m+9] = x7 := fun h => by have := (hget (m+9) (by omega)).trans h7e; rw [List.getElem?_eq_getElem h] at this; simpa using this
          have g2 : ∀ h : m+14 < F.length, F[m+14] = x2 := fun h => by have := (hget (m+14) (by omega)).trans h2e; rw [List.getElem?_eq_getElem h] at this; simpa using this
          have w16 : ∀ h : m < W.length, W[m] = x16 := fun h => by rw [List.getElem?_eq_getElem h] at h16e; simpa using h16e
          have w15 : ∀ h : m+1 < W.length, W[m+1] = x15 := fun h => by rw [List.getElem?_eq_getElem h] at h15e; simpa using h15e
          have w7 : ∀ h : m+9 < W.length, W[m+9] = x7 := fun h => by rw [List.getElem?_eq_getElem h] at h7e; simpa using h7e
          have w2 : ∀ h : m+14 < W.length, W[m+14] = x2 := fun h => by rw [List.getElem?_eq_getElem h] at h2e; simpa using h2e
          have hX : nextW W = x16 + lo x15 + x7 + hi x2 := by simp [nextW, hWl, w16, w15, w7, w2]
          have hfs' : (fillW (sched b (m+17))).map encW = (F.map encW).set (m+16) (encW (x16 + lo x15 + x7 + hi x2)) := by rw [← hX, ← hF, show m + 17 = m + 16 + 1 by omega, hfs, List.map_set]
          (simp (maxSteps := 2000000) (disch := first | omega | assumption) [i64_in, tnS, Int.toNat_add, Int.toNat_mul, List.getElem?_cons_zero, List.getElem_cons_zero, hk', hW, hF, g15, g2])
          (repeat ((with_reducible refine And.intro ?_ ?_); (· first | omega | (show barB _ _ = true; kernel_rfl) | (show rdJ _ _ _ _ _ = true; kernel_rfl) | (show tailB _ _ _ = true; kernel_rfl) | (show sftB _ _ _ = true; kernel_rfl))))
          refine callV_pc (turned_ok x15 7 (by decide) (by decide)) rfl rfl (by simp) (by simp [argLe, coC, TV.er, AV.er]) ?_
          (simp (maxSteps := 2000000) (disch := first | omega | assumption) [i64_in, tnS, Int.toNat_add, Int.toNat_mul, List.getElem?_cons_zero, List.getElem_cons_zero])
          refine callV_pc (turned_ok x15 18 (by decide) (by decide)) rfl rfl (by simp) (by simp [argLe, coC, TV.er, AV.er]) ?_
          (simp (maxSteps := 2000000) (disch := first | omega | assumption) [i64_in, tnS, Int.toNat_add, Int.toNat_mul, List.getElem?_cons_zero, List.getElem_cons_zero, wxor, wshr, -BitVec.toNat_xor])
          refine callV_pc (turned_ok x2 17 (by decide) (by decide)) rfl rfl (by simp) (by simp [argLe, coC, TV.er, AV.er]) ?_
          (simp (maxSteps := 2000000) (disch := first | omega | assumption) [i64_in, tnS, Int.toNat_add, Int.toNat_mul, List.getElem?_cons_zero, List.getElem_cons_zero])
          refine callV_pc (turned_ok x2 19 (by decide) (by decide)) rfl rfl (by simp) (by simp [argLe, coC, TV.er, AV.er]) ?_
          (simp (maxSteps := 2000000) (disch := first | omega | assumption) [i64_in, tnS, Int.toNat_add, Int.toNat_mul, List.getElem?_cons_zero, List.getElem_cons_zero, wxor, wshr, wadd, g16, g7, -BitVec.toNat_xor])
          (repeat ((with_reducible refine And.intro ?_ ?_); (· first | omega | (show barB _ _ = true; kernel_rfl) | (show rdJ _ _ _ _ _ = true; kernel_rfl) | (show tailB _ _ _ = true; kernel_rfl) | (show sftB _ _ _ = true; kernel_rfl))))
          refine hN2 _ (m+17) ?_ (by omega) (by omega)
          refine Le.of ?_ ?_ ?_ ?_ ?_ <;> simp [leTV, locsIn, encDigs, encTraces, encWant, encTrace, encReads, encRead, encMades, encMade, hfs', lo, hi] <;> try omega
        · obtain rfl : k = 64 := by omega
          (simp (maxSteps := 2000000) (disch := first | omega | assumption) [i64_in, tnS, Int.toNat_add, Int.toNat_mul, List.getElem?_cons_zero, List.getElem_cons_zero])
          refine hE2 _ _ (by simp) ?_
          have hf64 : fillW (sched b 64) = sched b 64 := by simp [fillW]
          (simp (maxSteps := 2000000) (disch := first | omega | assumption) [i64_in, tnS, Int.toNat_add, Int.toNat_mul, List.getElem?_cons_zero, List.getElem_cons_zero, Tryd.f105, hf64])
          simp [AV.ers_eq, Function.comp_def, AV.er]
end Go.Proofs.YtmkpbigaafemnaaDoor
