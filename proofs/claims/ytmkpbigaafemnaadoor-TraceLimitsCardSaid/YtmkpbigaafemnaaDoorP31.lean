/- The law TraceLimits: the program. No condition beyond each theorem's own. -/
import Derived.Test.YtmkpbigaafemnaaDoorP30
set_option linter.unusedSimpArgs false
set_option linter.unusedVariables false
set_option linter.unusedSectionVars false
set_option maxRecDepth 100000
/-! The law TraceLimits: the program. -/
namespace Go.Proofs.YtmkpbigaafemnaaDoor
open Go Go.Ab
open Classical
attribute [local simp] vc_skip vc_label vc_region vc_drawn vc_seq vc_cond vc_block vc_exit vc_goto vc_ret vc_loop vc_scope vcOps_nil vcOps_cons vcPs_nil vcPs_cons vcDs_nil vcDs_cons vcD impB mkd wkOf isCallV rdOK_eq rdO_nil rdO_tmp rdO_const rdO_global rdO_func rdL_nil rdL_cons rdT_av rdT_cst rdT_pel rdT_tup rdT_junk rdT_loc St.app Op.operands Call.operands vcG_eq iteP wkOf isCallV vcOp putK_eq pureV ev co coC asI asB asS isNil nkOf derefV fieldAddrV indexAddrV indexV lowV boundsV sliceV pickV_eq unV convV convB bytesOf capOf lenV minV withSrc slice3V lookupV mapOf mfind mput scalT mapUpdV makeSliceV appendM appendN growM growOK zM binI isConst binV St.put upd KSeq_n KSeq_x KSeq_g KSeq_r KBlock_n KBlock_x KBlock_g KBlock_r KScope_n KScope_x KScope_r KRet_n KRet_r resL retTV TV.er AV.er AV.ers AV.erk AV.erks Tok.k Heap.er_nil Heap.er_cons Heap.er_app HObj.er_var HObj.er_map Heap.keys_nil Heap.keys_cons Heap.keys_app hget hset subT getP setP_nil setP_one setP_two setPo_some storeV buildV buildL partsOf capTV argOK entry St.of lk_nil lk_cons leLoc siterOf_siter gB_undef gB_av gB_cst undef isNE_tmp isSlT nslD nslDs mslOf mstrV copyV copyK unsV ustrV hdel dataV sameP mtbD

def tk (d : Nat) : Nat → Tok
  | 0 => .full
  | k+1 => .own d (k+1)
abbrev cfLim : Cfg := ⟨fun _ => false, fun n => n == 24 || n == 40⟩
set_option maxHeartbeats 4000000 in
theorem traceLimits_ok (r o : Nat) (hr : r < 65536) (ho : o < 65536) :
    PC Tryd.prog 4 [.av (.int .u16) (.i .u16 r), .av (.int .u16) (.i .u16 o)] (.av .bool (.b true)) := by
  refine PC.of <| ACalls.of_vc laid mixed Tryd.func4 rfl (by kernel_rfl) cfLim (by simp [Tryd.ntmps4]) fun imm0 w0 => ?_
  (simp (maxSteps := 2000000) (disch := first | omega | assumption) [i64_in, tnS, Int.toNat_add, Int.toNat_mul, List.getElem?_cons_zero, List.getElem_cons_zero])
  refine callV_pc alive_ok rfl rfl (by simp) (by simp [argLe, TV.er, AV.er]) ?_
  (simp (maxSteps := 2000000) (disch := first | omega | assumption) [i64_in, tnS, Int.toNat_add, Int.toNat_mul, List.getElem?_cons_zero, List.getElem_cons_zero])
  refine AT.loop' (α := Nat) (fun k => St.of [(0, .av (.int .u16) (.i .u16 r)), (1, .av (.int .u16) (.i .u16 o)), (5, .loc 5 []), (6, .av (.int .i64) (.i .i64 k))] [(5, (tyOf Tryd.prog 28, .agg [encD zero32, .sl (tk 23 k) ((List.range k).map fun i => encRead (nmR i)), .sl .full []]))] (fun j => if j = 23 then k else 0) [])
    (fun k => k ≤ r % 600) (fun k => 600 - k) 0 ?_ ?_ ?_
  · refine Le.of ?_ ?_ ?_ ?_ ?_ <;> simp [leTV, locsIn, encDigs, encTraces, encWant, encTrace, encReads, encRead, encMades, encMade, encD_zero, tk] <;> try omega
  · simp
  rintro k hk KL hN hE
  refine vc_sound (cf := cfLim) laid mixed _ _ _ (by kernel_rfl) ?_
  have hmod : ((r : Int).tmod 600) = ((r % 600 : Nat) : Int) := by
    rw [Int.tmod_eq_emod_of_nonneg (by omega)]; rfl
  have hpos : (0 : Int) ≤ (r : Int) % 600 := by omega
  have hrl : r % 600 < 600 := Nat.mod_lt _ (by omega)
  have hstep : ((List.range (k+1)).map fun i => encRead (nmR i)) = ((List.range k).map fun i => encRead (nmR i)) ++ [encRead (nmR k)] := by
    rw [List.range_succ, List.map_append]; rfl
  by_cases hlt : k < r % 600
  · cases k with
    | zero =>
      have hlt' : (0 : Int) < (r : Int) % 600 := by omega
      (simp (maxSteps := 2000000) (disch := first | omega | assumption) [i64_in, tnS, Int.toNat_add, Int.toNat_mul, List.getElem?_cons_zero, List.getElem_cons_zero, hmod, hlt', hlt, tk])
      (repeat ((with_reducible refine And.intro ?_ ?_); (· first | omega | (show barB _ _ = true; kernel_rfl) | (show rdJ _ _ _ _ _ = true; kernel_rfl))))
      refine callD_pc (name_ok 0 (by omega)) rfl rfl (by simp) (by simp [argLe, TV.er, AV.er]) ?_
      (simp (maxSteps := 2000000) (disch := first | omega | assumption) [i64_in, tnS, Int.toNat_add, Int.toNat_mul, List.getElem?_cons_zero, List.getElem_cons_zero, appendV])
      (repeat ((with_reducible refine And.intro ?_ ?_); (· first | omega | (show barB _ _ = true; kernel_rfl) | (show rdJ _ _ _ _ _ = true; kernel_rfl))))
      refine hN _ 1 ?_ (by omega) (by omega)
      refine Le.of ?_ ?_ ?_ ?_ ?_ <;> simp [leTV, locsIn, encDigs, encTraces, encWant, encTrace, encReads, encRead, encMades, encMade, tk, nmR, encRead, encD_zero] <;> try omega
    | succ k =>
      have hlt' : (k : Int) + 1 < (r : Int) % 600 := by omega
      have hge : (0 : Int) ≤ (k : Int) + 1 := by omega
      (simp (maxSteps := 2000000) (disch := first | omega | assumption) [i64_in, tnS, Int.toNat_add, Int.toNat_mul, List.getElem?_cons_zero, List.getElem_cons_zero, hmod, hlt', hlt, tk])
      (repeat ((with_reducible refine And.intro ?_ ?_); (· first | omega | (show barB _ _ = true; kernel_rfl) | (show rdJ _ _ _ _ _ = true; kernel_rfl))))
      refine callD_pc (name_ok (k+1) (by omega)) rfl rfl (by simp) (by simp [argLe, TV.er, AV.er]) ?_
      (simp (maxSteps := 2000000) (disch := first | omega | assumption) [i64_in, tnS, Int.toNat_add, Int.toNat_mul, List.getElem?_cons_zero, List.getElem_cons_zero, appendV])
      refine ⟨by omega, by omega, ?_⟩
      (repeat ((with_reducible refine And.intro ?_ ?_); (· first | omega | (show barB _ _ = true; kernel_rfl) | (show rdJ _ _ _ _ _ = true; kernel_rfl))))
      refine hN _ (k+2) ?_ (by omega) (by omega)
      refine Le.of ?_ ?_ ?_ ?_ ?_ <;> simp [leTV, locsIn, encDigs, encTraces, encWant, encTrace, encReads, encRead, encMades, encMade, tk, nmR, encRead, encD_zero, List.range_succ] <;> try omega
      all_goals (intro j; by_cases hj : j = 23 <;> simp [hj])
  · have hkn : k = r % 600 := by omega
    have hlt' : ¬ (k : Int) < (r : Int) % 600 := by omega
    obtain ⟨m, hm⟩ : ∃ m, m = r % 600 := ⟨_, rfl⟩
    rw [← hm] at hkn hrl
    (simp (maxSteps := 2000000) (disch := first | omega | assumption) [i64_in, tnS, Int.toNat_add, Int.toNat_mul, List.getElem?_cons_zero, List.getElem_cons_zero, hmod, hlt'])
    refine hE _ _ (by simp) ?_
    clear hN hE hstep
    subst hkn
    (simp (maxSteps := 2000000) (disch := first | omega | assumption) [i64_in, tnS, Int.toNat_add, Int.toNat_mul, List.getElem?_cons_zero, List.getElem_cons_zero])
    refine AT.loop' (α := Nat) (fun k2 => St.of [(0, .av (.int .u16) (.i .u16 r)), (1, .av (.int .u16) (.i .u16 o)), (5, .loc 5 []), (7, .av (.int .i64) (.i .i64 k2))] [(5, (tyOf Tryd.prog 28, .agg [encD zero32, .sl (tk 23 k) ((List.range k).map fun i => encRead (nmR i)), .sl (tk 39 k2) ((List.range k2).map fun i => encMade (nmM i))]))] (fun j => if j = 39 then k2 else if j = 23 then k else 0) [])
      (fun k2 => k2 ≤ o % 1100) (fun k2 => 1100 - k2) 0 ?_ ?_ ?_
    · refine Le.of ?_ ?_ ?_ ?_ ?_ <;> simp [leTV, locsIn, encDigs, encTraces, encWant, encTrace, encReads, encRead, encMades, encMade, tk, encD_zero] <;> try omega
      all_goals (intro j; by_cases hj : j = 39 <;> simp [hj])
    · simp
    rintro k2 hk2 KL2 hN hE
    refine vc_sound (cf := cfLim) laid mixed _ _ _ (by kernel_rfl) ?_
    have hmod2 : ((o : Int).tmod 1100) = ((o % 1100 : Nat) : Int) := by
      rw [Int.tmod_eq_emod_of_nonneg (by omega)]; rfl
    have hpos2 : (0 : Int) ≤ (o : Int) % 1100 := by omega
    have hol : o % 1100 < 1100 := Nat.mod_lt _ (by omega)
    have hl4 : ∀ i, (nameV i).length = 4 := fun _ => rfl
    have hout : ∀ x : List UInt8, outT ++ x = 111 :: 117 :: 116 :: x := fun _ => rfl
    by_cases hlt : k2 < o % 1100
    · cases k2 with
      | zero =>
        have hlt' : (0 : Int) < (o : Int) % 1100 := by omega
        (simp (maxSteps := 2000000) (disch := first | omega | assumption) [i64_in, tnS, Int.toNat_add, Int.toNat_mul, List.getElem?_cons_zero, List.getElem_cons_zero, hmod2, hlt', hlt, tk, hl4])
        (repeat ((with_reducible refine And.intro ?_ ?_); (· first | omega | (show barB _ _ = true; kernel_rfl) | (show rdJ _ _ _ _ _ = true; kernel_rfl))))
        refine callD_pc (name_ok 0 (by omega)) rfl rfl (by simp) (by simp [argLe, TV.er, AV.er]) ?_
        (simp (maxSteps := 2000000) (disch := first | omega | assumption) [i64_in, tnS, Int.toNat_add, Int.toNat_mul, List.getElem?_cons_zero, List.getElem_cons_zero, appendV, hl4])
        (repeat ((with_reducible refine And.intro ?_ ?_); (· first | omega | (show barB _ _ = true; kernel_rfl) | (show rdJ _ _ _ _ _ = true; kernel_rfl))))
        refine hN _ 1 ?_ (by omega) (by omega)
        refine Le.of ?_ ?_ ?_ ?_ ?_ <;> simp [leTV, locsIn, encDigs, encTraces, encWant, encTrace, encReads, encRead, encMades, encMade, tk, nmM, encMade, encD_zero, hout] <;> try omega
        all_goals (intro j; by_cases hj : j = 39 <;> simp [hj])
      | succ k2 =>
        have hlt' : (k2 : Int) + 1 < (o : Int) % 1100 := by omega
        have hge : (0 : Int) ≤ (k2 : Int) + 1 := by omega
        (simp (maxSteps := 2000000) (disch := first | omega | assumption) [i64_in, tnS, Int.toNat_add, Int.toNat_mul, List.getElem?_cons_zero, List.getElem_cons_zero, hmod2, hlt', hlt, tk, hl4])
        (repeat ((with_reducible refine And.intro ?_ ?_); (· first | omega | (show barB _ _ = true; kernel_rfl) | (show rdJ _ _ _ _ _ = true; kernel_rfl))))
        refine callD_pc (name_ok (k2+1) (by omega)) rfl rfl (by simp) (by simp [argLe, TV.er, AV.er]) ?_
        (simp (maxSteps := 2000000) (disch := first | omega | assumption) [i64_in, tnS, Int.toNat_add, Int.toNat_mul, List.getElem?_cons_zero, List.getElem_cons_zero, appendV, hl4])
        refine ⟨by omega, by omega, ?_⟩
        (repeat ((with_reducible refine And.intro ?_ ?_); (· first | omega | (show barB _ _ = true; kernel_rfl) | (show rdJ _ _ _ _ _ = true; kernel_rfl))))
        refine hN _ (k2+2) ?_ (by omega) (by omega)
        refine Le.of ?_ ?_ ?_ ?_ ?_ <;> simp [leTV, locsIn, encDigs, encTraces, encWant, encTrace, encReads, encRead, encMades, encMade, tk, nmM, encMade, encD_zero, List.range_succ, hout] <;> try omega
        all_goals (intro j; by_cases hj : j = 39 <;> simp [hj])
    · have hkn : k2 = o % 1100 := by omega
      have hlt' : ¬ (k2 : Int) < (o : Int) % 1100 := by omega
      obtain ⟨m2, hm2⟩ : ∃ m2, m2 = o % 1100 := ⟨_, rfl⟩
      rw [← hm2] at hkn hol
      (simp (maxSteps := 2000000) (disch := first | omega | assumption) [i64_in, tnS, Int.toNat_add, Int.toNat_mul, List.getElem?_cons_zero, List.getElem_cons_zero, hmod2, hlt'])
      refine hE _ _ (by simp) ?_
      clear hN hE
      have hnc := nm_check k k2 zero32 (by omega) (by omega)
      have htp : TrP ⟨zero32, (List.range k).map nmR, (List.range k2).map nmM⟩ := by
        refine ⟨⟨by simp; omega, fun r hr => ?_⟩, by simp; omega, fun r hr => ?_⟩
        · obtain ⟨i, _, rfl⟩ := List.mem_map.1 hr
          show 4 ≤ 9223372036854775807; decide
        · obtain ⟨i, _, rfl⟩ := List.mem_map.1 hr
          show 8 ≤ 9223372036854775807; decide
      by_cases h5 : 500 < k
      · have h5' : (500 : Int) < k := by omega
        (simp (maxSteps := 2000000) (disch := first | omega | assumption) [i64_in, tnS, Int.toNat_add, Int.toNat_mul, List.getElem?_cons_zero, List.getElem_cons_zero, h5'])
        refine callV_pc (check_ok _ htp) rfl rfl (by simp) (by simp [argLe, TV.er, encTrace, AV.er, AV.ers, AV.ers_eq, encReads, encMades, List.map_map, Function.comp_def]) ?_
        (simp (maxSteps := 2000000) (disch := first | omega | assumption) [i64_in, tnS, Int.toNat_add, Int.toNat_mul, List.getElem?_cons_zero, List.getElem_cons_zero, hnc, h5, Tryd.f4])
      · have h5' : ¬ (500 : Int) < k := by omega
        by_cases h10 : 1000 < k2
        · have h10' : (1000 : Int) < k2 := by omega
          (simp (maxSteps := 2000000) (disch := first | omega | assumption) [i64_in, tnS, Int.toNat_add, Int.toNat_mul, List.getElem?_cons_zero, List.getElem_cons_zero, h5', h10'])
          refine callV_pc (check_ok _ htp) rfl rfl (by simp) (by simp [argLe, TV.er, encTrace, AV.er, AV.ers, AV.ers_eq, encReads, encMades, List.map_map, Function.comp_def]) ?_
          (simp (maxSteps := 2000000) (disch := first | omega | assumption) [i64_in, tnS, Int.toNat_add, Int.toNat_mul, List.getElem?_cons_zero, List.getElem_cons_zero, hnc, h10, Tryd.f4])
        · have h10' : ¬ (1000 : Int) < k2 := by omega
          (simp (maxSteps := 2000000) (disch := first | omega | assumption) [i64_in, tnS, Int.toNat_add, Int.toNat_mul, List.getElem?_cons_zero, List.getElem_cons_zero, h5', h10'])
          refine callV_pc (check_ok _ htp) rfl rfl (by simp) (by simp [argLe, TV.er, encTrace, AV.er, AV.ers, AV.ers_eq, encReads, encMades, List.map_map, Function.comp_def]) ?_
          (simp (maxSteps := 2000000) (disch := first | omega | assumption) [i64_in, tnS, Int.toNat_add, Int.toNat_mul, List.getElem?_cons_zero, List.getElem_cons_zero, hnc, h10, h5, Tryd.f4])
end Go.Proofs.YtmkpbigaafemnaaDoor
