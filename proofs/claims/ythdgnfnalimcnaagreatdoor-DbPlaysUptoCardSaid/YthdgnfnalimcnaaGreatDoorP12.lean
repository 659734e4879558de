/- The reference's May, Dir, Under: the walks. No condition beyond each theorem's own. -/
import Derived.Test.YthdgnfnalimcnaaGreatDoorP11
set_option linter.unusedSimpArgs false
set_option linter.unusedVariables false
set_option linter.unusedSectionVars false
set_option maxRecDepth 100000
/-! The reference's May, Dir, Under: the walks. -/
namespace Go.Proofs.YthdgnfnalimcnaaGreatDoor
open Go Go.Ab
open Classical
variable [Sel]
attribute [local simp] vc_skip hiLen zN capV cpyD appendZ clearV delV mdel copyVT extV ovV vc_label vc_region vc_drawn vc_seq vc_cond vc_block vc_exit vc_goto vc_ret vc_loop vc_scope vcOps_nil vcOps_cons vcPs_nil vcPs_cons vcDs_nil vcDs_cons vcD impB mkd wkOf isCallV rdOK_eq rdO_nil rdO_tmp rdO_const rdO_global rdO_func rdL_nil rdL_cons rdT_av rdT_cst rdT_pel rdT_tup rdT_junk rdT_loc St.app Op.operands Call.operands vcG_eq iteP wkOf isCallV vcOp putK_eq pureV ev co coC asI asB asS isNil nkOf derefV fieldAddrV indexAddrV indexV lowV boundsV sliceV pickV_eq unV convV convB bytesOf capOf lenV minV maxV withSrc slice3V lookupV mapOf mfind mput scalT mapUpdV makeSliceV appendM appendN growM growOK zM binI isConst binV St.put upd KSeq_n KSeq_x KSeq_g KSeq_r KBlock_n KBlock_x KBlock_g KBlock_r KScope_n KScope_x KScope_r KRet_n KRet_r resL retTV TV.er AV.er AV.ers AV.erk AV.erks Tok.k Heap.er_nil Heap.er_cons Heap.er_app HObj.er_var HObj.er_map Heap.keys_nil Heap.keys_cons Heap.keys_app hget hset subT getP setP_nil setP_one setP_two setPo_some storeV buildV buildL partsOf capTV argOK entry St.of lk_nil lk_cons leLoc siterOf_siter gB_undef gB_av gB_cst undef isNE_tmp isSlT nslD nslDs mslOf mstrV copyV copyK unsV ustrV hdel dataV sameP mtbD isSlN slNilV vcDo_nil vcDo_cons isLt sft sftD softV rangeMV entryMV cmpV

theorem strs_get (p : List (List UInt8)) (k : Nat) (h : k < p.length) : (strs p)[k]? = some (.s p[k]) := by simp [strs, List.getElem?_eq_getElem h]
set_option maxHeartbeats 8000000 in
theorem rmay_ok (l : List UInt8) (hl : l.length ≤ 1000000000) : PC Tryz.prog 36 [.av .str (.s l)] (.av .bool (.b (mayV l))) := by
  refine PC.of <| ACalls.of_vc laid mixed Tryz.func36 rfl (by kernel_rfl) cf0 (by simp [Tryz.ntmps36]) fun imm0 w0 => ?_
  (simp (maxSteps := 2000000) (disch := first | omega | assumption) [i64_in, tnS, Int.toNat_add, Int.toNat_mul, List.getElem?_cons_zero, List.getElem_cons_zero])
  refine callV_pc (rparts_ok l hl) rfl rfl (by simp) (by simp [argLe, TV.er, AV.er]) ?_
  (simp (maxSteps := 2000000) (disch := first | omega | assumption) [i64_in, tnS, Int.toNat_add, Int.toNat_mul, List.getElem?_cons_zero, List.getElem_cons_zero])
  have hle := splitB_le 47 l
  obtain ⟨p, hp⟩ : ∃ p, p = splitB 47 l := ⟨_, rfl⟩
  have hlen : ∀ x ∈ p, x.length ≤ l.length := fun x hx => splitB_len 47 l x (by rw [← hp]; exact hx)
  rw [← hp] at hle ⊢
  refine AT.loop' (α := Nat) (fun k => St.of [(3, .av (.slice 9) (.sl .no (strs p))), (4, .av (.int .i64) (.i .i64 k))] [] (fun _ => 0) []) (fun k => k ≤ p.length ∧ ∀ x ∈ p.take k, partV x = true) (fun k => p.length - k) 0 ?_ ?_ ?_
  · refine Le.of ?_ ?_ ?_ ?_ ?_ <;> simp [leTV, locsIn, encDigs, encTraces, encWant, encTrace, encReads, encRead, encMades, encMade, lk_nil] <;> try omega
  · simp
  rintro k ⟨hk, hall⟩ KL hN hE
  refine vc_sound (cf := cf0) laid mixed _ _ _ (by kernel_rfl) ?_
  by_cases hlt : k < p.length
  · have hlt' : (k : Int) < p.length := by omega
    have hx := hlen p[k] (List.getElem_mem _)
    have hg := strs_get p k hlt
    (simp (maxSteps := 2000000) (disch := first | omega | assumption) [i64_in, tnS, Int.toNat_add, Int.toNat_mul, List.getElem?_cons_zero, List.getElem_cons_zero, hlt', hg])
    refine callV_pc (rpart_ok p[k] (by omega)) rfl rfl (by simp) (by simp [argLe, TV.er, AV.er]) ?_
    cases hpv : partV p[k]
    · (simp (maxSteps := 2000000) (disch := first | omega | assumption) [i64_in, tnS, Int.toNat_add, Int.toNat_mul, List.getElem?_cons_zero, List.getElem_cons_zero])
      refine hE _ _ (by simp) ?_
      have : mayV l = false := by
        simp only [mayV, Bool.and_eq_false_iff]
        right
        rw [List.all_eq_false]
        exact ⟨p[k], by rw [← hp]; exact List.getElem_mem _, by simp [hpv]⟩
      (simp (maxSteps := 2000000) (disch := first | omega | assumption) [i64_in, tnS, Int.toNat_add, Int.toNat_mul, List.getElem?_cons_zero, List.getElem_cons_zero, Tryz.f36, this])
    · (simp (maxSteps := 2000000) (disch := first | omega | assumption) [i64_in, tnS, Int.toNat_add, Int.toNat_mul, List.getElem?_cons_zero, List.getElem_cons_zero])
      refine hN _ (k+1) ?_ ⟨by omega, by rw [take_succ_all hlt]; exact ⟨hall, hpv⟩⟩ (by omega)
      refine Le.of ?_ ?_ ?_ ?_ ?_ <;> simp [leTV, locsIn, encDigs, encTraces, encWant, encTrace, encReads, encRead, encMades, encMade, lk_nil] <;> try omega
  · have hlt' : ¬ (k : Int) < p.length := by omega
    (simp (maxSteps := 2000000) (disch := first | omega | assumption) [i64_in, tnS, Int.toNat_add, Int.toNat_mul, List.getElem?_cons_zero, List.getElem_cons_zero, hlt'])
    refine hE _ _ (by simp) ?_
    rw [List.take_of_length_le (by omega)] at hall
    have hal : p.all partV = true := by simpa using hall
    (simp (maxSteps := 2000000) (disch := first | omega | assumption) [i64_in, tnS, Int.toNat_add, Int.toNat_mul, List.getElem?_cons_zero, List.getElem_cons_zero, Tryz.f36, mayV, ← hp, hal])
    omega
theorem joinS_take_le (p : List (List UInt8)) (k : Nat) : (joinS (p.take k)).length ≤ (joinS p).length := by
  by_cases h1 : p.take k = []
  · rw [h1]; simp [joinS]
  by_cases h2 : p.drop k = []
  · have := List.take_append_drop k p
    rw [h2, List.append_nil] at this
    rw [this]; exact Nat.le_refl _
  · have := joinS_app _ _ h1 h2
    rw [List.take_append_drop] at this
    rw [this]; simp
set_option maxHeartbeats 8000000 in
theorem rdir_ok (l : List UInt8) (hl : l.length ≤ 1000000000) : PC Tryz.prog 71 [.av .str (.s l)] (.av .str (.s (dirV l))) := by
  refine PC.of <| ACalls.of_vc laid mixed Tryz.func71 rfl (by kernel_rfl) cf0 (by simp [Tryz.ntmps71]) fun imm0 w0 => ?_
  (simp (maxSteps := 2000000) (disch := first | omega | assumption) [i64_in, tnS, Int.toNat_add, Int.toNat_mul, List.getElem?_cons_zero, List.getElem_cons_zero])
  refine callV_pc (rparts_ok l hl) rfl rfl (by simp) (by simp [argLe, TV.er, AV.er]) ?_
  (simp (maxSteps := 2000000) (disch := first | omega | assumption) [i64_in, tnS, Int.toNat_add, Int.toNat_mul, List.getElem?_cons_zero, List.getElem_cons_zero])
  refine callV_pc (rmay_ok l hl) rfl rfl (by simp) (by simp [argLe, TV.er, AV.er]) ?_
  have hle := splitB_le 47 l
  have hne := splitB_ne 47 l
  obtain ⟨p, hp⟩ : ∃ p, p = splitB 47 l := ⟨_, rfl⟩
  have hlen : ∀ x ∈ p, x.length ≤ l.length := fun x hx => splitB_len 47 l x (by rw [← hp]; exact hx)
  have hjl : joinS p = l := by rw [hp]; exact joinS_split l
  have hjt := fun k => joinS_take_le p k
  rw [hjl] at hjt
  have hd : dirV l = if mayV l = true ∧ p.length ≠ 1 then joinS p.dropLast else [] := by rw [hp]; rfl
  rw [← hp] at hle hne ⊢
  have hpos : 0 < p.length := List.length_pos_iff.2 hne
  cases hm : mayV l
  · (simp (maxSteps := 2000000) (disch := first | omega | assumption) [i64_in, tnS, Int.toNat_add, Int.toNat_mul, List.getElem?_cons_zero, List.getElem_cons_zero, Tryz.f71, hd, hm])
  by_cases h1 : p.length = 1
  · (simp (maxSteps := 2000000) (disch := first | omega | assumption) [i64_in, tnS, Int.toNat_add, Int.toNat_mul, List.getElem?_cons_zero, List.getElem_cons_zero, h1, Tryz.f71, hd, hm])
  have h1' : ¬ (p.length : Int) = 1 := by omega
  have hg0 := strs_get p 0 hpos
  (simp (maxSteps := 2000000) (disch := first | omega | assumption) [i64_in, tnS, Int.toNat_add, Int.toNat_mul, List.getElem?_cons_zero, List.getElem_cons_zero, h1', hg0])
  refine ⟨hpos, ?_⟩
  refine AT.loop' (α := Nat) (fun k => St.of [(3, .av (.slice 9) (.sl .no (strs p))), (4, .av .str (.s (joinS (p.take k)))), (5, .av (.int .i64) (.i .i64 k))] [] (fun _ => 0) []) (fun k => 1 ≤ k ∧ k + 1 ≤ p.length) (fun k => p.length - k) 1 ?_ ?_ ?_
  · have e : joinS (p.take 1) = p[0] := by
      cases p with
      | nil => exact absurd rfl hne
      | cons x r => simp [joinS]
    refine Le.of ?_ ?_ ?_ ?_ ?_ <;> simp [leTV, locsIn, encDigs, encTraces, encWant, encTrace, encReads, encRead, encMades, encMade, lk_nil, e] <;> try omega
  · omega
  rintro k ⟨hk1, hk2⟩ KL hN hE
  refine vc_sound (cf := cf0) laid mixed _ _ _ (by kernel_rfl) ?_
  by_cases hlt : k + 1 < p.length
  · have hlt' : (k : Int) < (p.length : Int) - 1 := by omega
    have hx := hlen p[k] (List.getElem_mem _)
    have hg := strs_get p k (by omega)
    have hj := hjt k
    have hsn : joinS (p.take (k+1)) = joinS (p.take k) ++ 47 :: p[k] := by
      rw [List.take_succ_eq_append_getElem (by omega), joinS_app _ _ (by
        intro h
        rcases List.take_eq_nil_iff.1 h with h | h
        · omega
        · exact hne h) (by simp)]
      rfl
    (simp (maxSteps := 2000000) (disch := first | omega | assumption) [i64_in, tnS, Int.toNat_add, Int.toNat_mul, List.getElem?_cons_zero, List.getElem_cons_zero, hlt', hg])
    (repeat ((with_reducible refine And.intro ?_ ?_); (· first | omega | (show barB _ _ = true; kernel_rfl) | (show rdJ _ _ _ _ _ = true; kernel_rfl) | (show tailB _ _ _ = true; kernel_rfl) | (show sftB _ _ _ = true; kernel_rfl))))
    refine hN _ (k+1) ?_ ⟨by omega, by omega⟩ (by omega)
    refine Le.of ?_ ?_ ?_ ?_ ?_ <;> simp [leTV, locsIn, encDigs, encTraces, encWant, encTrace, encReads, encRead, encMades, encMade, lk_nil, hsn] <;> try omega
  · have hlt' : ¬ (k : Int) < (p.length : Int) - 1 := by omega
    (simp (maxSteps := 2000000) (disch := first | omega | assumption) [i64_in, tnS, Int.toNat_add, Int.toNat_mul, List.getElem?_cons_zero, List.getElem_cons_zero, hlt'])
    refine hE _ _ (by simp) ?_
    have e : p.take k = p.dropLast := by rw [List.dropLast_eq_take]; congr 1; omega
    (simp (maxSteps := 2000000) (disch := first | omega | assumption) [i64_in, tnS, Int.toNat_add, Int.toNat_mul, List.getElem?_cons_zero, List.getElem_cons_zero, Tryz.f71, hd, hm, h1, e])
set_option maxHeartbeats 8000000 in
theorem runder_ok (d : List UInt8) (hdl : d.length ≤ 1000000000) : ∀ (n : Nat) (l : List UInt8), l.length ≤ n → l.length ≤ 1000000000 → PC Tryz.prog 37 [.av .str (.s l), .av .str (.s d)] (.av .bool (.b (underV l d)))
  | 0, l, hn, hl => by
    obtain rfl : l = [] := List.eq_nil_of_length_eq_zero (by omega)
    refine PC.of <| ACalls.of_vc laid mixed Tryz.func37 rfl (by kernel_rfl) cf0 (by simp [Tryz.ntmps37]) fun imm0 w0 => ?_
    (simp (maxSteps := 2000000) (disch := first | omega | assumption) [i64_in, tnS, Int.toNat_add, Int.toNat_mul, List.getElem?_cons_zero, List.getElem_cons_zero])
    refine callV_pc (rmay_ok [] (by simp)) rfl rfl (by simp) (by simp [argLe, TV.er, AV.er, coC]) ?_
    have hm : mayV [] = false := by decide
    (simp (maxSteps := 2000000) (disch := first | omega | assumption) [i64_in, tnS, Int.toNat_add, Int.toNat_mul, List.getElem?_cons_zero, List.getElem_cons_zero, Tryz.f37, underV, hm])
  | n + 1, l, hn, hl => by
    refine PC.of <| ACalls.of_vc laid mixed Tryz.func37 rfl (by kernel_rfl) cf0 (by simp [Tryz.ntmps37]) fun imm0 w0 => ?_
    (simp (maxSteps := 2000000) (disch := first | omega | assumption) [i64_in, tnS, Int.toNat_add, Int.toNat_mul, List.getElem?_cons_zero, List.getElem_cons_zero])
    refine callV_pc (rmay_ok l hl) rfl rfl (by simp) (by simp [argLe, TV.er, AV.er, coC]) ?_
    cases hm : mayV l
    · (simp (maxSteps := 2000000) (disch := first | omega | assumption) [i64_in, tnS, Int.toNat_add, Int.toNat_mul, List.getElem?_cons_zero, List.getElem_cons_zero, Tryz.f37, underV, hm])
    by_cases hd : d = []
    · (simp (maxSteps := 2000000) (disch := first | omega | assumption) [i64_in, tnS, Int.toNat_add, Int.toNat_mul, List.getElem?_cons_zero, List.getElem_cons_zero, Tryz.f37, underV, hm, hd])
    (simp (maxSteps := 2000000) (disch := first | omega | assumption) [i64_in, tnS, Int.toNat_add, Int.toNat_mul, List.getElem?_cons_zero, List.getElem_cons_zero, hd])
    refine callV_pc (rdir_ok l hl) rfl rfl (by simp) (by simp [argLe, TV.er, AV.er, coC]) ?_
    have hst := underV_step hm hd
    have hlt := dirV_lt (l := l)
    generalize hu : dirV l = u at *
    by_cases h1 : u = []
    · (simp (maxSteps := 2000000) (disch := first | omega | assumption) [i64_in, tnS, Int.toNat_add, Int.toNat_mul, List.getElem?_cons_zero, List.getElem_cons_zero, Tryz.f37, hst, h1])
    by_cases h2 : u = d
    · (simp (maxSteps := 2000000) (disch := first | omega | assumption) [i64_in, tnS, Int.toNat_add, Int.toNat_mul, List.getElem?_cons_zero, List.getElem_cons_zero, Tryz.f37, hst, h1, h2, hd])
    have hlu := hlt h1
    (simp (maxSteps := 2000000) (disch := first | omega | assumption) [i64_in, tnS, Int.toNat_add, Int.toNat_mul, List.getElem?_cons_zero, List.getElem_cons_zero, h1, h2])
    refine callV_pc (runder_ok d hdl n u (by omega) (by omega)) rfl rfl (by simp) (by simp [argLe, TV.er, AV.er, coC]) ?_
    (simp (maxSteps := 2000000) (disch := first | omega | assumption) [i64_in, tnS, Int.toNat_add, Int.toNat_mul, List.getElem?_cons_zero, List.getElem_cons_zero, Tryz.f37, hst, h1, h2])
end Go.Proofs.YthdgnfnalimcnaaGreatDoor
