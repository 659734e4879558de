/- The reference's parts of a text. No condition beyond each theorem's own. -/
import Derived.Test.YthdgnfnalimcnaaGreatDoorP8
set_option linter.unusedSimpArgs false
set_option linter.unusedVariables false
set_option linter.unusedSectionVars false
set_option maxRecDepth 100000
/-! The reference's parts of a text. -/
namespace Go.Proofs.YthdgnfnalimcnaaGreatDoor
open Go Go.Ab
open Classical
variable [Sel]
attribute [local simp] vc_skip hiLen zN capV cpyD appendZ clearV delV mdel copyVT extV ovV vc_label vc_region vc_drawn vc_seq vc_cond vc_block vc_exit vc_goto vc_ret vc_loop vc_scope vcOps_nil vcOps_cons vcPs_nil vcPs_cons vcDs_nil vcDs_cons vcD impB mkd wkOf isCallV rdOK_eq rdO_nil rdO_tmp rdO_const rdO_global rdO_func rdL_nil rdL_cons rdT_av rdT_cst rdT_pel rdT_tup rdT_junk rdT_loc St.app Op.operands Call.operands vcG_eq iteP wkOf isCallV vcOp putK_eq pureV ev co coC asI asB asS isNil nkOf derefV fieldAddrV indexAddrV indexV lowV boundsV sliceV pickV_eq unV convV convB bytesOf capOf lenV minV maxV withSrc slice3V lookupV mapOf mfind mput scalT mapUpdV makeSliceV appendM appendN growM growOK zM binI isConst binV St.put upd KSeq_n KSeq_x KSeq_g KSeq_r KBlock_n KBlock_x KBlock_g KBlock_r KScope_n KScope_x KScope_r KRet_n KRet_r resL retTV TV.er AV.er AV.ers AV.erk AV.erks Tok.k Heap.er_nil Heap.er_cons Heap.er_app HObj.er_var HObj.er_map Heap.keys_nil Heap.keys_cons Heap.keys_app hget hset subT getP setP_nil setP_one setP_two setPo_some storeV buildV buildL partsOf capTV argOK entry St.of lk_nil lk_cons leLoc siterOf_siter gB_undef gB_av gB_cst undef isNE_tmp isSlT nslD nslDs mslOf mstrV copyV copyK unsV ustrV hdel dataV sameP mtbD isSlN slNilV vcDo_nil vcDo_cons isLt sft sftD softV rangeMV entryMV cmpV

@[simp] theorem fnok69 : fnOK Tryz.prog 69 = true := by kernel_rfl
@[simp] theorem isne69 : isNE Tryz.prog (.func 69) = false := isNE_func fnok69
@[simp] theorem fnok70 : fnOK Tryz.prog 70 = true := by kernel_rfl
@[simp] theorem isne70 : isNE Tryz.prog (.func 70) = false := isNE_func fnok70
@[simp] theorem fnok36 : fnOK Tryz.prog 36 = true := by kernel_rfl
@[simp] theorem isne36 : isNE Tryz.prog (.func 36) = false := isNE_func fnok36
@[simp] theorem fnok71 : fnOK Tryz.prog 71 = true := by kernel_rfl
@[simp] theorem isne71 : isNE Tryz.prog (.func 71) = false := isNE_func fnok71
@[simp] theorem fnok37 : fnOK Tryz.prog 37 = true := by kernel_rfl
@[simp] theorem isne37 : isNE Tryz.prog (.func 37) = false := isNE_func fnok37
theorem splitB_snoc (c b : UInt8) : ∀ l, splitB c (l ++ [b]) = if b = c then splitB c l ++ [[]] else (splitB c l).set ((splitB c l).length - 1) (((splitB c l)[(splitB c l).length - 1]?.getD []) ++ [b])
  | [] => by
    simp only [List.nil_append, splitB]
    split <;> simp
  | x :: l => by
    have ih := splitB_snoc c b l
    have hne := splitB_ne c l
    simp only [List.cons_append, splitB]
    by_cases hx : x = c
    · simp only [hx, if_true]
      rw [ih]
      by_cases hb : b = c
      · simp [hb]
      · simp only [hb, if_false]
        cases hs : splitB c l with
        | nil => exact absurd hs hne
        | cons y r => simp
    · simp only [hx, if_false]
      rw [ih]
      cases hs : splitB c l with
      | nil => exact absurd hs hne
      | cons y r =>
        by_cases hb : b = c
        · simp [hb]
        · simp only [hb, if_false]
          cases r with
          | nil => simp
          | cons z q => simp
def strs (l : List (List UInt8)) : List AV := l.map AV.s
abbrev cfParts : Cfg := ⟨fun _ => false, fun n => n == 5 || n == 35⟩
def partsR (l : List UInt8) (r : TV) (H' : Heap) : Prop := ∃ b cap rs, r = .av (.slice 9) (.msl b 9 0 (splitB 47 l).length cap) ∧ H' = [(b, .var (.arr cap 9) (.agg (strs (splitB 47 l ++ rs))))] ∧ (splitB 47 l).length + rs.length = cap
theorem splitB_le (c : UInt8) : ∀ l, (splitB c l).length ≤ l.length + 1
  | [] => by simp [splitB]
  | b :: l => by
    have := splitB_le c l
    unfold splitB
    split
    · simp; omega
    · cases hs : splitB c l with
      | nil => simp
      | cons y r => rw [hs] at this; simp at this ⊢; omega
@[simp] theorem strs_length (l : List (List UInt8)) : (strs l).length = l.length := by simp [strs]
theorem strs_app (a b : List (List UInt8)) : strs (a ++ b) = strs a ++ strs b := by simp [strs]
theorem u8_ne {x : UInt8} {n : Nat} (hn : n < 256) (h : ¬ x = UInt8.ofNat n) : ¬ (x.toNat : Int) = n := fun e => h (by
  apply UInt8.toNat_inj.1
  simp [Nat.mod_eq_of_lt hn]; omega)
@[simp] theorem erks_strs (l : List (List UInt8)) : AV.erks (strs l) = strs l := by simp [strs, AV.erks_eq, AV.erk, Function.comp_def]
@[simp] theorem ers_strs (l : List (List UInt8)) : AV.ers (strs l) = strs l := by simp [strs, AV.ers_eq, AV.er, Function.comp_def]
theorem strs_take (l : List (List UInt8)) (n : Nat) : (strs l).take n = strs (l.take n) := by simp [strs, List.map_take]
theorem strs_drop (l : List (List UInt8)) (n : Nat) : (strs l).drop n = strs (l.drop n) := by simp [strs, List.map_drop]
theorem strs_rep (n : Nat) : List.replicate n (AV.s []) = strs (List.replicate n []) := by simp [strs]
theorem strs_cons (x : List UInt8) (l : List (List UInt8)) : AV.s x :: strs l = strs (x :: l) := rfl
theorem strs_one (x : List UInt8) : [AV.s x] = strs [x] := rfl
set_option maxHeartbeats 8000000 in
theorem rparts0_ok (l : List UInt8) (hl : l.length ≤ 1000000000) : ACalls Tryz.prog 69 [.av .str (.s l)] [] (partsR l) := by
  refine ACalls.of_vc laid mixed Tryz.func69 rfl (by kernel_rfl) cfParts (by simp [Tryz.ntmps69]) fun imm0 w0 => ?_
  (simp (maxSteps := 2000000) (disch := first | omega | assumption) [i64_in, tnS, Int.toNat_add, Int.toNat_mul, List.getElem?_cons_zero, List.getElem_cons_zero])
  intro b0
  refine AT.loopV (α := Nat × Nat × Nat × List (List UInt8) × List (List UInt8)) (fun x ver => St.of [(0, .av .str (.s l)), (3, .av (.slice 9) (.msl x.2.1 9 0 x.2.2.2.1.length x.2.2.1)), (4, .av (.int .i64) (.i .i64 x.1))] [] ver [(x.2.1, .var (.arr x.2.2.1 9) (.agg (strs (x.2.2.2.1 ++ x.2.2.2.2))))])
    (fun x => x.1 ≤ l.length ∧ x.2.2.2.1 = splitB 47 (l.take x.1) ∧ x.2.2.2.1.length + x.2.2.2.2.length = x.2.2.1) (fun x => l.length - x.1) (0, b0, 1, [[]], []) ?_ ?_ ?_
  · refine Le.of ?_ ?_ ?_ ?_ ?_ <;> simp [leTV, locsIn, encDigs, encTraces, encWant, encTrace, encReads, encRead, encMades, encMade, strs] <;> try omega
  · simp [splitB]
  rintro ⟨k, b, cap, ps, rest⟩ ver ⟨hk, hps, hcap⟩ KL hN hE
  simp only at hk hps hcap hN
  have hsl := splitB_le 47 (l.take k)
  rw [← hps] at hsl
  simp at hsl
  have hne : ps ≠ [] := by rw [hps]; exact splitB_ne _ _
  have hpos : 0 < ps.length := List.length_pos_iff.2 hne
  have e1 : (strs (ps ++ rest)).take ps.length = strs ps := by rw [strs_take, List.take_left]
  have e2 : (strs (ps ++ rest)).drop (ps.length + 1) = strs (rest.drop 1) := by
    rw [strs_drop, List.drop_append, List.drop_eq_nil_of_le (by omega)]
    simp
  refine vc_sound (cf := cfParts) laid mixed _ _ _ (by kernel_rfl) ?_
  by_cases hlt : k < l.length
  · have hlt' : (k : Int) < l.length := by omega
    have hsn := splitB_snoc 47 l[k] (l.take k)
    rw [← List.take_succ_eq_append_getElem hlt, ← hps] at hsn
    by_cases hc : l[k] = 47
    · rw [if_pos hc] at hsn
      (simp (maxSteps := 2000000) (disch := first | omega | assumption) [i64_in, tnS, Int.toNat_add, Int.toNat_mul, List.getElem?_cons_zero, List.getElem_cons_zero, hlt', hc, e1, e2])
      refine ⟨by omega, ⟨by omega, by omega⟩, fun hcp => ?_, fun hcp b' cap' hb' hcp' => ?_⟩
      · refine hN _ (k+1, b, cap, ps ++ [[]], rest.drop 1) ?_ ⟨by omega, hsn.symm, by simp; omega⟩ (by simp; omega)
        refine Le.of ?_ ?_ ?_ ?_ ?_ <;> simp [leTV, locsIn, encDigs, encTraces, encWant, encTrace, encReads, encRead, encMades, encMade, strs_app, strs_cons, e1, e2] <;> try omega
      · refine hN _ (k+1, b', cap', ps ++ [[]], List.replicate (cap' - (ps.length + 1)) []) ?_ ⟨by omega, hsn.symm, by simp at hcp' ⊢; omega⟩ (by simp; omega)
        have hmin : min ps.length (ps.length + rest.length) = ps.length := by omega
        refine Le.of ?_ ?_ ?_ ?_ ?_ <;> simp [leTV, locsIn, encDigs, encTraces, encWant, encTrace, encReads, encRead, encMades, encMade, strs_app, strs_rep, strs_cons, e1, e2, hmin] <;> try omega
    · rw [if_neg hc] at hsn
      have hc' : ¬ (l[k].toNat : Int) = 47 := by have := u8_ne (n := 47) (by omega) hc; simpa using this
      have e3 : (strs (ps ++ rest))[ps.length - 1]? = some (.s (ps[ps.length - 1]?.getD [])) := by
        simp only [strs, List.getElem?_map]
        rw [List.getElem?_append_left (by omega), List.getElem?_eq_getElem (by omega)]
        rfl
      have e4 : ∀ x, (strs (ps ++ rest)).set (ps.length - 1) (.s x) = strs (ps.set (ps.length - 1) x ++ rest) := by
        intro x
        rw [← List.set_append_left _ _ (by omega)]
        simp [strs, List.map_set]
      have e5 : (l.take (k+1)).drop k = [l[k]] := by
        rw [List.take_succ_eq_append_getElem hlt]
        exact List.drop_left' (by simp; omega)
      have e6 : (ps[ps.length - 1]?.getD []).length ≤ l.length := by
        rw [List.getElem?_eq_getElem (by omega)]
        have := splitB_len 47 (l.take k) ps[ps.length - 1] (by rw [← hps]; exact List.getElem_mem _)
        simp at this ⊢; omega
      generalize hz : (ps[ps.length - 1]?.getD []) = z at *
      (simp (maxSteps := 2000000) (disch := first | omega | assumption) [i64_in, tnS, Int.toNat_add, Int.toNat_mul, List.getElem?_cons_zero, List.getElem_cons_zero, hlt', hc', e1, e2, e3, e4, e5])
      (repeat ((with_reducible refine And.intro ?_ ?_); (· first | omega | (show barB _ _ = true; kernel_rfl) | (show rdJ _ _ _ _ _ = true; kernel_rfl) | (show tailB _ _ _ = true; kernel_rfl) | (show sftB _ _ _ = true; kernel_rfl))))
      refine hN _ (k+1, b, cap, ps.set (ps.length - 1) (z ++ [l[k]]), rest) ?_ ⟨by omega, hsn.symm, by simp; omega⟩ (by simp; omega)
      refine Le.of ?_ ?_ ?_ ?_ ?_ <;> simp [leTV, locsIn, encDigs, encTraces, encWant, encTrace, encReads, encRead, encMades, encMade, e4] <;> try omega
  · have hlt' : ¬ (k : Int) < l.length := by omega
    (simp (maxSteps := 2000000) (disch := first | omega | assumption) [i64_in, tnS, Int.toNat_add, Int.toNat_mul, List.getElem?_cons_zero, List.getElem_cons_zero, hlt'])
    refine hE _ _ (by simp) ?_
    have hkl : l.take k = l := List.take_of_length_le (by omega)
    rw [hkl] at hps
    (simp (maxSteps := 2000000) (disch := first | omega | assumption) [i64_in, tnS, Int.toNat_add, Int.toNat_mul, List.getElem?_cons_zero, List.getElem_cons_zero, Tryz.f69, partsR, ← hps])
    exact ⟨_, _, ⟨rfl, rfl⟩, rest, ⟨rfl, rfl, rfl⟩, hcap⟩
theorem rparts_ok (l : List UInt8) (hl : l.length ≤ 1000000000) : PC Tryz.prog 69 [.av .str (.s l)] (.av (.slice 9) (.sl .no (strs (splitB 47 l)))) := by
  refine (rparts0_ok l hl).freeze laid ?_
  rintro r H' ⟨b, cap, rs, rfl, rfl, hc⟩ _
  left
  refine ⟨b, cap, 9, _, [], List.Perm.refl _, ?_, rfl⟩
  simp only [fzTV, fzA]
  rw [if_pos ⟨trivial, trivial, by omega, by omega⟩]
  simp [strs_take]
end Go.Proofs.YthdgnfnalimcnaaGreatDoor
