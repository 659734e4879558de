/- A store of bytes by their digests. No condition beyond each theorem's own. -/
import Derived.Test.YtmkpbigaafemnaaDoorS8
set_option linter.unusedSimpArgs false
set_option linter.unusedVariables false
set_option linter.unusedSectionVars false
set_option maxRecDepth 100000
/-! A store of bytes by their digests. -/
namespace Go.Proofs.YtmkpbigaafemnaaDoor
open Go Go.Ab
open Classical
attribute [local simp] vc_skip vc_label vc_region vc_drawn vc_seq vc_cond vc_block vc_exit vc_goto vc_ret vc_loop vc_scope vcOps_nil vcOps_cons vcPs_nil vcPs_cons vcDs_nil vcDs_cons vcD impB mkd wkOf isCallV rdOK_eq rdO_nil rdO_tmp rdO_const rdO_global rdO_func rdL_nil rdL_cons rdT_av rdT_cst rdT_pel rdT_tup rdT_junk rdT_loc St.app Op.operands Call.operands vcG_eq iteP wkOf isCallV vcOp putK_eq pureV ev co coC asI asB asS isNil nkOf derefV fieldAddrV indexAddrV indexV lowV boundsV sliceV pickV_eq unV convV convB bytesOf capOf lenV minV withSrc slice3V lookupV mapOf mfind mput scalT mapUpdV makeSliceV appendM appendN growM growOK zM binI isConst binV St.put upd KSeq_n KSeq_x KSeq_g KSeq_r KBlock_n KBlock_x KBlock_g KBlock_r KScope_n KScope_x KScope_r KRet_n KRet_r resL retTV TV.er AV.er AV.ers AV.erk AV.erks Tok.k Heap.er_nil Heap.er_cons Heap.er_app HObj.er_var HObj.er_map Heap.keys_nil Heap.keys_cons Heap.keys_app hget hset subT getP setP_nil setP_one setP_two setPo_some storeV buildV buildL partsOf capTV argOK entry St.of lk_nil lk_cons leLoc siterOf_siter gB_undef gB_av gB_cst undef isNE_tmp isSlT nslD nslDs mslOf mstrV copyV copyK unsV ustrV hdel dataV sameP mtbD isSlN slNilV vcDo_nil vcDo_cons isLt sft sftD softV

@[simp] theorem fnok32 : fnOK Tryd.prog 32 = true := by kernel_rfl
@[simp] theorem isne32 : isNE Tryd.prog (.func 32) = false := isNE_func fnok32
@[simp] theorem fnok34 : fnOK Tryd.prog 34 = true := by kernel_rfl
@[simp] theorem isne34 : isNE Tryd.prog (.func 34) = false := isNE_func fnok34
@[simp] theorem fnok35 : fnOK Tryd.prog 35 = true := by kernel_rfl
@[simp] theorem isne35 : isNE Tryd.prog (.func 35) = false := isNE_func fnok35
@[simp] theorem fnok36 : fnOK Tryd.prog 36 = true := by kernel_rfl
@[simp] theorem isne36 : isNE Tryd.prog (.func 36) = false := isNE_func fnok36
abbrev StoreT : TyD := .struct [92, 3]
def stE (l : List (Dig × List UInt8)) : List (AV × AV) := l.map fun p => (encD p.1, AV.s p.2)
noncomputable def stO (B M : Nat) (l : List (Dig × List UInt8)) (n : Int) : Heap := [(B, .var StoreT (.agg [.map (some M), .i .i64 n])), (M, .map 24 9 (stE l))]
theorem stE_find (d : Dig) : ∀ l : List (Dig × List UInt8), mfind (encD d) (stE l) = (l.find? fun p => decide (p.1 = d)).map fun p => AV.s p.2
  | [] => rfl
  | (k, v) :: l => by
    have ih := stE_find d l
    simp only [stE, List.map_cons, mfind, List.find?_cons, encD_inj] at ih ⊢
    by_cases h : k = d
    · simp [h]
    · simp only [h, if_false, decide_false]; exact ih
theorem stE_put (d : Dig) (x : List UInt8) : ∀ l : List (Dig × List UInt8), (l.find? fun p => decide (p.1 = d)) = none → mput (encD d) (.s x) (stE l) = stE (l ++ [(d, x)])
  | [], _ => rfl
  | (k, v) :: l, h => by
    rw [List.find?_cons] at h
    by_cases hk : k = d
    · simp [hk] at h
    · simp only [hk, decide_false] at h
      have ih := stE_put d x l h
      simp only [stE, List.map_cons, mput, encD_inj, hk, if_false, List.cons_append] at ih ⊢
      rw [ih]
@[simp] theorem stE_er (l : List (Dig × List UInt8)) : (stE l).map (fun p => (p.1.er, p.2.er)) = stE l := by
  simp [stE, List.map_map, Function.comp_def, AV.er]
@[simp] theorem stO_er (B M : Nat) (l : List (Dig × List UInt8)) (n : Int) : (stO B M l n).er = stO B M l n := by
  simp [stO, Heap.er_cons, Heap.er_nil, HObj.er_var, HObj.er_map, AV.erk, AV.erks]
abbrev cfNb : Cfg := ⟨fun n => n == 3, fun _ => false⟩
theorem snew_ok : ACalls Tryd.prog 32 [] [] fun r H' => ∃ B M, M ≠ B ∧ r = .av .ptr (.ptr B StoreT []) ∧ H' = stO B M [] 0 := by
  refine ACalls.of_vc laid mixed Tryd.func32 rfl (by kernel_rfl) cfNb (by simp [Tryd.ntmps32]) fun imm0 w0 => ?_
  (simp (maxSteps := 2000000) (disch := first | omega | assumption) [i64_in, tnS, Int.toNat_add, Int.toNat_mul, List.getElem?_cons_zero, List.getElem_cons_zero])
  intro M B hB
  (simp (maxSteps := 2000000) (disch := first | omega | assumption) [i64_in, tnS, Int.toNat_add, Int.toNat_mul, List.getElem?_cons_zero, List.getElem_cons_zero, Tryd.f32])
  exact ⟨B, M, fun e => hB e.symm, rfl, by simp [stO, stE]⟩
/-- what is kept behind -/
def putL (d : Dig) (x : List UInt8) (l : List (Dig × List UInt8)) : List (Dig × List UInt8) := match l.find? fun p => decide (p.1 = d) with
  | some _ => l
  | none => l ++ [(d, x)]
abbrev cfPut : Cfg := ⟨fun _ => false, fun n => n == 1000006⟩
theorem sput_ok (B M : Nat) (hBM : M ≠ B) (l : List (Dig × List UInt8)) (n : Int) (x : List UInt8) (hx : x.length ≤ 1000000) :
    ACalls Tryd.prog 34 [.av .ptr (.ptr B StoreT []), .av .str (.s x)] (stO B M l n) fun r H' => r = .av (tyOf Tryd.prog 24) (encD (sha x)) ∧ ∃ n', H' = stO B M (putL (sha x) x l) n' := by
  have hBM' : ¬ B = M := fun e => hBM e.symm
  have hfd := stE_find (sha x) l
  refine ACalls.of_vc laid mixed Tryd.func34 rfl (by kernel_rfl) cfPut (by simp [Tryd.ntmps34]) fun imm0 w0 => ?_
  (simp (maxSteps := 2000000) (disch := first | omega | assumption) [i64_in, tnS, Int.toNat_add, Int.toNat_mul, List.getElem?_cons_zero, List.getElem_cons_zero])
  refine callV_pc (sum_ok x (by omega)) rfl rfl (by simp) (by simp [argLe, TV.er, AV.er, AV.ers, strs1]) ?_
  cases hf : l.find? (fun p => decide (p.1 = sha x)) with
  | some p =>
    rw [hf] at hfd
    simp only [Option.map_some] at hfd
    have hpl : putL (sha x) x l = l := by simp only [putL, hf]
    (simp (maxSteps := 2000000) (disch := first | omega | assumption) [i64_in, tnS, Int.toNat_add, Int.toNat_mul, List.getElem?_cons_zero, List.getElem_cons_zero, stO, hBM, hBM', hfd])
    (repeat ((with_reducible refine And.intro ?_ ?_); (· first | omega | (show barB _ _ = true; kernel_rfl) | (show rdJ _ _ _ _ _ = true; kernel_rfl) | (show tailB _ _ _ = true; kernel_rfl) | (show sftB _ _ _ = true; kernel_rfl))))
    (simp (maxSteps := 2000000) (disch := first | omega | assumption) [i64_in, tnS, Int.toNat_add, Int.toNat_mul, List.getElem?_cons_zero, List.getElem_cons_zero, Tryd.f34, hpl])
  | none =>
    have hpt := stE_put (sha x) x l hf
    rw [hf] at hfd
    simp only [Option.map_none] at hfd
    have hpl : putL (sha x) x l = l ++ [(sha x, x)] := by simp only [putL, hf]
    (simp (maxSteps := 2000000) (disch := first | omega | assumption) [i64_in, tnS, Int.toNat_add, Int.toNat_mul, List.getElem?_cons_zero, List.getElem_cons_zero, stO, hBM, hBM', hfd, hpt])
    (repeat ((with_reducible refine And.intro ?_ ?_); (· first | omega | (show barB _ _ = true; kernel_rfl) | (show rdJ _ _ _ _ _ = true; kernel_rfl) | (show tailB _ _ _ = true; kernel_rfl) | (show sftB _ _ _ = true; kernel_rfl))))
    refine vcSoft.of [0, 1, 2, 3, 4, 5, 6] [] (by kernel_rfl) ?_
    (simp (maxSteps := 2000000) (disch := first | omega | assumption) [i64_in, tnS, Int.toNat_add, Int.toNat_mul, List.getElem?_cons_zero, List.getElem_cons_zero, stO, hBM, hBM', hfd, hpt])
    (repeat ((with_reducible refine And.intro ?_ ?_); (· first | omega | (show barB _ _ = true; kernel_rfl) | (show rdJ _ _ _ _ _ = true; kernel_rfl) | (show tailB _ _ _ = true; kernel_rfl) | (show sftB _ _ _ = true; kernel_rfl))))
    (simp (maxSteps := 2000000) (disch := first | omega | assumption) [i64_in, tnS, Int.toNat_add, Int.toNat_mul, List.getElem?_cons_zero, List.getElem_cons_zero, Tryd.f34, hpl])
theorem sget_ok (B M : Nat) (hBM : M ≠ B) (l : List (Dig × List UInt8)) (n : Int) (d : Dig) :
    ACalls Tryd.prog 35 [.av .ptr (.ptr B StoreT []), .av (tyOf Tryd.prog 24) (encD d)] (stO B M l n) fun r H' => r = .tup [(.str, .s (((l.find? fun p => decide (p.1 = d)).map Prod.snd).getD [])), (.bool, .b (l.find? fun p => decide (p.1 = d)).isSome)] ∧ H' = stO B M l n := by
  have hBM' : ¬ B = M := fun e => hBM e.symm
  have hfd := stE_find d l
  refine ACalls.of_vc laid mixed Tryd.func35 rfl (by kernel_rfl) cf0 (by simp [Tryd.ntmps35]) fun imm0 w0 => ?_
  cases hf : l.find? (fun p => decide (p.1 = d)) with
  | some p =>
    rw [hf] at hfd
    simp only [Option.map_some] at hfd
    (simp (maxSteps := 2000000) (disch := first | omega | assumption) [i64_in, tnS, Int.toNat_add, Int.toNat_mul, List.getElem?_cons_zero, List.getElem_cons_zero, stO, hBM, hBM', hfd])
    (repeat ((with_reducible refine And.intro ?_ ?_); (· first | omega | (show barB _ _ = true; kernel_rfl) | (show rdJ _ _ _ _ _ = true; kernel_rfl) | (show tailB _ _ _ = true; kernel_rfl) | (show sftB _ _ _ = true; kernel_rfl))))
    (simp (maxSteps := 2000000) (disch := first | omega | assumption) [i64_in, tnS, Int.toNat_add, Int.toNat_mul, List.getElem?_cons_zero, List.getElem_cons_zero, Tryd.f35])
  | none =>
    rw [hf] at hfd
    simp only [Option.map_none] at hfd
    (simp (maxSteps := 2000000) (disch := first | omega | assumption) [i64_in, tnS, Int.toNat_add, Int.toNat_mul, List.getElem?_cons_zero, List.getElem_cons_zero, stO, hBM, hBM', hfd])
    (repeat ((with_reducible refine And.intro ?_ ?_); (· first | omega | (show barB _ _ = true; kernel_rfl) | (show rdJ _ _ _ _ _ = true; kernel_rfl) | (show tailB _ _ _ = true; kernel_rfl) | (show sftB _ _ _ = true; kernel_rfl))))
    (simp (maxSteps := 2000000) (disch := first | omega | assumption) [i64_in, tnS, Int.toNat_add, Int.toNat_mul, List.getElem?_cons_zero, List.getElem_cons_zero, Tryd.f35])
theorem scheck_ok (d : Dig) (x : List UInt8) (hx : x.length ≤ 1000000) : PC Tryd.prog 36 [.av (tyOf Tryd.prog 24) (encD d), .av .str (.s x)] (.av .bool (.b (decide (sha x = d)))) := by
  refine PC.of <| ACalls.of_vc laid mixed Tryd.func36 rfl (by kernel_rfl) cf0 (by simp [Tryd.ntmps36]) fun imm0 w0 => ?_
  (simp (maxSteps := 2000000) (disch := first | omega | assumption) [i64_in, tnS, Int.toNat_add, Int.toNat_mul, List.getElem?_cons_zero, List.getElem_cons_zero])
  (repeat ((with_reducible refine And.intro ?_ ?_); (· first | omega | (show barB _ _ = true; kernel_rfl) | (show rdJ _ _ _ _ _ = true; kernel_rfl) | (show tailB _ _ _ = true; kernel_rfl) | (show sftB _ _ _ = true; kernel_rfl))))
  refine callD_pc (sum_ok x (by omega)) rfl rfl (by simp) (by simp [argLe, TV.er, AV.er, AV.ers, strs1]) ?_
  (simp (maxSteps := 2000000) (disch := first | omega | assumption) [i64_in, tnS, Int.toNat_add, Int.toNat_mul, List.getElem?_cons_zero, List.getElem_cons_zero, encD, encD_inj', Tryd.f36])
  show rdJ _ _ _ _ _ = true; kernel_rfl
end Go.Proofs.YtmkpbigaafemnaaDoor
