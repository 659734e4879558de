/- A key's row of traces: found, taken out, put in front. No condition beyond each theorem's own. -/
import Derived.Test.YthdgnfnalimcnaaGreatDoorP14
set_option linter.unusedSimpArgs false
set_option linter.unusedVariables false
set_option linter.unusedSectionVars false
set_option maxRecDepth 100000
/-! A key's row of traces: found, taken out, put in front. -/
namespace Go.Proofs.YthdgnfnalimcnaaGreatDoor
open Go Go.Ab
open Classical
variable [Sel]
attribute [local simp] vc_skip hiLen zN capV cpyD appendZ clearV delV mdel copyVT extV ovV vc_label vc_region vc_drawn vc_seq vc_cond vc_block vc_exit vc_goto vc_ret vc_loop vc_scope vcOps_nil vcOps_cons vcPs_nil vcPs_cons vcDs_nil vcDs_cons vcD impB mkd wkOf isCallV rdOK_eq rdO_nil rdO_tmp rdO_const rdO_global rdO_func rdL_nil rdL_cons rdT_av rdT_cst rdT_pel rdT_tup rdT_junk rdT_loc St.app Op.operands Call.operands vcG_eq iteP wkOf isCallV vcOp putK_eq pureV ev co coC asI asB asS isNil nkOf derefV fieldAddrV indexAddrV indexV lowV boundsV sliceV pickV_eq unV convV convB bytesOf capOf lenV minV withSrc slice3V lookupV mapOf mfind mput scalT mapUpdV makeSliceV appendM appendN growM growOK zM binI isConst binV St.put upd KSeq_n KSeq_x KSeq_g KSeq_r KBlock_n KBlock_x KBlock_g KBlock_r KScope_n KScope_x KScope_r KRet_n KRet_r resL retTV TV.er AV.er AV.ers AV.erk AV.erks Tok.k Heap.er_nil Heap.er_cons Heap.er_app HObj.er_var HObj.er_map Heap.keys_nil Heap.keys_cons Heap.keys_app hget hset subT getP setP_nil setP_one setP_two setPo_some storeV buildV buildL partsOf capTV argOK entry St.of lk_nil lk_cons leLoc siterOf_siter gB_undef gB_av gB_cst undef isNE_tmp isSlT nslD nslDs mslOf mstrV copyV copyK unsV ustrV hdel dataV sameP mtbD isSlN slNilV vcDo_nil vcDo_cons isLt sft sftD softV rangeMV entryMV cmpV

@[simp] theorem fnok29 : fnOK Tryz.prog 29 = true := by kernel_rfl
@[simp] theorem isne29 : isNE Tryz.prog (.func 29) = false := isNE_func fnok29
@[simp] theorem fnok56 : fnOK Tryz.prog 56 = true := by kernel_rfl
@[simp] theorem isne56 : isNE Tryz.prog (.func 56) = false := isNE_func fnok56
@[simp] theorem fnok28 : fnOK Tryz.prog 28 = true := by kernel_rfl
@[simp] theorem isne28 : isNE Tryz.prog (.func 28) = false := isNE_func fnok28
@[simp] theorem fnok31 : fnOK Tryz.prog 31 = true := by kernel_rfl
@[simp] theorem isne31 : isNE Tryz.prog (.func 31) = false := isNE_func fnok31
@[simp] theorem fnok32 : fnOK Tryz.prog 32 = true := by kernel_rfl
@[simp] theorem isne32 : isNE Tryz.prog (.func 32) = false := isNE_func fnok32
@[simp] theorem fnok42 : fnOK Tryz.prog 42 = true := by kernel_rfl
@[simp] theorem isne42 : isNE Tryz.prog (.func 42) = false := isNE_func fnok42
@[simp] theorem fnok61 : fnOK Tryz.prog 61 = true := by kernel_rfl
@[simp] theorem isne61 : isNE Tryz.prog (.func 61) = false := isNE_func fnok61
@[simp] theorem fnok62 : fnOK Tryz.prog 62 = true := by kernel_rfl
@[simp] theorem isne62 : isNE Tryz.prog (.func 62) = false := isNE_func fnok62
def trs (l : List Trace) : List AV := l.map encTrace
@[simp] theorem trs_length (l : List Trace) : (trs l).length = l.length := by simp [trs]
@[simp] theorem ers_trs (l : List Trace) : AV.ers (trs l) = trs l := by simp [trs, AV.ers_eq, Function.comp_def]
@[simp] theorem erks_trs (l : List Trace) : AV.erks (trs l) = trs l := by simp [trs, AV.erks_eq, Function.comp_def]
theorem erks_app' (a b : List AV) : AV.erks (a ++ b) = AV.erks a ++ AV.erks b := by simp [AV.erks_eq]
theorem trs_app (a b : List Trace) : trs (a ++ b) = trs a ++ trs b := by simp [trs]
theorem trs_get (l : List Trace) (k : Nat) (h : k < l.length) : (trs l)[k]? = some (encTrace l[k]) := by simp [trs, List.getElem?_eq_getElem h]
theorem trs_getJ (l : List Trace) (j : List AV) (k : Nat) (h : k < l.length) : (trs l ++ j)[k]? = some (encTrace l[k]) := by
  rw [List.getElem?_append_left (by simpa using h), trs_get l k h]
/-- what lies behind a row's own elements -/
def JK (j : List AV) : Prop := AV.erks j = j
theorem JK.app {a b : List AV} (ha : JK a) (hb : JK b) : JK (a ++ b) := by unfold JK at *; rw [erks_app', ha, hb]
theorem JK.nil : JK [] := rfl
theorem JK.trs (l : List Trace) : JK (trs l) := erks_trs l
theorem JK.take {a : List AV} (h : JK a) (n : Nat) : JK (a.take n) := by
  unfold JK at *; rw [AV.erks_eq] at *; rw [List.map_take, h]
theorem JK.drop {a : List AV} (h : JK a) (n : Nat) : JK (a.drop n) := by
  unfold JK at *; rw [AV.erks_eq] at *; rw [List.map_drop, h]
/-- a trace's zero value -/
def tr0A : AV := .agg [.agg (List.replicate 32 (.i .u8 0)), .sl .full [], .sl .full []]
theorem JK.zeros (n : Nat) : JK (List.replicate n tr0A) := by
  unfold JK; rw [AV.erks_eq, List.map_replicate]
  congr 1
noncomputable def rowO (cap : Nat) (ts : List Trace) (j : List AV) : HObj := .var (.arr cap 34) (.agg (trs ts ++ j))
theorem rowO_er {cap : Nat} {ts : List Trace} {j : List AV} (h : JK j) : (rowO cap ts j).er = rowO cap ts j := by
  simp only [rowO, HObj.er_var, AV.erk, erks_app', erks_trs]
  rw [show AV.erks j = j from h]
abbrev TrT : TyD := .struct [30, 31, 32]
noncomputable abbrev capF (bt : Nat) : AV := .fn 29 [.ptr bt TrT []]
noncomputable def tvO (t : Trace) : HObj := .var TrT (encTrace t)
theorem add1_ok (x t : Trace) (hx : TrOK x) (ht : TrOK t) (bt : Nat) : ACalls Tryz.prog 29 [.av (tyOf Tryz.prog 34) (encTrace x), .av .ptr (.ptr bt TrT [])] [(bt, tvO t)]
    fun r H' => r = .av .bool (.b (sameV x t)) ∧ H' = [(bt, tvO t)] := by
  refine ACalls.of_vc laid mixed Tryz.func29 rfl (by kernel_rfl) cf0 (by simp [Tryz.ntmps29]) fun imm0 w0 => ?_
  (simp (maxSteps := 2000000) (disch := first | omega | assumption) [i64_in, tnS, Int.toNat_add, Int.toNat_mul, List.getElem?_cons_zero, List.getElem_cons_zero, tvO])
  refine callV_pc (same_ok x t hx ht) rfl rfl (by simp) (by simp [argLe, TV.er]) ?_
  (simp (maxSteps := 2000000) (disch := first | omega | assumption) [i64_in, tnS, Int.toNat_add, Int.toNat_mul, List.getElem?_cons_zero, List.getElem_cons_zero, Tryz.f29])
theorem idxTr_ok (ts : List Trace) (t : Trace) (hts : ∀ x ∈ ts, TrOK x) (ht : TrOK t) (b bt cap : Nat) (j : List AV) (hj : JK j) (hb : b ≠ bt) (hcap : ts.length + j.length = cap) (hn : ts.length ≤ 1000) :
    ACalls Tryz.prog 56 [.av (.slice 34) (.msl b 34 0 ts.length cap), .av .func (capF bt)] [(b, rowO cap ts j), (bt, tvO t)]
      fun r H' => r = .av (.int .i64) (.i .i64 (idxOf (fun x => sameV x t) ts)) ∧ H' = [(b, rowO cap ts j), (bt, tvO t)] := by
  refine ACalls.of_vc laid mixed Tryz.func56 rfl (by kernel_rfl) cf0 (by simp [Tryz.ntmps56]) fun imm0 w0 => ?_
  (simp (maxSteps := 2000000) (disch := first | omega | assumption) [i64_in, tnS, Int.toNat_add, Int.toNat_mul, List.getElem?_cons_zero, List.getElem_cons_zero])
  refine AT.loop' (α := Nat) (fun k => St.of [(0, .av (.slice 34) (.msl b 34 0 ts.length cap)), (1, .av .func (capF bt)), (7, .av (.int .i64) (.i .i64 ts.length)), (8, .av (.int .i64) (.i .i64 k))] [] (fun _ => 0) [(b, rowO cap ts j), (bt, tvO t)])
    (fun k => k ≤ ts.length ∧ ∀ x ∈ ts.take k, sameV x t = false) (fun k => ts.length - k) 0 ?_ ?_ ?_
  · refine Le.of ?_ ?_ ?_ ?_ ?_ <;> simp [leTV, locsIn, encDigs, encTraces, encWant, encTrace, encReads, encRead, encMades, encMade, lk_nil] <;> try omega
  · simp
  rintro k ⟨hk', hpk⟩ KL hN hE
  refine vc_sound (cf := cf0) laid mixed _ _ _ (by kernel_rfl) ?_
  by_cases hlt : k < ts.length
  · have hlt' : (k : Int) < ts.length := by omega
    have hg := trs_getJ ts j k hlt
    (simp (maxSteps := 2000000) (disch := first | omega | assumption) [i64_in, tnS, Int.toNat_add, Int.toNat_mul, List.getElem?_cons_zero, List.getElem_cons_zero, hlt', rowO, hg])
    (repeat ((with_reducible refine And.intro ?_ ?_); (· first | omega | (show barB _ _ = true; kernel_rfl) | (show rdJ _ _ _ _ _ = true; kernel_rfl) | (show tailB _ _ _ = true; kernel_rfl) | (show sftB _ _ _ = true; kernel_rfl))))
    refine callV_sub (R := fun r' H' => r' = .av .bool (.b (sameV ts[k] t)) ∧ H' = [(bt, tvO t)]) [(bt, tvO t)] [(b, rowO cap ts j)] (List.Perm.swap _ _ _) rfl (by simp [argOK]) (by simp) ?_ ?_
    · have := add1_ok ts[k] t (hts _ (List.getElem_mem hlt)) ht bt
      simpa [TV.er, AV.er, tvO] using this
    rintro r' H' ⟨rfl, rfl⟩ _
    refine ⟨[(b, rowO cap ts j), (bt, tvO t)], HSub.of_perm (List.Perm.swap _ _ _), ?_⟩
    by_cases hp : sameV ts[k] t = true
    · (simp (maxSteps := 2000000) (disch := first | omega | assumption) [i64_in, tnS, Int.toNat_add, Int.toNat_mul, List.getElem?_cons_zero, List.getElem_cons_zero, hp])
      refine hE _ _ (by simp) ?_
      (simp (maxSteps := 2000000) (disch := first | omega | assumption) [i64_in, tnS, Int.toNat_add, Int.toNat_mul, List.getElem?_cons_zero, List.getElem_cons_zero, Tryz.f56, idxOf_hit hlt hpk hp, rowO_er hj, tvO])
    · (simp (maxSteps := 2000000) (disch := first | omega | assumption) [i64_in, tnS, Int.toNat_add, Int.toNat_mul, List.getElem?_cons_zero, List.getElem_cons_zero, hp])
      refine hN _ (k+1) ?_ ⟨by omega, by rw [take_succ_all hlt]; exact ⟨hpk, by simpa using hp⟩⟩ (by omega)
      refine Le.of ?_ ?_ ?_ ?_ ?_ <;> simp [leTV, locsIn, encDigs, encTraces, encWant, encTrace, encReads, encRead, encMades, encMade, lk_nil] <;> try omega
  · have hlt' : ¬ (k : Int) < ts.length := by omega
    (simp (maxSteps := 2000000) (disch := first | omega | assumption) [i64_in, tnS, Int.toNat_add, Int.toNat_mul, List.getElem?_cons_zero, List.getElem_cons_zero, hlt'])
    refine hE _ _ (by simp) ?_
    rw [List.take_of_length_le (by omega)] at hpk
    (simp (maxSteps := 2000000) (disch := first | omega | assumption) [i64_in, tnS, Int.toNat_add, Int.toNat_mul, List.getElem?_cons_zero, List.getElem_cons_zero, Tryz.f56, idxOf_miss hpk, rowO_er hj, tvO])
theorem idxNil_ok (t : Trace) (bt : Nat) :
    ACalls Tryz.prog 56 [.av (.slice 34) .nsl, .av .func (capF bt)] [(bt, tvO t)]
      fun r H' => r = .av (.int .i64) (.i .i64 (-1)) ∧ H' = [(bt, tvO t)] := by
  refine ACalls.of_vc laid mixed Tryz.func56 rfl (by kernel_rfl) cf0 (by simp [Tryz.ntmps56]) fun imm0 w0 => ?_
  (simp (maxSteps := 2000000) (disch := first | omega | assumption) [i64_in, tnS, Int.toNat_add, Int.toNat_mul, List.getElem?_cons_zero, List.getElem_cons_zero])
  refine AT.loop' (α := Nat) (fun k => St.of [(0, .av (.slice 34) .nsl), (1, .av .func (capF bt)), (7, .av (.int .i64) (.i .i64 0)), (8, .av (.int .i64) (.i .i64 0))] [] (fun _ => 0) [(bt, tvO t)])
    (fun k => True) (fun k => 0) 0 ?_ ?_ ?_
  · refine Le.of ?_ ?_ ?_ ?_ ?_ <;> simp [leTV, locsIn, encDigs, encTraces, encWant, encTrace, encReads, encRead, encMades, encMade, lk_nil] <;> try omega
  · simp
  rintro k - KL hN hE
  refine vc_sound (cf := cf0) laid mixed _ _ _ (by kernel_rfl) ?_
  (simp (maxSteps := 2000000) (disch := first | omega | assumption) [i64_in, tnS, Int.toNat_add, Int.toNat_mul, List.getElem?_cons_zero, List.getElem_cons_zero])
  refine hE _ _ (by simp) ?_
  (simp (maxSteps := 2000000) (disch := first | omega | assumption) [i64_in, tnS, Int.toNat_add, Int.toNat_mul, List.getElem?_cons_zero, List.getElem_cons_zero, Tryz.f56, tvO])
end Go.Proofs.YthdgnfnalimcnaaGreatDoor
