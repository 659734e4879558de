/- Outcomes; a row's copy. No condition beyond each theorem's own. -/
import Derived.Test.YtmkpbigaafemnaaDoorP16
set_option linter.unusedSimpArgs false
set_option linter.unusedVariables false
set_option linter.unusedSectionVars false
set_option maxRecDepth 100000
/-! Outcomes; a row's copy. -/
namespace Go.Proofs.YtmkpbigaafemnaaDoor
open Go Go.Ab
open Classical
attribute [local simp] vc_skip vc_label vc_region vc_drawn vc_seq vc_cond vc_block vc_exit vc_goto vc_ret vc_loop vc_scope vcOps_nil vcOps_cons vcPs_nil vcPs_cons vcDs_nil vcDs_cons vcD impB mkd wkOf isCallV rdOK_eq rdO_nil rdO_tmp rdO_const rdO_global rdO_func rdL_nil rdL_cons rdT_av rdT_cst rdT_pel rdT_tup rdT_junk rdT_loc St.app Op.operands Call.operands vcG_eq iteP wkOf isCallV vcOp putK_eq pureV ev co coC asI asB asS isNil nkOf derefV fieldAddrV indexAddrV indexV lowV boundsV sliceV pickV_eq unV convV convB bytesOf capOf lenV minV withSrc slice3V lookupV mapOf mfind mput scalT mapUpdV makeSliceV appendM appendN growM growOK zM binI isConst binV St.put upd KSeq_n KSeq_x KSeq_g KSeq_r KBlock_n KBlock_x KBlock_g KBlock_r KScope_n KScope_x KScope_r KRet_n KRet_r resL retTV TV.er AV.er AV.ers AV.erk AV.erks Tok.k Heap.er_nil Heap.er_cons Heap.er_app HObj.er_var HObj.er_map Heap.keys_nil Heap.keys_cons Heap.keys_app hget hset subT getP setP_nil setP_one setP_two setPo_some storeV buildV buildL partsOf capTV argOK entry St.of lk_nil lk_cons leLoc siterOf_siter gB_undef gB_av gB_cst undef isNE_tmp isSlT nslD nslDs mslOf mstrV copyV copyK unsV ustrV hdel dataV sameP mtbD isSlN slNilV vcDo_nil vcDo_cons isLt sft sftD softV

structure FileV where
  path : List UInt8
  data : List UInt8
deriving DecidableEq
structure OutV where
  kind : Int
  why : Int
  outs : List FileV
  reads : List Read
def encFile (f : FileV) : AV := .agg [.s f.path, .s f.data]
def encFiles (l : List FileV) : AV := .sl .no (l.map encFile)
def encOut (o : OutV) : AV := .agg [.i .i64 o.kind, .i .i64 o.why, encFiles o.outs, encReads o.reads]
@[simp] theorem er_encFile (f : FileV) : (encFile f).er = encFile f := by simp [encFile, AV.er, AV.ers]
@[simp] theorem er_encFiles (l : List FileV) : (encFiles l).er = encFiles l := by simp [encFiles, AV.er, AV.ers_eq, Function.comp_def]
@[simp] theorem er_encOut (o : OutV) : (encOut o).er = encOut o := by simp [encOut, AV.er, AV.ers]
@[simp] theorem erk_encFile (x : FileV) : (encFile x).erk = encFile x := erk_of_er _ (er_encFile x)
@[simp] theorem erk_encFiles (x : List FileV) : (encFiles x).erk = encFiles x := erk_of_er _ (er_encFiles x)
@[simp] theorem erk_encOut (x : OutV) : (encOut x).erk = encOut x := erk_of_er _ (er_encOut x)

@[simp] theorem fnok56 : fnOK Tryd.prog 56 = true := by kernel_rfl
@[simp] theorem isne56 : isNE Tryd.prog (.func 56) = false := isNE_func fnok56
theorem clone_ok (l : List Read) (hl : l.length ≤ 1000) : PC Tryd.prog 56 [.av (.slice 43) (encReads l)] (.av (.slice 43) (encReads l)) := by
  refine PC.of <| ACalls.of_vc laid mixed Tryd.func56 rfl (by kernel_rfl) cf0 (by simp [Tryd.ntmps56]) fun imm0 w0 => ?_
  (simp (maxSteps := 2000000) (disch := first | omega | assumption) [i64_in, tnS, Int.toNat_add, Int.toNat_mul, List.getElem?_cons_zero, List.getElem_cons_zero, encReads])
  refine ⟨?_, ?_⟩
  · intro h
    subst h
    (simp (maxSteps := 2000000) (disch := first | omega | assumption) [i64_in, tnS, Int.toNat_add, Int.toNat_mul, List.getElem?_cons_zero, List.getElem_cons_zero, Tryd.f56])
  · (simp (maxSteps := 2000000) (disch := first | omega | assumption) [i64_in, tnS, Int.toNat_add, Int.toNat_mul, List.getElem?_cons_zero, List.getElem_cons_zero, appendV, Tryd.f56])
    exact ⟨by omega, by omega, by simp [AV.ers_eq, Function.comp_def]⟩
end Go.Proofs.YtmkpbigaafemnaaDoor
