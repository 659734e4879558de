/- Words turned right: both programs' ways; a word of four bytes; the constants. No condition beyond each theorem's own. -/
import Derived.Test.YtmkpbigaafemnaaDoorS0
set_option linter.unusedSimpArgs false
set_option linter.unusedVariables false
set_option linter.unusedSectionVars false
set_option maxRecDepth 100000
/-! Words turned right: both programs' ways; a word of four bytes; the constants. -/
namespace Go.Proofs.YtmkpbigaafemnaaDoor
open Go Go.Ab
open Classical
attribute [local simp] vc_skip vc_label vc_region vc_drawn vc_seq vc_cond vc_block vc_exit vc_goto vc_ret vc_loop vc_scope vcOps_nil vcOps_cons vcPs_nil vcPs_cons vcDs_nil vcDs_cons vcD impB mkd wkOf isCallV rdOK_eq rdO_nil rdO_tmp rdO_const rdO_global rdO_func rdL_nil rdL_cons rdT_av rdT_cst rdT_pel rdT_tup rdT_junk rdT_loc St.app Op.operands Call.operands vcG_eq iteP wkOf isCallV vcOp putK_eq pureV ev co coC asI asB asS isNil nkOf derefV fieldAddrV indexAddrV indexV lowV boundsV sliceV pickV_eq unV convV convB bytesOf capOf lenV minV withSrc slice3V lookupV mapOf mfind mput scalT mapUpdV makeSliceV appendM appendN growM growOK zM binI isConst binV St.put upd KSeq_n KSeq_x KSeq_g KSeq_r KBlock_n KBlock_x KBlock_g KBlock_r KScope_n KScope_x KScope_r KRet_n KRet_r resL retTV TV.er AV.er AV.ers AV.erk AV.erks Tok.k Heap.er_nil Heap.er_cons Heap.er_app HObj.er_var HObj.er_map Heap.keys_nil Heap.keys_cons Heap.keys_app hget hset subT getP setP_nil setP_one setP_two setPo_some storeV buildV buildL partsOf capTV argOK entry St.of lk_nil lk_cons leLoc siterOf_siter gB_undef gB_av gB_cst undef isNE_tmp isSlT nslD nslDs mslOf mstrV copyV copyK unsV ustrV hdel dataV sameP mtbD isSlN slNilV vcDo_nil vcDo_cons isLt sft sftD softV

@[simp] theorem fnok103 : fnOK Tryd.prog 103 = true := by kernel_rfl
@[simp] theorem isne103 : isNE Tryd.prog (.func 103) = false := isNE_func fnok103
@[simp] theorem fnok106 : fnOK Tryd.prog 106 = true := by kernel_rfl
@[simp] theorem isne106 : isNE Tryd.prog (.func 106) = false := isNE_func fnok106
@[simp] theorem fnok119 : fnOK Tryd.prog 119 = true := by kernel_rfl
@[simp] theorem isne119 : isNE Tryd.prog (.func 119) = false := isNE_func fnok119
@[simp] theorem fnok102 : fnOK Tryd.prog 102 = true := by kernel_rfl
@[simp] theorem isne102 : isNE Tryd.prog (.func 102) = false := isNE_func fnok102
@[simp] theorem fnok101 : fnOK Tryd.prog 101 = true := by kernel_rfl
@[simp] theorem isne101 : isNE Tryd.prog (.func 101) = false := isNE_func fnok101
@[simp] theorem fnok104 : fnOK Tryd.prog 104 = true := by kernel_rfl
@[simp] theorem isne104 : isNE Tryd.prog (.func 104) = false := isNE_func fnok104
@[simp] theorem fnok88 : fnOK Tryd.prog 88 = true := by kernel_rfl
@[simp] theorem isne88 : isNE Tryd.prog (.func 88) = false := isNE_func fnok88

theorem rturn_ok (x : UInt32) (n : Nat) (h0 : 0 < n) (h : n < 32) : PC Tryd.prog 103 [.av (.int .u32) (encW x), .av (.int .i64) (.i .i64 n)] (.av (.int .u32) (encW (rotr x n))) := by
  have e1 : IntKind.i64.wrap (32 - (n : Int)) = ((32 - n : Nat) : Int) := by rw [i64_in (by omega) (by omega)]; omega
  have s1 := wshr x h
  have s2 := wshl x (show 32 - n < 32 by omega)
  refine PC.of <| ACalls.of_vc laid mixed Tryd.func103 rfl (by kernel_rfl) cf0 (by simp [Tryd.ntmps103]) fun imm0 w0 => ?_
  simp [e1, Tryd.f103, s1, s2, wor, rotr, -BitVec.toNat_or]

theorem rotl_ok (x : UInt32) (n : Nat) (h0 : 0 < n) (h : n < 32) : PC Tryd.prog 119 [.av (.int .u32) (encW x), .av (.int .i64) (.i .i64 ((32 - n : Nat) : Int))] (.av (.int .u32) (encW (rotr x n))) := by
  have e1 : IntKind.u64.wrap ((32 - n : Nat) : Int) = ((32 - n : Nat) : Int) := u64_small (by omega)
  have e4 : (BitVec.ofInt IntKind.u64.bits ((32 - n : Nat) : Int) &&& BitVec.ofInt IntKind.u64.bits 31).toNat = 32 - n := and31 (by omega)
  have e5 : IntKind.u64.wrap (32 - ((32 - n : Nat) : Int)) = (n : Int) := by
    have : (32 - ((32 - n : Nat) : Int)) = (n : Int) := by omega
    rw [this]; exact u64_small (by omega)
  have s1 := wshr x h
  have s2 := wshl x (show 32 - n < 32 by omega)
  have hc : rotr x n = (x <<< UInt32.ofNat (32 - n)) ||| (x >>> UInt32.ofNat n) := UInt32.or_comm _ _
  refine PC.of <| ACalls.of_vc laid mixed Tryd.func119 rfl (by kernel_rfl) cf0 (by simp [Tryd.ntmps119]) fun imm0 w0 => ?_
  have e4' : (BitVec.ofNat IntKind.u64.bits (32 - n) &&& 31#IntKind.u64.bits).toNat = 32 - n := by rw [← BitVec.ofInt_natCast]; exact e4
  simp [e1, e4', e5, Tryd.f119, s1, s2, wor, hc, -BitVec.toNat_or, -BitVec.toNat_and]

theorem turned_ok (x : UInt32) (n : Nat) (h0 : 0 < n) (h : n < 32) : PC Tryd.prog 106 [.av (.int .u32) (encW x), .av (.int .i64) (.i .i64 n)] (.av (.int .u32) (encW (rotr x n))) := by
  have e1 : IntKind.i64.wrap (32 - (n : Int)) = ((32 - n : Nat) : Int) := by rw [i64_in (by omega) (by omega)]; omega
  refine PC.of <| ACalls.of_vc laid mixed Tryd.func106 rfl (by kernel_rfl) cf0 (by simp [Tryd.ntmps106]) fun imm0 w0 => ?_
  simp [e1]
  refine callV_pure (r := .av (.int .u32) (encW (rotr x n))) rfl (by simp [argOK]) (by simp) ?_ ?_
  · have := rotl_ok x n h0 h
    simpa [TV.er, AV.er] using this
  · simp [Tryd.f106]

def encBs (l : List UInt8) : AV := .sl .no (l.map fun b => .i .u8 b.toNat)
@[simp] theorem er_encBs (l : List UInt8) : (encBs l).er = encBs l := by simp [encBs, AV.er, AV.ers_eq, Function.comp_def]
@[simp] theorem erk_encBs (l : List UInt8) : (encBs l).erk = encBs l := erk_of_er _ (er_encBs l)
theorem rword_ok (a b c d : UInt8) : PC Tryd.prog 102 [.av (.slice 5) (encBs [a, b, c, d])] (.av (.int .u32) (encW (wordOf a b c d))) := by
  have s1 := wshl a.toUInt32 (show 24 < 32 by omega)
  have s2 := wshl b.toUInt32 (show 16 < 32 by omega)
  have s3 := wshl c.toUInt32 (show 8 < 32 by omega)
  refine PC.of <| ACalls.of_vc laid mixed Tryd.func102 rfl (by kernel_rfl) cf0 (by simp [Tryd.ntmps102]) fun imm0 w0 => ?_
  simp [encBs, wbyte, Tryd.f102, s1, s2, s3, wor, wordOf, -BitVec.toNat_or]

theorem rks_ok : PC Tryd.prog 101 [] (.av (.slice 129) (.sl .no (k64.map encW))) := by
  refine PC.of <| ACalls.of_vc laid mixed Tryd.func101 rfl (by kernel_rfl) cf0 (by simp [Tryd.ntmps101]) fun imm0 w0 => ?_
  simp [Tryd.f101, k64, wi]
theorem constants_ok : PC Tryd.prog 104 [] (.av (.arr 64 129) (.agg (k64.map encW))) := by
  refine PC.of <| ACalls.of_vc laid mixed Tryd.func104 rfl (by kernel_rfl) cf0 (by simp [Tryd.ntmps104]) fun imm0 w0 => ?_
  simp [Tryd.f104, k64, wi]
theorem begin_ok : PC Tryd.prog 88 [] (.av (.arr 8 129) (.agg (h8.map encW))) := by
  refine PC.of <| ACalls.of_vc laid mixed Tryd.func88 rfl (by kernel_rfl) cf0 (by simp [Tryd.ntmps88]) fun imm0 w0 => ?_
  simp [Tryd.f88, h8, wi]
end Go.Proofs.YtmkpbigaafemnaaDoor
