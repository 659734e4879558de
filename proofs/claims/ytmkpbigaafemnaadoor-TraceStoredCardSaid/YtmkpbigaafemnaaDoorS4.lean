/- The program's SHA-256: a block's words. No condition beyond each theorem's own. -/
import Derived.Test.YtmkpbigaafemnaaDoorS2
set_option linter.unusedSimpArgs false
set_option linter.unusedVariables false
set_option linter.unusedSectionVars false
set_option maxRecDepth 100000
/-! The program's SHA-256: a block's words. -/
namespace Go.Proofs.YtmkpbigaafemnaaDoor
open Go Go.Ab
open Classical
attribute [local simp] vc_skip vc_label vc_region vc_drawn vc_seq vc_cond vc_block vc_exit vc_goto vc_ret vc_loop vc_scope vcOps_nil vcOps_cons vcPs_nil vcPs_cons vcDs_nil vcDs_cons vcD impB mkd wkOf isCallV rdOK_eq rdO_nil rdO_tmp rdO_const rdO_global rdO_func rdL_nil rdL_cons rdT_av rdT_cst rdT_pel rdT_tup rdT_junk rdT_loc St.app Op.operands Call.operands vcG_eq iteP wkOf isCallV vcOp putK_eq pureV ev co coC asI asB asS isNil nkOf derefV fieldAddrV indexAddrV indexV lowV boundsV sliceV pickV_eq unV convV convB bytesOf capOf lenV minV withSrc slice3V lookupV mapOf mfind mput scalT mapUpdV makeSliceV appendM appendN growM growOK zM binI isConst binV St.put upd KSeq_n KSeq_x KSeq_g KSeq_r KBlock_n KBlock_x KBlock_g KBlock_r KScope_n KScope_x KScope_r KRet_n KRet_r resL retTV TV.er AV.er AV.ers AV.erk AV.erks Tok.k Heap.er_nil Heap.er_cons Heap.er_app HObj.er_var HObj.er_map Heap.keys_nil Heap.keys_cons Heap.keys_app hget hset subT getP setP_nil setP_one setP_two setPo_some storeV buildV buildL partsOf capTV argOK entry St.of lk_nil lk_cons leLoc siterOf_siter gB_undef gB_av gB_cst undef isNE_tmp isSlT nslD nslDs mslOf mstrV copyV copyK unsV ustrV hdel dataV sameP mtbD isSlN slNilV vcDo_nil vcDo_cons isLt sft sftD softV

@[simp] theorem fnok105 : fnOK Tryd.prog 105 = true := by kernel_rfl
@[simp] theorem isne105 : isNE Tryd.prog (.func 105) = false := isNE_func fnok105
/-- the words behind some bytes -/
def spreadAt (b : List UInt8) (k : Nat) : List UInt32 := sched b (k / 4) ++ (if k % 4 = 0 then [] else [match k % 4 with
  | 1 => b.getD (4*(k/4)) 0 |>.toUInt32
  | 2 => ((b.getD (4*(k/4)) 0).toUInt32 <<< 8) ||| (b.getD (4*(k/4)+1) 0).toUInt32
  | _ => (((b.getD (4*(k/4)) 0).toUInt32 <<< 8) ||| (b.getD (4*(k/4)+1) 0).toUInt32) <<< 8 ||| (b.getD (4*(k/4)+2) 0).toUInt32])
def fillW (w : List UInt32) : List UInt32 := w ++ List.replicate (64 - w.length) 0
theorem fillW_len {w : List UInt32} (h : w.length ≤ 64) : (fillW w).length = 64 := by simp [fillW]; omega
theorem spreadAt_zero (b : List UInt8) : fillW (spreadAt b 0) = List.replicate 64 0 := by simp [spreadAt, sched, fillW]
theorem spreadAt_step (b : List UInt8) (k : Nat) (h : k < 64) : fillW (spreadAt b (k+1)) = (fillW (spreadAt b k)).set (k/4) (((fillW (spreadAt b k)).getD (k/4) 0 <<< 8) ||| (b.getD k 0).toUInt32) := by
  obtain ⟨q, r, rfl, hr⟩ : ∃ q r, k = 4*q + r ∧ r < 4 := ⟨k/4, k%4, by omega, by omega⟩
  have hq : (4*q+r)/4 = q := by omega
  have hm : (4*q+r)%4 = r := by omega
  have hlen := sched_len b q
  have hrep : List.replicate (64 - q) (0 : UInt32) = 0 :: List.replicate (64 - (q+1)) 0 := by
    rw [show 64 - q = (64 - (q+1)) + 1 by omega, List.replicate_succ]
  rcases (by omega : r = 0 ∨ r = 1 ∨ r = 2 ∨ r = 3) with rfl | rfl | rfl | rfl
  · have h1 : (4*q+0+1)/4 = q := by omega
    have h2 : (4*q+0+1)%4 = 1 := by omega
    simp only [spreadAt, hq, hm, h1, h2, fillW, hlen, if_true, List.append_nil]
    simp [hlen, hrep, List.getElem?_append_right, List.set_append_right]
  · have h1 : (4*q+1+1)/4 = q := by omega
    have h2 : (4*q+1+1)%4 = 2 := by omega
    simp only [spreadAt, hq, hm, h1, h2, fillW, hlen]
    simp [hlen, List.getElem?_append_right, List.set_append_right]
  · have h1 : (4*q+2+1)/4 = q := by omega
    have h2 : (4*q+2+1)%4 = 3 := by omega
    simp only [spreadAt, hq, hm, h1, h2, fillW, hlen]
    simp [hlen, List.getElem?_append_right, List.set_append_right]
  · have h1 : (4*q+3+1)/4 = q + 1 := by omega
    have h2 : (4*q+3+1)%4 = 0 := by omega
    have hw := wordOf_steps (b.getD (4*q) 0) (b.getD (4*q+1) 0) (b.getD (4*q+2) 0) (b.getD (4*q+3) 0)
    simp only [UInt32.zero_shiftLeft, UInt32.zero_or] at hw
    simp only [spreadAt, hq, hm, h1, h2, fillW, hlen, sched, if_pos (show q < 16 by omega), wordAt]
    simp [hlen, List.getElem?_append_right, List.set_append_right]
    simp only [List.getD_eq_getElem?_getD] at hw
    exact hw.symm
theorem spreadAt_end (b : List UInt8) : spreadAt b 64 = sched b 16 := by simp [spreadAt]
/-- a word more -/
theorem fillW_sched (b : List UInt8) (k : Nat) (h : k < 64) (h16 : 16 ≤ k) : fillW (sched b (k+1)) = (fillW (sched b k)).set k (nextW (sched b k)) := by
  have hlen := sched_len b k
  have hrep : List.replicate (64 - k) (0 : UInt32) = 0 :: List.replicate (64 - (k+1)) 0 := by
    rw [show 64 - k = (64 - (k+1)) + 1 by omega, List.replicate_succ]
  simp only [fillW, sched, hlen, if_neg (show ¬ k < 16 by omega)]
  simp [hlen, hrep, List.set_append_right]
end Go.Proofs.YtmkpbigaafemnaaDoor
