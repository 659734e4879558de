/- Runes of texts; a part. No condition beyond each theorem's own. -/
import Derived.Test.YthdgnfnalimcnaaGreatDoorP0
set_option linter.unusedSimpArgs false
set_option linter.unusedVariables false
set_option linter.unusedSectionVars false
set_option maxRecDepth 100000
/-! Runes of texts; a part. -/
namespace Go.Proofs.YthdgnfnalimcnaaGreatDoor
open Go Go.Ab
open Classical
variable [Sel]
attribute [local simp] vc_skip hiLen zN capV cpyD appendZ clearV delV mdel copyVT extV ovV vc_label vc_region vc_drawn vc_seq vc_cond vc_block vc_exit vc_goto vc_ret vc_loop vc_scope vcOps_nil vcOps_cons vcPs_nil vcPs_cons vcDs_nil vcDs_cons vcD impB mkd wkOf isCallV rdOK_eq rdO_nil rdO_tmp rdO_const rdO_global rdO_func rdL_nil rdL_cons rdT_av rdT_cst rdT_pel rdT_tup rdT_junk rdT_loc St.app Op.operands Call.operands vcG_eq iteP wkOf isCallV vcOp putK_eq pureV ev co coC asI asB asS isNil nkOf derefV fieldAddrV indexAddrV indexV lowV boundsV sliceV pickV_eq unV convV convB bytesOf capOf lenV minV maxV withSrc slice3V lookupV mapOf mfind mput scalT mapUpdV makeSliceV appendM appendN growM growOK zM binI isConst binV St.put upd KSeq_n KSeq_x KSeq_g KSeq_r KBlock_n KBlock_x KBlock_g KBlock_r KScope_n KScope_x KScope_r KRet_n KRet_r resL retTV TV.er AV.er AV.ers AV.erk AV.erks Tok.k Heap.er_nil Heap.er_cons Heap.er_app HObj.er_var HObj.er_map Heap.keys_nil Heap.keys_cons Heap.keys_app hget hset subT getP setP_nil setP_one setP_two setPo_some storeV buildV buildL partsOf capTV argOK entry St.of lk_nil lk_cons leLoc siterOf_siter gB_undef gB_av gB_cst undef isNE_tmp isSlT nslD nslDs mslOf mstrV copyV copyK unsV ustrV hdel dataV sameP mtbD isSlN slNilV vcDo_nil vcDo_cons isLt sft sftD softV rangeMV entryMV cmpV

theorem getB (l : List UInt8) (i : Nat) : ((ByteArray.mk l.toArray).get! i) = l.getD i 0 := by
  show (l.toArray)[i]! = l.getD i 0
  simp [List.getD_eq_getElem?_getD]
  rfl
theorem rune_ascii {l : List UInt8} {k : Nat} {b : UInt8} (h : l[k]? = some b) (hb : b.toNat < 128) : runeAt l k = (b.toNat, 1) := by
  have h0 : ((ByteArray.mk l.toArray).get! (k + 0)).toNat = b.toNat := by rw [getB]; simp [h]
  unfold runeAt Utf8.decode
  simp only [h0]
  rw [if_pos (by omega)]
theorem rune_big {l : List UInt8} {k : Nat} {b : UInt8} (h : l[k]? = some b) (hb : ¬ b.toNat < 128) : 128 ≤ (runeAt l k).1 ∧ (runeAt l k).1 ≤ 1114111 := by
  have h0 : ((ByteArray.mk l.toArray).get! (k + 0)).toNat = b.toNat := by rw [getB]; simp [h]
  have hlt := b.toNat_lt
  unfold runeAt Utf8.decode
  simp only [h0]
  rw [if_neg (by omega)]
  have he : Utf8.runeError = 65533 := rfl
  have hv : ∀ n : Int, Utf8.valid n = true → n ≤ 1114111 := by
    intro n hn
    unfold Utf8.valid at hn
    simp at hn
    omega
  have m1 := Nat.mod_lt ((ByteArray.mk l.toArray).get! (k + 1)).toNat (show 64 > 0 by decide)
  have m2 := Nat.mod_lt ((ByteArray.mk l.toArray).get! (k + 2)).toNat (show 64 > 0 by decide)
  have m3 := Nat.mod_lt ((ByteArray.mk l.toArray).get! (k + 3)).toNat (show 64 > 0 by decide)
  split
  · split
    · exact ⟨by simp only; omega, by simp only; omega⟩
    · rw [he]; exact ⟨by decide, by decide⟩
  · split
    · split
      · rename_i hc
        rw [Bool.and_eq_true] at hc
        have h1 := of_decide_eq_true hc.1
        exact ⟨by simp only; omega, by simp only; omega⟩
      · rw [he]; exact ⟨by decide, by decide⟩
    · split
      · split
        · rename_i hc
          rw [Bool.and_eq_true] at hc
          have h1 := of_decide_eq_true hc.1
          have h2 := hv _ hc.2
          exact ⟨by simp only; omega, by simp only; omega⟩
        · rw [he]; exact ⟨by decide, by decide⟩
      · rw [he]; exact ⟨by decide, by decide⟩
set_option maxHeartbeats 4000000 in
theorem notSign_ok (n : Nat) (hn : n ≤ 1114111) : PC Tryz.prog 127 [.av (.int .i32) (.i .i32 n)] (.av .bool (.b (!signN n))) := by
  refine PC.of <| ACalls.of_vc laid mixed Tryz.func127 rfl (by kernel_rfl) cf0 (by simp [Tryz.ntmps127]) fun imm0 w0 => ?_
  (simp (maxSteps := 2000000) (disch := first | omega | assumption) [i64_in, tnS, Int.toNat_add, Int.toNat_mul, List.getElem?_cons_zero, List.getElem_cons_zero])
  refine callV_pc (sign_ok n hn) rfl rfl (by simp) (by simp [argLe, TV.er, AV.er]) ?_
  (simp (maxSteps := 2000000) (disch := first | omega | assumption) [i64_in, tnS, Int.toNat_add, Int.toNat_mul, List.getElem?_cons_zero, List.getElem_cons_zero, Tryz.f127])
end Go.Proofs.YthdgnfnalimcnaaGreatDoor
