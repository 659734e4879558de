/- The law TraceReads: what is read has just these bytes; the program. No condition beyond each theorem's own. -/
import Derived.Test.YtmkpbigaafemnaaDoorP50
import Derived.Test.YtmkpbigaafemnaaDoorP26
set_option linter.unusedSimpArgs false
set_option linter.unusedVariables false
set_option linter.unusedSectionVars false
set_option maxRecDepth 100000
/-! The law TraceReads: what is read has just these bytes; the program. -/
namespace Go.Proofs.YtmkpbigaafemnaaDoor
open Go Go.Ab
open Classical
attribute [local simp] vc_skip vc_label vc_region vc_drawn vc_seq vc_cond vc_block vc_exit vc_goto vc_ret vc_loop vc_scope vcOps_nil vcOps_cons vcPs_nil vcPs_cons vcDs_nil vcDs_cons vcD impB mkd wkOf isCallV rdOK_eq rdO_nil rdO_tmp rdO_const rdO_global rdO_func rdL_nil rdL_cons rdT_av rdT_cst rdT_pel rdT_tup rdT_junk rdT_loc St.app Op.operands Call.operands vcG_eq iteP wkOf isCallV vcOp putK_eq pureV ev co coC asI asB asS isNil nkOf derefV fieldAddrV indexAddrV indexV lowV boundsV sliceV pickV_eq unV convV convB bytesOf capOf lenV minV withSrc slice3V lookupV mapOf mfind mput scalT mapUpdV makeSliceV appendM appendN growM growOK zM binI isConst binV St.put upd KSeq_n KSeq_x KSeq_g KSeq_r KBlock_n KBlock_x KBlock_g KBlock_r KScope_n KScope_x KScope_r KRet_n KRet_r resL retTV TV.er AV.er AV.ers AV.erk AV.erks Tok.k Heap.er_nil Heap.er_cons Heap.er_app HObj.er_var HObj.er_map Heap.keys_nil Heap.keys_cons Heap.keys_app hget hset subT getP setP_nil setP_one setP_two setPo_some storeV buildV buildL partsOf capTV argOK entry St.of lk_nil lk_cons leLoc siterOf_siter gB_undef gB_av gB_cst undef isNE_tmp isSlT nslD nslDs mslOf mstrV copyV copyK unsV ustrV hdel dataV sameP mtbD isSlN slNilV vcDo_nil vcDo_cons isLt sft sftD softV

@[simp] theorem fnok10 : fnOK Tryd.prog 10 = true := by kernel_rfl
@[simp] theorem isne10 : isNE Tryd.prog (.func 10) = false := isNE_func fnok10
theorem rG_bytes : ∀ (m : Nat) {n : Nat} {l : List (List UInt8)} {x : List Read × List Made}, l.length ≤ m → l.length % 2 = 0 → 2 * n ≤ l.length → rG n l = some x → x.1.flatMap readT ++ x.2.flatMap madeT = l ∧ x.1.length = n ∧ (∀ y ∈ x.1, y.sum.length = 32) ∧ ∀ y ∈ x.2, y.sum.length = 32
  | m, n, [], x, _, _, h2, h => by
    rw [rG_nil] at h; cases h
    have hn : n = 0 := by simp at h2; omega
    subst hn
    simp
  | m, n, [p], x, _, h1, _, h => by simp at h1
  | 0, n, p :: s :: r, x, hm, _, _, h => by simp at hm
  | m + 1, 0, p :: s :: r, x, hm, h1, h2, h => by
    unfold rG at h
    split at h
    · rename_i h32
      obtain ⟨y, hy, rfl⟩ := Option.map_eq_some_iff.1 h
      obtain ⟨e1, e2, e3, e4⟩ := rG_bytes m (by simp at hm; omega) (by simp at h1; omega) (by omega) hy
      have e5 : y.1 = [] := List.length_eq_zero_iff.1 e2
      rw [e5] at e1
      simp only [List.flatMap_nil, List.nil_append] at e1
      refine ⟨?_, e2, e3, fun z hz => ?_⟩
      · simp [e5, madeT, e1]
      · rcases List.mem_cons.1 hz with rfl | hz
        · exact h32
        · exact e4 z hz
    · cases h
  | m + 1, n + 1, p :: s :: r, x, hm, h1, h2, h => by
    unfold rG at h
    split at h
    · rename_i hs0
      obtain ⟨y, hy, rfl⟩ := Option.map_eq_some_iff.1 h
      obtain ⟨e1, e2, e3, e4⟩ := rG_bytes m (by simp at hm; omega) (by simp at h1; omega) (by simp at h2; omega) hy
      refine ⟨?_, by simp [e2], fun z hz => ?_, e4⟩
      · simp only [List.flatMap_cons, List.append_assoc, e1]
        simp [readT, hs0]
      · rcases List.mem_cons.1 hz with rfl | hz
        · rfl
        · exact e3 z hz
    · split at h
      · rename_i h32
        obtain ⟨y, hy, rfl⟩ := Option.map_eq_some_iff.1 h
        obtain ⟨e1, e2, e3, e4⟩ := rG_bytes m (by simp at hm; omega) (by simp at h1; omega) (by simp at h2; omega) hy
        refine ⟨?_, by simp [e2], fun z hz => ?_, e4⟩
        · simp only [List.flatMap_cons, List.append_assoc, e1]
          simp [readT]
        · rcases List.mem_cons.1 hz with rfl | hz
          · exact h32
          · exact e3 z hz
      · cases h
/-- what is read of texts, with no error, has just these -/
theorem readG_bytes {l : List (List UInt8)} {t : Trace} (h : readG l = (t, 0)) : bytesL t = l ∧ checkV t = 0 ∧ TrD t := by
  unfold readG at h
  split at h
  · rename_i k c r
    split at h
    · simp at h
    · rename_i hb
      split at h
      · simp at h
      · rename_i n hi
        split at h
        · simp at h
        · rename_i hn
          split at h
          · simp at h
          · rename_i x hg
            unfold chkT at h
            split at h
            · rename_i hc
              simp only [Prod.mk.injEq, and_true] at h
              subst h
              obtain ⟨m, rfl⟩ : ∃ m : Nat, n = (m : Int) := ⟨n.toNat, by omega⟩
              simp only [Int.toNat_natCast] at hg
              have hk32 : k.length = 32 := Classical.byContradiction fun e => hb (.inr e)
              obtain ⟨e1, e2, e3, e4⟩ := rG_bytes r.length (Nat.le_refl _) (by omega) (by omega) hg
              refine ⟨?_, hc, hk32, e3, e4⟩
              obtain ⟨_, hit, _⟩ := intV_some hi
              simp only [bytesL, e2, hit, List.append_assoc, e1]
              rfl
            · rename_i hc
              simp only [Prod.mk.injEq] at h
              exact absurd h.2 hc
  · simp at h
theorem read_bytes {b : List UInt8} {t : Trace} (h : readV b = (t, 0)) : rowV (bytesL t) = b ∧ checkV t = 0 ∧ TrD t := by
  unfold readV at h
  split at h
  · rename_i he
    rw [readP_G] at h
    obtain ⟨h1, h2, h3⟩ := readG_bytes h
    refine ⟨?_, h2, h3⟩
    rw [h1]
    exact texts_row (by rw [← he])
  · rename_i he
    simp only [Prod.mk.injEq] at h
    exact absurd h.2 he
theorem readV_len (b : List UInt8) : (readV b).1.reads.length ≤ 500 ∧ (readV b).1.outs.length ≤ 1000 := by
  have hc : ∀ t, (chkT t).1.reads.length ≤ 500 ∧ (chkT t).1.outs.length ≤ 1000 := by
    intro t
    unfold chkT
    split
    · rename_i h; exact checkV_len h
    · exact ⟨by simp [tr0], by simp [tr0]⟩
  unfold readV
  split
  · unfold readP
    simp only
    split
    · exact ⟨by simp [tr0], by simp [tr0]⟩
    · exact hc _
  · exact ⟨by simp [tr0], by simp [tr0]⟩
theorem decS {n : Nat} {x : AV} (h : WTy Tryd.prog (n + 1) 9 x) : ∃ s : List UInt8, x = .s s ∧ s.length ≤ maxLen := by
  simp only [WTy, ty9] at h
  exact h
theorem trP_check {t : Trace} (h : checkV t = 0) : TrP t := by
  obtain ⟨h1, h2⟩ := checkV_len h
  obtain ⟨h3, h4⟩ := checkV_parts h
  refine ⟨⟨by omega, fun r hr => ?_⟩, by omega, fun m hm => ?_⟩
  · have := mayV_len (readsV_zero h3 r hr).1
    omega
  · have hu := outsV_zero h4 m hm
    simp only [underV, Bool.and_eq_true] at hu
    have := mayV_len hu.1
    omega
set_option maxHeartbeats 8000000 in
theorem traceReads_ok (b : List UInt8) (hb : b.length ≤ 9223372036854775807) :
    PC Tryd.prog 10 [.av .str (.s b)] (.av .bool (.b true)) := by
  refine PC.of <| ACalls.of_vc laid mixed Tryd.func10 rfl (by kernel_rfl) cf0 (by simp [Tryd.ntmps10]) fun imm0 w0 => ?_
  (simp (maxSteps := 2000000) (disch := first | omega | assumption) [i64_in, tnS, Int.toNat_add, Int.toNat_mul, List.getElem?_cons_zero, List.getElem_cons_zero])
  refine callV_pc alive_ok rfl rfl (by simp) (by simp [argLe, TV.er, AV.er]) ?_
  by_cases h1 : 2500 < b.length
  · have h1' : (2500 : Int) < b.length := by omega
    (simp (maxSteps := 2000000) (disch := first | omega | assumption) [i64_in, tnS, Int.toNat_add, Int.toNat_mul, List.getElem?_cons_zero, List.getElem_cons_zero, h1', Tryd.f10])
  have h1' : ¬ (2500 : Int) < b.length := by omega
  obtain ⟨X, hX⟩ : ∃ X, readV b = X := ⟨_, rfl⟩
  have hr := read_ok b (by omega)
  have hrr := rread_ok b (by omega)
  have hlen := readV_len b
  rw [hX] at hr hrr hlen
  obtain ⟨t, e⟩ := X
  simp only at hlen
  have hok : TrOK t := ⟨by omega, by omega⟩
  have hss : sameV t t = true := sameV_iff.2 rfl
  (simp (maxSteps := 2000000) (disch := first | omega | assumption) [i64_in, tnS, Int.toNat_add, Int.toNat_mul, List.getElem?_cons_zero, List.getElem_cons_zero, h1'])
  refine callV_pc hr rfl rfl (by simp) (by simp [argLe, TV.er, AV.er]) ?_
  (simp (maxSteps := 2000000) (disch := first | omega | assumption) [i64_in, tnS, Int.toNat_add, Int.toNat_mul, List.getElem?_cons_zero, List.getElem_cons_zero, readTV])
  refine callV_pc hrr rfl rfl (by simp) (by simp [argLe, TV.er, AV.er]) ?_
  (simp (maxSteps := 2000000) (disch := first | omega | assumption) [i64_in, tnS, Int.toNat_add, Int.toNat_mul, List.getElem?_cons_zero, List.getElem_cons_zero, readTV])
  refine callV_pc (rsame_ok t t hok hok) rfl rfl (by simp) (by simp [argLe, TV.er]) ?_
  by_cases he : e = 0
  rotate_left
  · (simp (maxSteps := 2000000) (disch := first | omega | assumption) [i64_in, tnS, Int.toNat_add, Int.toNat_mul, List.getElem?_cons_zero, List.getElem_cons_zero, hss, he, Tryd.f10])
  subst he
  obtain ⟨hb1, hb2, hb3⟩ := read_bytes hX
  have hby := bytes_ok t (trP_check hb2) hb3 (bytes_len hb3)
  have e1 : bytesTV t = .tup [(.str, .s b), (.int .i64, .i .i64 0)] := by simp only [bytesTV, if_pos hb2, hb1]
  rw [e1] at hby
  (simp (maxSteps := 2000000) (disch := first | omega | assumption) [i64_in, tnS, Int.toNat_add, Int.toNat_mul, List.getElem?_cons_zero, List.getElem_cons_zero, hss])
  refine callV_pc hby rfl rfl (by simp) (by simp [argLe, TV.er]) ?_
  (simp (maxSteps := 2000000) (disch := first | omega | assumption) [i64_in, tnS, Int.toNat_add, Int.toNat_mul, List.getElem?_cons_zero, List.getElem_cons_zero, Tryd.f10])
end Go.Proofs.YtmkpbigaafemnaaDoor
