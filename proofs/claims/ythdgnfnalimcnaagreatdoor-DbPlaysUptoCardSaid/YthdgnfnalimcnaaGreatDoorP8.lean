/- path.May, path.Under. No condition beyond each theorem's own. -/
import Derived.Test.YthdgnfnalimcnaaGreatDoorP7
set_option linter.unusedSimpArgs false
set_option linter.unusedVariables false
set_option linter.unusedSectionVars false
set_option maxRecDepth 100000
/-! path.May, path.Under. -/
namespace Go.Proofs.YthdgnfnalimcnaaGreatDoor
open Go Go.Ab
open Classical
variable [Sel]
attribute [local simp] vc_skip hiLen zN capV cpyD appendZ clearV delV mdel copyVT extV ovV vc_label vc_region vc_drawn vc_seq vc_cond vc_block vc_exit vc_goto vc_ret vc_loop vc_scope vcOps_nil vcOps_cons vcPs_nil vcPs_cons vcDs_nil vcDs_cons vcD impB mkd wkOf isCallV rdOK_eq rdO_nil rdO_tmp rdO_const rdO_global rdO_func rdL_nil rdL_cons rdT_av rdT_cst rdT_pel rdT_tup rdT_junk rdT_loc St.app Op.operands Call.operands vcG_eq iteP wkOf isCallV vcOp putK_eq pureV ev co coC asI asB asS isNil nkOf derefV fieldAddrV indexAddrV indexV lowV boundsV sliceV pickV_eq unV convV convB bytesOf capOf lenV minV maxV withSrc slice3V lookupV mapOf mfind mput scalT mapUpdV makeSliceV appendM appendN growM growOK zM binI isConst binV St.put upd KSeq_n KSeq_x KSeq_g KSeq_r KBlock_n KBlock_x KBlock_g KBlock_r KScope_n KScope_x KScope_r KRet_n KRet_r resL retTV TV.er AV.er AV.ers AV.erk AV.erks Tok.k Heap.er_nil Heap.er_cons Heap.er_app HObj.er_var HObj.er_map Heap.keys_nil Heap.keys_cons Heap.keys_app hget hset subT getP setP_nil setP_one setP_two setPo_some storeV buildV buildL partsOf capTV argOK entry St.of lk_nil lk_cons leLoc siterOf_siter gB_undef gB_av gB_cst undef isNE_tmp isSlT nslD nslDs mslOf mstrV copyV copyK unsV ustrV hdel dataV sameP mtbD isSlN slNilV vcDo_nil vcDo_cons isLt sft sftD softV rangeMV entryMV cmpV

@[simp] theorem fnok88 : fnOK Tryz.prog 88 = true := by kernel_rfl
@[simp] theorem isne88 : isNE Tryz.prog (.func 88) = false := isNE_func fnok88
@[simp] theorem fnok89 : fnOK Tryz.prog 89 = true := by kernel_rfl
@[simp] theorem isne89 : isNE Tryz.prog (.func 89) = false := isNE_func fnok89
def mayV (l : List UInt8) : Bool := decide ((splitB 47 l).length ≤ 16) && (splitB 47 l).all partV
theorem splitB_len (c : UInt8) : ∀ l x, x ∈ splitB c l → x.length ≤ l.length
  | [], x, h => by simp [splitB] at h; simp [h]
  | b :: l, x, h => by
    unfold splitB at h
    split at h
    · rcases List.mem_cons.1 h with rfl | h
      · simp
      · have := splitB_len c l x h; simp; omega
    · cases hs : splitB c l with
      | nil => exact absurd hs (splitB_ne c l)
      | cons y r =>
        rw [hs] at h
        rcases List.mem_cons.1 h with rfl | h
        · have := splitB_len c l y (by rw [hs]; simp); simp; omega
        · have := splitB_len c l x (by rw [hs]; simp [h]); simp; omega
abbrev cfMay : Cfg := ⟨fun n => n == 2 || n == 3, fun _ => false⟩
def mayG (l : List UInt8) (b2 b3 : Nat) (k : Nat) (H : Heap) : Prop :=
  k ≤ 16 ∧ (∀ i, i < k → ∀ x, (splitB 47 l)[i]? = some x → partV x = true) ∧ H = [(b3, .var (.int .i64) (.i .i64 k)), (b2, .var .bool (.b false))]
def mayX (l : List UInt8) (b2 b3 : Nat) (r : Loop) (H : Heap) : Prop :=
  mayV l = false ∧ r.state = .done ∧ r.pending = some .ret ∧ ∃ n, H = [(b3, .var (.int .i64) (.i .i64 n)), (b2, .var .bool (.b false))]
set_option maxHeartbeats 8000000 in
theorem may_ok (l : List UInt8) (hl : l.length ≤ 9223372036854775807) : PC Tryz.prog 88 [.av .str (.s l)] (.av .bool (.b (mayV l))) := by
  refine PC.of <| ACalls.of_vc laid mixed Tryz.func88 rfl (by kernel_rfl) cfMay (by simp [Tryz.ntmps88]) fun imm0 w0 => ?_
  (simp (maxSteps := 2000000) (disch := first | omega | assumption) [i64_in, tnS, Int.toNat_add, Int.toNat_mul, List.getElem?_cons_zero, List.getElem_cons_zero])
  intro b2 b3 hb3
  refine callV_sub (R := seqR l) [] [(b3, .var (.int .i64) (.i .i64 0)), (b2, .var .bool (.b false))] (by simp) rfl (by simp [argOK]) (by simp) ?_ ?_
  · exact ACalls.args (SplitSeq_ok l) (by simp [argLe, TV.er, AV.er, coC])
  rintro r H' ⟨c1, c2, c3, rfl, rfl⟩ hnd
  refine ⟨_, HSub.refl _, ?_⟩
  (simp (maxSteps := 2000000) (disch := first | omega | assumption) [i64_in, tnS, Int.toNat_add, Int.toNat_mul, List.getElem?_cons_zero, List.getElem_cons_zero])
  refine range_splitSeq rfl rfl (c1 := c1) (c2 := c2) (c3 := c3) hl (Hr := [(b3, .var (.int .i64) (.i .i64 0)), (b2, .var .bool (.b false))]) rfl ?_ rfl rfl (by simp) ?_
  · simp only [seqH]
    exact List.Perm.trans (List.Perm.swap _ _ _) (List.Perm.cons _ (List.Perm.swap _ _ _))
  intro y D r i0 w0' hy hready hpend
  simp at hy
  obtain ⟨_, _, _, hy3, hy2⟩ := hy
  have hy3' : ¬ b3 = y := fun e => hy3 e.symm
  have hy2' : ¬ b2 = y := fun e => hy2 e.symm
  have hb3' : ¬ b2 = b3 := fun e => hb3 e.symm
  refine ⟨mayG l b2 b3, mayX l b2 b3, ?_, ?_, ?_, ?_, ?_, ?_⟩
  · rintro k H ⟨_, _, rfl⟩; rfl
  · rintro k H ⟨_, _, _, n, rfl⟩; rfl
  · exact ⟨by omega, fun i h => by omega, rfl⟩
  · rintro k x H hx ⟨hk, hall, rfl⟩ imm w
    have hxl : x.length ≤ 9223372036854775807 := Nat.le_trans (splitB_len 47 l x (List.mem_of_getElem? hx)) hl
    refine vc_sound (cf := cfMay) laid mixed _ _ _ (by kernel_rfl) ?_
    (simp (maxSteps := 2000000) (disch := first | omega | assumption) [i64_in, tnS, Int.toNat_add, Int.toNat_mul, List.getElem?_cons_zero, List.getElem_cons_zero, roundS, withArgs, rdTV])
    refine vc_sound (cf := cfMay) laid mixed _ _ _ (by kernel_rfl) ?_
    have hlt : k < (splitB 47 l).length := (List.getElem?_eq_some_iff.1 hx).1
    by_cases h16 : k < 16
    · have h1 : ¬ (16 : Int) < (k : Int) + 1 := by omega
      (simp (maxSteps := 2000000) (disch := first | omega | assumption) [i64_in, tnS, Int.toNat_add, Int.toNat_mul, List.getElem?_cons_zero, List.getElem_cons_zero, roundS, withArgs, rdTV, hy3, hy3', hy2, hy2', hb3, hb3', h1])
      refine callV_pc (part_ok x hxl) rfl rfl (by simp) (by simp [argLe, TV.er, AV.er]) ?_
      cases hp : partV x
      · (simp (maxSteps := 2000000) (disch := first | omega | assumption) [i64_in, tnS, Int.toNat_add, Int.toNat_mul, List.getElem?_cons_zero, List.getElem_cons_zero, hy3, hy3', hy2, hy2', hb3, hb3', KBody, KEnd, REnd])
        refine ⟨_, _, ⟨rfl, rfl⟩, ?_, rfl, rfl, _, rfl⟩
        simp only [mayV, Bool.and_eq_false_iff]
        right
        rw [List.all_eq_false]
        exact ⟨x, List.mem_of_getElem? hx, by simp [hp]⟩
      · (simp (maxSteps := 2000000) (disch := first | omega | assumption) [i64_in, tnS, Int.toNat_add, Int.toNat_mul, List.getElem?_cons_zero, List.getElem_cons_zero, hy3, hy3', hy2, hy2', hb3, hb3', KBody, KEnd, REnd])
        refine ⟨_, ⟨congrArg (fun r => HObj.lrec r i0 w0') (ready_eta hready hpend), rfl⟩, by omega, ?_, by simp⟩
        intro i hi x' hx'
        rcases Nat.lt_or_ge i k with h | h
        · exact hall i h x' hx'
        · have : i = k := by omega
          subst this
          rw [hx] at hx'; cases hx'; exact hp
    · have h1 : (16 : Int) < (k : Int) + 1 := by omega
      (simp (maxSteps := 2000000) (disch := first | omega | assumption) [i64_in, tnS, Int.toNat_add, Int.toNat_mul, List.getElem?_cons_zero, List.getElem_cons_zero, roundS, withArgs, rdTV, hy3, hy3', hy2, hy2', hb3, hb3', h1, KBody, KEnd, REnd])
      refine ⟨_, _, ⟨rfl, rfl⟩, ?_, rfl, rfl, _, rfl⟩
      simp only [mayV, Bool.and_eq_false_iff]
      left
      simp; omega
  · rintro H1 ⟨hk, hall, rfl⟩
    (simp (maxSteps := 2000000) (disch := first | omega | assumption) [i64_in, tnS, Int.toNat_add, Int.toNat_mul, List.getElem?_cons_zero, List.getElem_cons_zero])
    (simp (maxSteps := 2000000) (disch := first | omega | assumption) [i64_in, tnS, Int.toNat_add, Int.toNat_mul, List.getElem?_cons_zero, List.getElem_cons_zero, hb3, hb3', hy3, hy2, mayV, Tryz.f88])
    refine ⟨hk, fun x hx => ?_⟩
    obtain ⟨i, hi⟩ := List.getElem?_of_mem hx
    exact hall i (List.getElem?_eq_some_iff.1 hi).1 x hi
  · rintro r' H1 ⟨hm, h1, h2, n, rfl⟩
    refine ⟨by rw [h1]; simp, ?_⟩
    rw [h2]
    simp only [KJump]
    (simp (maxSteps := 2000000) (disch := first | omega | assumption) [i64_in, tnS, Int.toNat_add, Int.toNat_mul, List.getElem?_cons_zero, List.getElem_cons_zero, hb3, hb3', hm, Tryz.f88])
def underV (l d : List UInt8) : Bool := mayV l && (decide (d = []) || (mayV d && hasPre l (d ++ [47])))
set_option maxHeartbeats 4000000 in
theorem under_ok (l d : List UInt8) (hl : l.length ≤ 9223372036854775807) (hd : d.length ≤ 1000) : PC Tryz.prog 89 [.av .str (.s l), .av .str (.s d)] (.av .bool (.b (underV l d))) := by
  refine PC.of <| ACalls.of_vc laid mixed Tryz.func89 rfl (by kernel_rfl) cf0 (by simp [Tryz.ntmps89]) fun imm0 w0 => ?_
  (simp (maxSteps := 2000000) (disch := first | omega | assumption) [i64_in, tnS, Int.toNat_add, Int.toNat_mul, List.getElem?_cons_zero, List.getElem_cons_zero])
  refine callV_pc (may_ok l hl) rfl rfl (by simp) (by simp [argLe, TV.er, AV.er]) ?_
  cases hm : mayV l
  · (simp (maxSteps := 2000000) (disch := first | omega | assumption) [i64_in, tnS, Int.toNat_add, Int.toNat_mul, List.getElem?_cons_zero, List.getElem_cons_zero, Tryz.f89, underV, hm])
  by_cases he : d = []
  · (simp (maxSteps := 2000000) (disch := first | omega | assumption) [i64_in, tnS, Int.toNat_add, Int.toNat_mul, List.getElem?_cons_zero, List.getElem_cons_zero, he, Tryz.f89, underV, hm])
  (simp (maxSteps := 2000000) (disch := first | omega | assumption) [i64_in, tnS, Int.toNat_add, Int.toNat_mul, List.getElem?_cons_zero, List.getElem_cons_zero, he])
  refine callV_pc (may_ok d (by omega)) rfl rfl (by simp) (by simp [argLe, TV.er, AV.er]) ?_
  cases hm2 : mayV d
  · (simp (maxSteps := 2000000) (disch := first | omega | assumption) [i64_in, tnS, Int.toNat_add, Int.toNat_mul, List.getElem?_cons_zero, List.getElem_cons_zero, Tryz.f89, underV, hm, hm2, he])
  (simp (maxSteps := 2000000) (disch := first | omega | assumption) [i64_in, tnS, Int.toNat_add, Int.toNat_mul, List.getElem?_cons_zero, List.getElem_cons_zero, he])
  refine ⟨by omega, ?_⟩
  refine callV_pc (hasPrefix_ok l (d ++ [47]) hl (by simp; omega)) rfl rfl (by simp) (by simp [argLe, TV.er, AV.er]) ?_
  (simp (maxSteps := 2000000) (disch := first | omega | assumption) [i64_in, tnS, Int.toNat_add, Int.toNat_mul, List.getElem?_cons_zero, List.getElem_cons_zero, Tryz.f89, underV, hm, hm2, he])
end Go.Proofs.YthdgnfnalimcnaaGreatDoor
