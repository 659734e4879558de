/- A map's keys, in a row. No condition beyond each theorem's own. -/
import Derived.Test.YthdgnfnalimcnaaGreatDoorE3
set_option linter.unusedSimpArgs false
set_option linter.unusedVariables false
set_option linter.unusedSectionVars false
set_option maxRecDepth 100000
/-! A map's keys, in a row. -/
namespace Go.Proofs.YthdgnfnalimcnaaGreatDoor
open Go Go.Ab
open Classical
variable [Sel]
attribute [local simp] vc_skip hiLen zN capV cpyD appendZ clearV delV mdel copyVT extV ovV vc_label vc_region vc_drawn vc_seq vc_cond vc_block vc_exit vc_goto vc_ret vc_loop vc_scope vcOps_nil vcOps_cons vcPs_nil vcPs_cons vcDs_nil vcDs_cons vcD impB mkd wkOf isCallV rdOK_eq rdO_nil rdO_tmp rdO_const rdO_global rdO_func rdL_nil rdL_cons rdT_av rdT_cst rdT_pel rdT_tup rdT_junk rdT_loc St.app Op.operands Call.operands vcG_eq iteP wkOf isCallV vcOp putK_eq pureV ev co coC asI asB asS isNil nkOf derefV fieldAddrV indexAddrV indexV lowV boundsV sliceV pickV_eq unV convV convB bytesOf capOf lenV minV withSrc slice3V lookupV mapOf mfind mput scalT mapUpdV makeSliceV appendM appendN growM growOK zM binI isConst binV St.put upd KSeq_n KSeq_x KSeq_g KSeq_r KBlock_n KBlock_x KBlock_g KBlock_r KScope_n KScope_x KScope_r KRet_n KRet_r resL retTV TV.er AV.er AV.ers AV.erk AV.erks Tok.k Heap.er_nil Heap.er_cons Heap.er_app HObj.er_var HObj.er_map Heap.keys_nil Heap.keys_cons Heap.keys_app hget hset subT getP setP_nil setP_one setP_two setPo_some storeV buildV buildL partsOf capTV argOK entry St.of lk_nil lk_cons leLoc siterOf_siter gB_undef gB_av gB_cst undef isNE_tmp isSlT nslD nslDs mslOf mstrV copyV copyK unsV ustrV hdel dataV sameP mtbD isSlN slNilV vcDo_nil vcDo_cons isLt sft sftD softV rangeMV entryMV cmpV

@[simp] theorem fnok96 : fnOK Tryz.prog 96 = true := by kernel_rfl
@[simp] theorem isne96 : isNE Tryz.prog (.func 96) = false := isNE_func fnok96
@[simp] theorem fnok75 : fnOK Tryz.prog 75 = true := by kernel_rfl
@[simp] theorem isne75 : isNE Tryz.prog (.func 75) = false := isNE_func fnok75
abbrev DgS : TyD := .slice 30
noncomputable def kRow (cap : Nat) (ks : List Dig) (j : List AV) : HObj := .var (.arr cap 30) (.agg (ks.map encD ++ j))
/-- the row so far, in a variable -/
def kG (y b2 : Nat) (done : List Dig) (H : Heap) : Prop :=
  (done = [] ∧ H = [(b2, .var DgS .nsl)]) ∨ ∃ b cap j, JK j ∧ b ≠ b2 ∧ b ≠ y ∧ done.length + j.length = cap ∧ H = [(b2, .var DgS (.msl b 30 0 done.length cap)), (b, kRow cap done j)]
/-- .. and as it is returned -/
def kR (ks : List Dig) (rest : Heap) (r : TV) (H' : Heap) : Prop :=
  ∃ done, done.Perm ks ∧ ((done = [] ∧ r = .av DgS .nsl ∧ H' = rest) ∨ ∃ b cap j, JK j ∧ done.length + j.length = cap ∧ r = .av DgS (.msl b 30 0 done.length cap) ∧ H' = (b, kRow cap done j) :: rest)
theorem kRow_er {cap : Nat} {ks : List Dig} {j : List AV} (h : JK j) : (kRow cap ks j).er = kRow cap ks j := by
  simp only [kRow, HObj.er_var, AV.erk, erks_app']
  rw [show AV.erks j = j from h]
  congr 3
  simp [AV.erks_eq, Function.comp_def]
theorem kG_er {y b2 : Nat} {done : List Dig} {H : Heap} (h : kG y b2 done H) : H.er = H := by
  rcases h with ⟨_, rfl⟩ | ⟨b, cap, j, hj, _, _, _, rfl⟩
  · rfl
  · rw [Heap.er_cons, Heap.er_cons, kRow_er hj]; rfl
def zD : AV := .agg (List.replicate 32 (.i .u8 0))
theorem JK_zD (n : Nat) : JK (List.replicate n zD) := by
  unfold JK; rw [AV.erks_eq, List.map_replicate]; congr 1
theorem JK_encD (l : List Dig) : JK (l.map encD) := by
  unfold JK; simp [AV.erks_eq, Function.comp_def]
theorem YC_sub {P : Program} {l : Nat} {args : List TV} {H : Heap} {R R' : TV → Heap → Prop} (h : YC P l args H R) (hr : ∀ r H', R r H' → H'.keys.Nodup → ∃ H'' : Heap, Ab.HSub H'' H' ∧ R' r H'') : YC P l args H R' := by
  intro imm w vs h1 h2
  obtain ⟨f, tmps, as', bo, h3, h4⟩ := h imm w vs h1 h2
  refine ⟨f, tmps, as', bo, h3, RoundIn.mono h4 ?_⟩
  rintro e w' ⟨v, r, imm', H', a, b, c, d, st⟩
  obtain ⟨H'', hs, hR⟩ := hr _ _ b d.nodup
  exact ⟨v, r, imm', H'', a, hR, c, ⟨d.imm, hs.nodup d.nodup, fun b o ho => d.obj b o (hs.subset ho), d.tab⟩, ⟨st.os, st.tape, st.output, st.size, st.frame, st.imm, st.kept, fun b hb => st.dom b (hs.keys hb), st.drawn⟩⟩
abbrev cfAs : Cfg := ⟨fun n => n == 2, fun _ => false⟩
set_option maxHeartbeats 8000000 in
theorem appendSeq_ok (c M : Nat) (hcM : c ≠ M) (cs : List Cel) (hlen : cs.length ≤ 1000) :
    ACalls Tryz.prog 96 [.av DgS .nsl, .av .func (.fn 77 [.ptr c MpT []])] [(M, mpO (cs.map celE)), (c, mbO M)]
      (kR (cs.map (·.key)) [(M, mpO (cs.map celE)), (c, mbO M)]) := by
  have hek := EK_cel cs
  unfold EK at hek
  refine ACalls.sub (R := fun r H' => ∃ H2, Ab.HSub H2 H' ∧ kR (cs.map (·.key)) [(M, mpO (cs.map celE)), (c, mbO M)] r H2) ?_ fun r H' ⟨H2, h1, h2⟩ _ => ⟨H2, h1, h2⟩
  refine ACalls.of_vc laid mixed Tryz.func96 rfl (by kernel_rfl) cfAs (by simp [Tryz.ntmps96]) fun imm0 w0 => ?_
  (simp (maxSteps := 2000000) (disch := first | omega | assumption) [i64_in, tnS, Int.toNat_add, Int.toNat_mul, List.getElem?_cons_zero, List.getElem_cons_zero, -List.reduceReplicate])
  intro b2 h1 h2
  have h1' : ¬ M = b2 := fun e => h1 e.symm
  have h2' : ¬ c = b2 := fun e => h2 e.symm
  refine AT.range (gf := 77) rfl rfl rfl (by simp) ?_
  intro y D r i0 w1 hy hrec hready hpend hpar has hbo
  simp at hy
  obtain ⟨hy2, hyM, hyc⟩ := hy
  have hy2' : ¬ b2 = y := fun e => hy2 e.symm
  refine ⟨[(M, mpO (cs.map celE)), (c, mbO M), (y, .lrec r i0 w1), (b2, .var DgS .nsl)], [], fun t H' => t = .tup [] ∧ ∃ done H1, done.Perm (cs.map (·.key)) ∧ (∃ H2, H1 = (y, .lrec r i0 w1) :: H2 ∧ kG y b2 done H2) ∧ H' = (M, mpO (cs.map celE)) :: (c, mbO M) :: H1, ?_, ?_, ?_⟩
  · rw [List.append_nil]
    exact (List.perm_append_comm (l₁ := [_, _]) (l₂ := [_, _])).trans (List.Perm.refl _)
  · have he : Heap.er [(M, mpO (cs.map celE)), (c, mbO M), (y, .lrec r i0 w1), (b2, .var DgS .nsl)] = [(M, mpO (cs.map celE)), (c, mbO M), (y, .lrec r i0 w1), (b2, .var DgS .nsl)] := by
      have : (mpO (cs.map celE)).er = mpO (cs.map celE) := by simp only [mpO, HObj.er_map, hek]
      simp only [Heap.er_cons, Heap.er_nil, this]; rfl
    rw [he]
    refine keys1_ok (G := fun done H => ∃ H2, H = (y, .lrec r i0 w1) :: H2 ∧ kG y b2 done H2) y c M hcM cs ?_ ?_ _ ⟨_, rfl, .inl ⟨rfl, rfl⟩⟩
    · rintro done H ⟨H2, rfl, hg⟩
      rw [Heap.er_cons, kG_er hg]; rfl
    · rintro done k H hk hdl ⟨H2, rfl, hg⟩
      have hrd := YC.of_round (l := y) hrec hready (args := [.av (.arr 32 5) (encD k)]) (H := H2) (R := fun rr H' => rr = .av .bool (.b true) ∧ ∃ H3, Ab.HSub ((y, .lrec r i0 w1) :: H3) H' ∧ kG y b2 (done ++ [k]) H3) (by rw [hpar]; rfl) (by rw [hpar]; simp) (fun imm w => ?_)
      · exact YC_sub hrd fun rr H' ⟨e1, H3, e2, e3⟩ _ => ⟨_, e2, e1, H3, rfl, e3⟩
      rw [has, hbo, hpar]
      refine vc_sound (cf := cfAs) laid mixed _ _ _ (by kernel_rfl) ?_
      (simp (maxSteps := 2000000) (disch := first | omega | assumption) [i64_in, tnS, Int.toNat_add, Int.toNat_mul, List.getElem?_cons_zero, List.getElem_cons_zero, -List.reduceReplicate, roundS, withArgs, rdTV])
      refine vc_sound (cf := cfAs) laid mixed _ _ _ (by kernel_rfl) ?_
      have hrl : ∀ (p : Array Nat) (a b : Code), p = r.params → a = r.assign → b = r.body → ({ state := .ready, pending := none, fn := r.fn, tmps := r.tmps, params := p, assign := a, body := b, defers := r.defers } : Loop) = r := by
        rintro _ _ _ rfl rfl rfl; exact ready_eta hready hpend
      have her : ∀ r', (HObj.lrec r' i0 w1).er = HObj.lrec r' i0 w1 := fun _ => rfl
      rcases hg with ⟨rfl, rfl⟩ | ⟨b, cap, j, hj, hbb, hby, hcap, rfl⟩
      · (simp (maxSteps := 2000000) (disch := first | omega | assumption) [i64_in, tnS, Int.toNat_add, Int.toNat_mul, List.getElem?_cons_zero, List.getElem_cons_zero, -List.reduceReplicate, hy2, hy2'])
        intro b' cap' hb1 hb2 hc
        have hb1' : ¬ y = b' := fun e => hb1 e.symm
        have hb2' : ¬ b2 = b' := fun e => hb2 e.symm
        (simp (maxSteps := 2000000) (disch := first | omega | assumption) [i64_in, tnS, Int.toNat_add, Int.toNat_mul, List.getElem?_cons_zero, List.getElem_cons_zero, -List.reduceReplicate, hy2, hy2', hb1, hb2, hb1', hb2', KBody, KEnd])
        rw [her, hrl _ _ _ hpar.symm has.symm hbo.symm]
        refine ⟨[(b2, .var DgS (.msl b' 30 0 1 cap')), (b', kRow cap' [k] (List.replicate (cap' - 1) zD))], HSub.of_perm ?_, .inr ⟨b', cap', _, JK_zD _, hb2, hb1, by simp; omega, rfl⟩⟩
        have := JK_zD (cap' - 1)
        unfold JK zD at this
        rw [this]
        exact List.perm_append_comm (l₁ := [_]) (l₂ := [_, _])
      · have hbb' : ¬ b2 = b := fun e => hbb e.symm
        have hby' : ¬ y = b := fun e => hby e.symm
        (simp (maxSteps := 2000000) (disch := first | omega | assumption) [i64_in, tnS, Int.toNat_add, Int.toNat_mul, List.getElem?_cons_zero, List.getElem_cons_zero, -List.reduceReplicate, hy2, hy2', hbb, hbb', hby, hby', kRow])
        refine ⟨by omega, ⟨by omega, by omega⟩, fun hc => ?_, fun hc b' cap' hb1 hb2 hb3 hc' => ?_⟩
        · (simp (maxSteps := 2000000) (disch := first | omega | assumption) [i64_in, tnS, Int.toNat_add, Int.toNat_mul, List.getElem?_cons_zero, List.getElem_cons_zero, -List.reduceReplicate, hy2, hy2', hbb, hbb', hby, hby', KBody, KEnd])
          rw [her, hrl _ _ _ hpar.symm has.symm hbo.symm]
          have h2 : (done.map encD ++ j).take done.length ++ encD k :: (done.map encD ++ j).drop (done.length + 1) = (done ++ [k]).map encD ++ j.drop 1 := by
            have e1 : (done.map encD ++ j).take done.length = done.map encD := by rw [List.take_append_of_le_length (by simp)]; exact List.take_of_length_le (by simp)
            have e2 : (done.map encD ++ j).drop (done.length + 1) = j.drop 1 := by
              rw [List.drop_append, List.drop_of_length_le (by simp)]; simp
            rw [e1, e2]; simp
          have h3 := (JK_encD (done ++ [k])).app (hj.drop 1)
          unfold JK at h3
          rw [h2, h3]
          refine ⟨[(b2, .var DgS (.msl b 30 0 (done.length + 1) cap)), (b, kRow cap (done ++ [k]) (j.drop 1))], HSub.refl _, .inr ⟨b, cap, _, hj.drop 1, hbb, hby, by simp; omega, by simp⟩⟩
        · have hb1' : ¬ y = b' := fun e => hb1 e.symm
          have hb2' : ¬ b2 = b' := fun e => hb2 e.symm
          have hb3' : ¬ b = b' := fun e => hb3 e.symm
          (simp (maxSteps := 2000000) (disch := first | omega | assumption) [i64_in, tnS, Int.toNat_add, Int.toNat_mul, List.getElem?_cons_zero, List.getElem_cons_zero, -List.reduceReplicate, hy2, hy2', hbb, hbb', hby, hby', hb1, hb2, hb3, hb1', hb2', hb3', KBody, KEnd])
          rw [her, hrl _ _ _ hpar.symm has.symm hbo.symm]
          have h2 : (done.map encD ++ j).take done.length ++ encD k :: List.replicate (cap' - (done.length + 1)) zD = (done ++ [k]).map encD ++ List.replicate (cap' - (done.length + 1)) zD := by
            have e1 : (done.map encD ++ j).take done.length = done.map encD := by rw [List.take_append_of_le_length (by simp)]; exact List.take_of_length_le (by simp)
            rw [e1]; simp
          have h3 := (JK_encD (done ++ [k])).app (JK_zD (cap' - (done.length + 1)))
          unfold JK at h3
          unfold zD at h2 h3
          rw [h2, h3]
          refine ⟨[(b2, .var DgS (.msl b' 30 0 (done.length + 1) cap')), (b', kRow cap' (done ++ [k]) (List.replicate (cap' - (done.length + 1)) zD))], ⟨_, List.perm_append_comm (l₁ := [_]) (l₂ := [_, _, _]), ?_⟩, .inr ⟨b', cap', List.replicate (cap' - (done.length + 1)) zD, JK_zD _, hb2, hb1, by simp; omega, by simp⟩⟩
          exact ((((List.nil_sublist _).cons_cons _).cons _).cons_cons _).cons_cons _
  · rintro t H' ⟨rfl, done, H1, hp, ⟨H2, rfl, hg⟩, rfl⟩ hnd
    refine ⟨r, (M, mpO (cs.map celE)) :: (c, mbO M) :: H2, HSub.of_perm (by rw [List.append_nil]; exact List.perm_middle (l₁ := [_, _])), by rw [hready]; simp, ?_⟩
    rw [hpend]
    have hme : (mpO (cs.map celE)).er = mpO (cs.map celE) := by simp only [mpO, HObj.er_map, hek]
    have hmb : (mbO M).er = mbO M := rfl
    rcases hg with ⟨rfl, rfl⟩ | ⟨b, cap, j, hj, hbb, hby, hcap, rfl⟩
    · (simp (maxSteps := 2000000) (disch := first | omega | assumption) [i64_in, tnS, Int.toNat_add, Int.toNat_mul, List.getElem?_cons_zero, List.getElem_cons_zero, -List.reduceReplicate, KJump, h1', h2', hme, hmb, Tryz.f96])
      exact ⟨[(M, mpO (cs.map celE)), (c, mbO M)], HSub.of_sub (((List.nil_sublist _).cons_cons _).cons_cons _), [], hp, .inl ⟨rfl, rfl, rfl⟩⟩
    · have hkr := kRow_er (cap := cap) (ks := done) hj
      (simp (maxSteps := 2000000) (disch := first | omega | assumption) [i64_in, tnS, Int.toNat_add, Int.toNat_mul, List.getElem?_cons_zero, List.getElem_cons_zero, -List.reduceReplicate, KJump, h1', h2', hme, hmb, hkr, Tryz.f96])
      exact ⟨(b, kRow cap done j) :: [(M, mpO (cs.map celE)), (c, mbO M)], ⟨_, List.perm_append_comm (l₁ := [_, _, _]) (l₂ := [_]), (((List.nil_sublist _).cons_cons _).cons_cons _).cons_cons _⟩, done, hp, .inr ⟨b, cap, j, hj, hcap, rfl, rfl⟩⟩
theorem ACalls.argNil {P : Program} {f : FuncId} {e : TypeId} {args : List TV} {H : Heap} {R : TV → Heap → Prop} (h : ACalls P f (.av (.slice e) .nsl :: args) H R) : ACalls P f (.cst (.slice none 0 0) :: args) H R := by
  intro imm w vs h1 h2
  refine h imm w vs h1 ?_
  obtain ⟨vs⟩ := vs
  match vs, h2 with
  | v :: r, ⟨e1, e2⟩ =>
    have e1' : v = .slice none 0 0 := e1
    subst e1'
    exact ⟨⟨rfl, by simp [VC, Value.cells]⟩, e2⟩
theorem collect_ok (c M : Nat) (hcM : c ≠ M) (cs : List Cel) (hlen : cs.length ≤ 1000) :
    ACalls Tryz.prog 75 [.av .func (.fn 77 [.ptr c MpT []])] [(M, mpO (cs.map celE)), (c, mbO M)]
      (kR (cs.map (·.key)) [(M, mpO (cs.map celE)), (c, mbO M)]) := by
  have hek := EK_cel cs
  unfold EK at hek
  have hme : (mpO (cs.map celE)).er = mpO (cs.map celE) := by simp only [mpO, HObj.er_map, hek]
  have hmb : (mbO M).er = mbO M := rfl
  refine ACalls.of_vc laid mixed Tryz.func75 rfl (by kernel_rfl) cf0 (by simp [Tryz.ntmps75]) fun imm0 w0 => ?_
  (simp (maxSteps := 2000000) (disch := first | omega | assumption) [i64_in, tnS, Int.toNat_add, Int.toNat_mul, List.getElem?_cons_zero, List.getElem_cons_zero, -List.reduceReplicate])
  refine callV_all (R := kR (cs.map (·.key)) [(M, mpO (cs.map celE)), (c, mbO M)]) rfl (by simp [argOK]) (by simp) ?_ ?_
  · have := ACalls.argNil (appendSeq_ok c M hcM cs hlen)
    simpa [TV.er, AV.er, AV.ers, Heap.er_cons, Heap.er_nil, hme, hmb] using this
  rintro r' H' ⟨done, hp, ⟨rfl, rfl, rfl⟩ | ⟨b, cap, j, hj, hcap, rfl, rfl⟩⟩
  · (simp (maxSteps := 2000000) (disch := first | omega | assumption) [i64_in, tnS, Int.toNat_add, Int.toNat_mul, List.getElem?_cons_zero, List.getElem_cons_zero, -List.reduceReplicate, hme, hmb, Tryz.f75])
    exact ⟨[], hp, .inl ⟨rfl, rfl, rfl⟩⟩
  · have hkr := kRow_er (cap := cap) (ks := done) hj
    (simp (maxSteps := 2000000) (disch := first | omega | assumption) [i64_in, tnS, Int.toNat_add, Int.toNat_mul, List.getElem?_cons_zero, List.getElem_cons_zero, -List.reduceReplicate, hme, hmb, hkr, Tryz.f75])
    exact ⟨done, hp, .inr ⟨b, cap, j, hj, hcap, rfl, rfl⟩⟩
end Go.Proofs.YthdgnfnalimcnaaGreatDoor
