/- The law DbApart: the program, and the plain law. No condition beyond each theorem's own. -/
import Derived.Test.YthdgnfnalimcnaaGreatDoorG1To
import Derived.Test.YthdgnfnalimcnaaGreatDoorD9aTo0
set_option linter.unusedSimpArgs false
set_option linter.unusedVariables false
set_option linter.unusedSectionVars false
set_option maxRecDepth 100000
/-! The law DbApart: the program, and the plain law. -/
namespace Go.Proofs.YthdgnfnalimcnaaGreatDoor
open Go Go.Ab
open Classical
variable [Sel] [SelPow]
attribute [local simp] vc_skip hiLen zN capV cpyD appendZ clearV delV mdel copyVT extV ovV vc_label vc_region vc_drawn vc_seq vc_cond vc_block vc_exit vc_goto vc_ret vc_loop vc_scope vcOps_nil vcOps_cons vcPs_nil vcPs_cons vcDs_nil vcDs_cons vcD impB mkd wkOf isCallV rdOK_eq rdO_nil rdO_tmp rdO_const rdO_global rdO_func rdL_nil rdL_cons rdT_av rdT_cst rdT_pel rdT_tup rdT_junk rdT_loc St.app Op.operands Call.operands vcG_eq iteP wkOf isCallV vcOp putK_eq pureV ev co coC asI asB asS isNil nkOf derefV fieldAddrV indexAddrV indexV lowV boundsV sliceV pickV_eq unV convV convB bytesOf capOf lenV minV maxV withSrc slice3V lookupV mapOf mfind mput scalT mapUpdV makeSliceV appendM appendN growM growOK zM binI isConst binV St.put upd KSeq_n KSeq_x KSeq_g KSeq_r KBlock_n KBlock_x KBlock_g KBlock_r KScope_n KScope_x KScope_r KRet_n KRet_r resL retTV TV.er AV.er AV.ers AV.erk AV.erks Tok.k Heap.er_nil Heap.er_cons Heap.er_app HObj.er_var HObj.er_map Heap.keys_nil Heap.keys_cons Heap.keys_app hget hset subT getP setP_nil setP_one setP_two setPo_some storeV buildV buildL partsOf capTV argOK entry St.of lk_nil lk_cons leLoc siterOf_siter gB_undef gB_av gB_cst undef isNE_tmp isSlT nslD nslDs mslOf mstrV copyV copyK unsV ustrV hdel dataV sameP mtbD isSlN slNilV vcDo_nil vcDo_cons isLt sft sftD softV rangeMV entryMV cmpV

@[simp] theorem fnok12 : fnOK Tryz.prog 12 = true := by kernel_rfl
@[simp] theorem isne12 : isNE Tryz.prog (.func 12) = false := isNE_func fnok12
@[simp] theorem fnok3 : fnOK Tryz.prog 3 = true := by kernel_rfl
@[simp] theorem isne3 : isNE Tryz.prog (.func 3) = false := isNE_func fnok3
/-- a trace whose key ends with a byte -/
def keyT (b : UInt8) (t : Trace) : Trace := { t with key := t.key.set 31 b }
def appT (l m : List Trace) : List Trace := l.map (keyT 0) ++ m.map (keyT 1)
def turnT (l m : List Trace) : Nat → List Trace
  | 0 => []
  | i+1 => turnT l m i ++ (m[i]?.toList.map (keyT 1) ++ l[i]?.toList.map (keyT 0))
theorem ofK_app (k : Dig) (a b : List Trace) : ofK k (a ++ b) = ofK k a ++ ofK k b := by simp [ofK]
theorem ofK_not {k : Dig} {b : UInt8} (hk : k[31]? ≠ some b) : ∀ {x : List Trace}, (∀ t ∈ x, t.key.length = 32) → ofK k (x.map (keyT b)) = []
  | [], _ => rfl
  | t :: x, h => by
    have ih := ofK_not hk (x := x) fun t ht => h t (List.mem_cons_of_mem _ ht)
    unfold ofK at ih ⊢
    rw [List.map_cons, List.filter_cons_of_neg, ih]
    intro e
    simp only [decide_eq_true_eq] at e
    apply hk
    rw [← e.1]
    have := h t (by simp)
    simp [keyT, this]
theorem take_opt (l : List Trace) (i : Nat) : l.take (i+1) = l.take i ++ l[i]?.toList := List.take_add_one
theorem opt_mem {l : List Trace} {i : Nat} {t : Trace} (h : t ∈ l[i]?.toList) : t ∈ l := by
  cases e : l[i]? with
  | none => rw [e] at h; simp at h
  | some x => rw [e] at h; simp at h; subst h; exact List.mem_of_getElem? e
theorem turn0 {k : Dig} (hk : k[31]? ≠ some 1) {l m : List Trace} (hm : ∀ t ∈ m, t.key.length = 32) : ∀ i, ofK k (turnT l m i) = ofK k ((l.take i).map (keyT 0))
  | 0 => by simp [turnT]
  | i+1 => by
    rw [turnT, ofK_app, ofK_app, turn0 hk hm i, ofK_not hk fun t ht => hm t (opt_mem ht), take_opt, List.map_append, ofK_app, List.nil_append]
theorem turn1 {k : Dig} (hk : k[31]? ≠ some 0) {l m : List Trace} (hl : ∀ t ∈ l, t.key.length = 32) : ∀ i, ofK k (turnT l m i) = ofK k ((m.take i).map (keyT 1))
  | 0 => by simp [turnT]
  | i+1 => by
    rw [turnT, ofK_app, ofK_app, turn1 hk hl i, ofK_not hk fun t ht => hl t (opt_mem ht), take_opt, List.map_append, ofK_app, List.append_nil]
/-- THE PLAIN LAW. -/
theorem apart_law {l m : List Trace} (hl : ∀ t ∈ l, t.key.length = 32) (hm : ∀ t ∈ m, t.key.length = 32) {n : Nat} (h1 : l.length ≤ n) (h2 : m.length ≤ n) (k : Dig) : ofK k (appT l m) = ofK k (turnT l m n) := by
  unfold appT
  rw [ofK_app]
  by_cases h : k[31]? = some 1
  · have h' : k[31]? ≠ some 0 := by rw [h]; simp
    rw [turn1 h' hl, ofK_not h' hl, List.take_of_length_le h2, List.nil_append]
  · rw [turn0 h hm, ofK_not h hm, List.take_of_length_le h1, List.append_nil]
theorem turn_len (l m : List Trace) : ∀ i, (turnT l m i).length ≤ 2 * i
  | 0 => by simp [turnT]
  | i+1 => by
    have ih := turn_len l m i
    have h : ∀ o : Option Trace, o.toList.length ≤ 1 := fun o => by cases o <;> simp
    have a := h m[i]?
    have b := h l[i]?
    simp only [turnT, List.length_append, List.length_map]; omega
theorem turn_mem {l m : List Trace} {Q : Trace → Prop} (h0 : ∀ t ∈ l, Q (keyT 0 t)) (h1 : ∀ t ∈ m, Q (keyT 1 t)) : ∀ i, ∀ t ∈ turnT l m i, Q t
  | 0, t, h => by simp [turnT] at h
  | i+1, t, h => by
    rw [turnT, List.mem_append, List.mem_append] at h
    rcases h with h | h | h
    · exact turn_mem h0 h1 i t h
    · obtain ⟨x, hx, rfl⟩ := List.mem_map.1 h
      exact h1 x (opt_mem hx)
    · obtain ⟨x, hx, rfl⟩ := List.mem_map.1 h
      exact h0 x (opt_mem hx)
theorem keyT_B {b : UInt8} {t : Trace} (h : TrB t) : TrB (keyT b t) := ⟨h.1, by
  obtain ⟨h1, h2⟩ := h.2
  exact ⟨by simp [keyT, h1], h2⟩⟩
set_option maxHeartbeats 4000000 in
theorem keyed_ok (t : Trace) (b : UInt8) (ht : t.key.length = 32) : PC Tryz.prog 12 [.av (tyOf Tryz.prog 34) (encTrace t), .av (.int .u8) (.i .u8 b.toNat)] (.av (tyOf Tryz.prog 34) (encTrace (keyT b t))) := by
  refine PC.of <| ACalls.of_vc laid mixed Tryz.func12 rfl (by kernel_rfl) cf0 (by simp [Tryz.ntmps12]) fun imm0 w0 => ?_
  have e : (t.key.map fun b => AV.i .u8 b.toNat).set 31 (AV.i .u8 b.toNat) = (t.key.set 31 b).map fun b => AV.i .u8 b.toNat := List.map_set.symm
  have e2 : AV.ers ((t.key.set 31 b).map fun b => AV.i .u8 b.toNat) = (t.key.set 31 b).map fun b => AV.i .u8 b.toNat := by
    have := er_encD (t.key.set 31 b)
    simpa [encD, AV.er] using this
  (simp (maxSteps := 2000000) (disch := first | omega | assumption) [i64_in, tnS, Int.toNat_add, Int.toNat_mul, List.getElem?_cons_zero, List.getElem_cons_zero, -List.reduceReplicate, encTrace, encD, Tryz.f12, keyT])
  rw [e]
  exact e2
theorem okTrace_B {t : Trace} (h : okTrace t) : TrB t := ⟨okTrace_P h, by
  obtain ⟨h1, ⟨h2, h3⟩, h4, h5⟩ := h
  exact ⟨h1, fun r hr => (h3 r hr).1, fun r hr => (h5 r hr).1⟩⟩
theorem TrP_len {t : Trace} (h : TrB t) : t.key.length = 32 := h.2.1
theorem callV_add2 {s : St} {x : AV} {dst : Option Nat} {K : St → Prop} (t : Trace) (ht : TrP t) (mo : Nat) (hm : 1 ≤ mo) (hm8 : mo ≤ 8) (B M : Nat) (cs : List Cel) (hcs : ∀ c ∈ cs, CelOK c) (rest : Heap)
    (hH : s.H.Perm (rest ++ DbH B M mo cs)) (hx : x.er = encTrace t)
    (hk : ∀ cs', (∀ c ∈ cs', CelOK c) → absD cs' = addD mo (absD cs) t → K (({ s with H := rest ++ DbH B M mo cs' } : St).put dst (.av (.int .i64) (.i .i64 (checkV t))))) :
    callV Tryz.prog s (.av .func (.fn 11 [])) [.av .ptr (.ptr B DbT []), .av TrT x] dst K := by
  have h := dbadd_ok t ht mo hm hm8 B M cs hcs
  have e : tyOf Tryz.prog 34 = TrT := ty34
  rw [e] at h
  refine callV_sub (DbH B M mo cs) rest (hH.trans List.perm_append_comm) rfl rfl (by simp) (R := fun r H' => r = .av (.int .i64) (.i .i64 (checkV t)) ∧ ∃ cs', (∀ c ∈ cs', CelOK c) ∧ absD cs' = addD mo (absD cs) t ∧ H' = DbH B M mo cs') ?_ ?_
  · rw [dbH_er hcs]
    simp only [List.map_nil, List.append_nil, List.map_cons, TV.er, AV.er, hx, List.reverse_nil]
    exact h
  rintro r H' ⟨rfl, cs', h1, h2, rfl⟩ _
  exact ⟨_, HSub.of_perm List.perm_append_comm, hk cs' h1 h2⟩
abbrev cfAp : Cfg := ⟨fun _ => false, fun _ => false⟩
theorem keyed0_ok (t : Trace) (ht : t.key.length = 32) : PC Tryz.prog 12 [.av (tyOf Tryz.prog 34) (encTrace t), .av (.int .u8) (.i .u8 0)] (.av (tyOf Tryz.prog 34) (encTrace (keyT 0 t))) := keyed_ok t 0 ht
theorem keyed1_ok (t : Trace) (ht : t.key.length = 32) : PC Tryz.prog 12 [.av (tyOf Tryz.prog 34) (encTrace t), .av (.int .u8) (.i .u8 1)] (.av (tyOf Tryz.prog 34) (encTrace (keyT 1 t))) := keyed_ok t 1 ht
set_option maxHeartbeats 32000000 in
theorem dbApart_ok (most : Int) (l m : List Trace) (hl : ∀ x ∈ l, TrB x) (hm : ∀ x ∈ m, TrB x) (hln : l.length ≤ 9223372036854775807) (hmn : m.length ≤ 9223372036854775807) :
    PC Tryz.prog 3 [.av (.int .i64) (.i .i64 most), .av (.slice 34) (encTraces l), .av (.slice 34) (encTraces m)] (.av .bool (.b true)) := by
  refine PC.of <| ACalls.of_vc laid mixed Tryz.func3 rfl (by kernel_rfl) cfAp (by simp [Tryz.ntmps3]) fun imm0 w0 => ?_
  (simp (maxSteps := 2000000) (disch := first | omega | assumption) [i64_in, tnS, Int.toNat_add, Int.toNat_mul, List.getElem?_cons_zero, List.getElem_cons_zero, -List.reduceReplicate])
  refine callV_pc dalive_ok rfl rfl (by simp) (by simp [argLe, TV.er, AV.er]) ?_
  by_cases g2 : most < 1
  · (simp (maxSteps := 2000000) (disch := first | omega | assumption) [i64_in, tnS, Int.toNat_add, Int.toNat_mul, List.getElem?_cons_zero, List.getElem_cons_zero, -List.reduceReplicate, g2, encTraces_trs, Tryz.f3])
  by_cases g3 : 8 < most
  · (simp (maxSteps := 2000000) (disch := first | omega | assumption) [i64_in, tnS, Int.toNat_add, Int.toNat_mul, List.getElem?_cons_zero, List.getElem_cons_zero, -List.reduceReplicate, g2, g3, encTraces_trs, Tryz.f3])
  by_cases g1 : 30 < l.length
  · have g1' : (30 : Int) < l.length := by omega
    (simp (maxSteps := 2000000) (disch := first | omega | assumption) [i64_in, tnS, Int.toNat_add, Int.toNat_mul, List.getElem?_cons_zero, List.getElem_cons_zero, -List.reduceReplicate, g1', g2, g3, encTraces_trs, Tryz.f3])
  have g1' : ¬ (30 : Int) < l.length := by omega
  by_cases g4 : 30 < m.length
  · have g4' : (30 : Int) < m.length := by omega
    (simp (maxSteps := 2000000) (disch := first | omega | assumption) [i64_in, tnS, Int.toNat_add, Int.toNat_mul, List.getElem?_cons_zero, List.getElem_cons_zero, -List.reduceReplicate, g1', g2, g3, g4', encTraces_trs, Tryz.f3])
  have g4' : ¬ (30 : Int) < m.length := by omega
  obtain ⟨mo, rfl⟩ : ∃ mo : Nat, most = mo := ⟨most.toNat, by omega⟩
  have hm1 : 1 ≤ mo := by omega
  have hm8 : mo ≤ 8 := by omega
  (simp (maxSteps := 2000000) (disch := first | omega | assumption) [i64_in, tnS, Int.toNat_add, Int.toNat_mul, List.getElem?_cons_zero, List.getElem_cons_zero, -List.reduceReplicate, g1', g2, g3, g4', encTraces_trs])
  refine callV_sub (R := fun r H' => ∃ B M, r = .tup [(.ptr, .ptr B DbT []), (.int .i64, .i .i64 0)] ∧ H' = DbH B M mo []) [] [] (by simp) rfl (by simp [argOK]) (by simp) ?_ ?_
  · exact ACalls.args (dbnew_ok mo hm1 hm8) (by simp [argLe, coC, TV.er, AV.er])
  rintro r' H' ⟨B, M, rfl, rfl⟩ _
  refine ⟨DbH B M mo [], by simpa using HSub.refl _, ?_⟩
  (simp (maxSteps := 2000000) (disch := first | omega | assumption) [i64_in, tnS, Int.toNat_add, Int.toNat_mul, List.getElem?_cons_zero, List.getElem_cons_zero, -List.reduceReplicate])
  refine callV_sub (R := fun r H' => ∃ B M, r = .tup [(.ptr, .ptr B DbT []), (.int .i64, .i .i64 0)] ∧ H' = DbH B M mo []) [] (DbH B M mo []) (by simp) rfl (by simp [argOK]) (by simp) ?_ ?_
  · exact ACalls.args (dbnew_ok mo hm1 hm8) (by simp [argLe, coC, TV.er, AV.er])
  rintro r' H' ⟨B2, M2, rfl, rfl⟩ _
  refine ⟨DbH B M mo [] ++ DbH B2 M2 mo [], HSub.of_perm List.perm_append_comm, ?_⟩
  (simp (maxSteps := 2000000) (disch := first | omega | assumption) [i64_in, tnS, Int.toNat_add, Int.toNat_mul, List.getElem?_cons_zero, List.getElem_cons_zero, -List.reduceReplicate])
  refine AT.loop' (α := Nat × List Cel) (fun x => St.of [(0, .av (.int .i64) (.i .i64 mo)), (1, .av (.slice 34) (encTraces l)), (2, .av (.slice 34) (encTraces m)), (7, .av .ptr (.ptr B DbT [])), (9, .av .ptr (.ptr B2 DbT [])), (11, .av (.int .i64) (.i .i64 x.1))] [] (fun _ => 0) (DbH B M mo x.2 ++ DbH B2 M2 mo []))
    (fun x => x.1 ≤ l.length ∧ (∀ c ∈ x.2, CelOK c) ∧ absD x.2 = hisD mo ((l.take x.1).map (keyT 0))) (fun x => l.length - x.1) (0, []) ?_ ?_ ?_
  · refine Le.of ?_ ?_ ?_ ?_ ?_ <;> simp [leTV, locsIn, encTraces_trs] <;> try omega
  · simp [absD, hisD]
  rintro ⟨k, cs⟩ ⟨hk, hcs, hab⟩ KL hN hE
  simp only at hk hcs hab hN
  refine vc_sound (cf := cfAp) laid mixed _ _ _ (by kernel_rfl) ?_
  by_cases hlt : k < l.length
  · have hlt' : (k : Int) < l.length := by omega
    have hg := trs_get l k hlt
    have hxw := hl _ (List.getElem_mem hlt)
    have hst : hisD mo ((l.take (k+1)).map (keyT 0)) = addD mo (hisD mo ((l.take k).map (keyT 0))) (keyT 0 l[k]) := by
      rw [List.take_succ_eq_append_getElem hlt, List.map_append, List.map_cons, List.map_nil, hisD_app]
    obtain ⟨x, hx⟩ : ∃ x, x = l[k] := ⟨_, rfl⟩
    rw [← hx] at hg hxw hst
    (simp (maxSteps := 2000000) (disch := first | omega | assumption) [i64_in, tnS, Int.toNat_add, Int.toNat_mul, List.getElem?_cons_zero, List.getElem_cons_zero, -List.reduceReplicate, hlt', hg, encTraces_trs])
    refine callV_pc hxw.1.great rfl rfl (by simp) (by simp [argLe, TV.er]) ?_
    cases hw : wideTV x
    rotate_left
    · (simp (maxSteps := 2000000) (disch := first | omega | assumption) [i64_in, tnS, Int.toNat_add, Int.toNat_mul, List.getElem?_cons_zero, List.getElem_cons_zero, -List.reduceReplicate, hw])
      refine hE _ _ (by simp) ?_
      (simp (maxSteps := 2000000) (disch := first | omega | assumption) [i64_in, tnS, Int.toNat_add, Int.toNat_mul, List.getElem?_cons_zero, List.getElem_cons_zero, -List.reduceReplicate, Tryz.f3])
    (simp (maxSteps := 2000000) (disch := first | omega | assumption) [i64_in, tnS, Int.toNat_add, Int.toNat_mul, List.getElem?_cons_zero, List.getElem_cons_zero, -List.reduceReplicate, hw, hlt', hg, encTraces_trs])
    refine callV_pc (keyed0_ok x hxw.2.1) rfl rfl (by simp) (by simp [argLe, TV.er, coC]) ?_
    (simp (maxSteps := 2000000) (disch := first | omega | assumption) [i64_in, tnS, Int.toNat_add, Int.toNat_mul, List.getElem?_cons_zero, List.getElem_cons_zero, -List.reduceReplicate])
    refine callV_add (keyT 0 x) (keyT_B hxw).1 mo hm1 hm8 B M cs hcs (DbH B2 M2 mo []) (by simp) (er_encTrace _) fun cs1 hc1 ha1 => ?_
    (simp (maxSteps := 2000000) (disch := first | omega | assumption) [i64_in, tnS, Int.toNat_add, Int.toNat_mul, List.getElem?_cons_zero, List.getElem_cons_zero, -List.reduceReplicate])
    refine hN _ (k+1, cs1) ?_ ⟨by simp only; omega, hc1, by simp only; rw [ha1, hst, hab]⟩ (by simp only; omega)
    refine Le.of ?_ ?_ ?_ ?_ ?_ <;> simp [leTV, locsIn, encTraces_trs] <;> try omega
  have hlt' : ¬ (k : Int) < l.length := by omega
  rw [List.take_of_length_le (by omega)] at hab
  (simp (maxSteps := 2000000) (disch := first | omega | assumption) [i64_in, tnS, Int.toNat_add, Int.toNat_mul, List.getElem?_cons_zero, List.getElem_cons_zero, -List.reduceReplicate, hlt', encTraces_trs])
  refine hE _ _ (by simp) ?_
  clear hN hE hlt hlt' hk
  (simp (maxSteps := 2000000) (disch := first | omega | assumption) [i64_in, tnS, Int.toNat_add, Int.toNat_mul, List.getElem?_cons_zero, List.getElem_cons_zero, -List.reduceReplicate])
  refine AT.loop' (α := Nat × List Cel) (fun x => St.of [(0, .av (.int .i64) (.i .i64 mo)), (1, .av (.slice 34) (encTraces l)), (2, .av (.slice 34) (encTraces m)), (7, .av .ptr (.ptr B DbT [])), (9, .av .ptr (.ptr B2 DbT [])), (12, .av (.int .i64) (.i .i64 x.1))] [] (fun _ => 0) (DbH B M mo x.2 ++ DbH B2 M2 mo []))
    (fun x => x.1 ≤ m.length ∧ (∀ c ∈ x.2, CelOK c) ∧ absD x.2 = hisD mo (l.map (keyT 0) ++ (m.take x.1).map (keyT 1))) (fun x => m.length - x.1) (0, cs) ?_ ?_ ?_
  · refine Le.of ?_ ?_ ?_ ?_ ?_ <;> simp [leTV, locsIn, encTraces_trs] <;> try omega
  · exact ⟨by simp, hcs, by simpa using hab⟩
  clear hcs hab
  clear cs
  rintro ⟨k, cs⟩ ⟨hk, hcs, hab⟩ KL hN hE
  simp only at hk hcs hab hN
  refine vc_sound (cf := cfAp) laid mixed _ _ _ (by kernel_rfl) ?_
  by_cases hlt : k < m.length
  · have hlt' : (k : Int) < m.length := by omega
    have hg := trs_get m k hlt
    have hxw := hm _ (List.getElem_mem hlt)
    have hst : hisD mo (l.map (keyT 0) ++ (m.take (k+1)).map (keyT 1)) = addD mo (hisD mo (l.map (keyT 0) ++ (m.take k).map (keyT 1))) (keyT 1 m[k]) := by
      rw [List.take_succ_eq_append_getElem hlt, List.map_append, List.map_cons, List.map_nil, ← List.append_assoc, hisD_app]
    obtain ⟨x, hx⟩ : ∃ x, x = m[k] := ⟨_, rfl⟩
    rw [← hx] at hg hxw hst
    (simp (maxSteps := 2000000) (disch := first | omega | assumption) [i64_in, tnS, Int.toNat_add, Int.toNat_mul, List.getElem?_cons_zero, List.getElem_cons_zero, -List.reduceReplicate, hlt', hg, encTraces_trs])
    refine callV_pc hxw.1.great rfl rfl (by simp) (by simp [argLe, TV.er]) ?_
    cases hw : wideTV x
    rotate_left
    · (simp (maxSteps := 2000000) (disch := first | omega | assumption) [i64_in, tnS, Int.toNat_add, Int.toNat_mul, List.getElem?_cons_zero, List.getElem_cons_zero, -List.reduceReplicate, hw])
      refine hE _ _ (by simp) ?_
      (simp (maxSteps := 2000000) (disch := first | omega | assumption) [i64_in, tnS, Int.toNat_add, Int.toNat_mul, List.getElem?_cons_zero, List.getElem_cons_zero, -List.reduceReplicate, Tryz.f3])
    (simp (maxSteps := 2000000) (disch := first | omega | assumption) [i64_in, tnS, Int.toNat_add, Int.toNat_mul, List.getElem?_cons_zero, List.getElem_cons_zero, -List.reduceReplicate, hw, hlt', hg, encTraces_trs])
    refine callV_pc (keyed1_ok x hxw.2.1) rfl rfl (by simp) (by simp [argLe, TV.er, coC]) ?_
    (simp (maxSteps := 2000000) (disch := first | omega | assumption) [i64_in, tnS, Int.toNat_add, Int.toNat_mul, List.getElem?_cons_zero, List.getElem_cons_zero, -List.reduceReplicate])
    refine callV_add (keyT 1 x) (keyT_B hxw).1 mo hm1 hm8 B M cs hcs (DbH B2 M2 mo []) (by simp) (er_encTrace _) fun cs1 hc1 ha1 => ?_
    (simp (maxSteps := 2000000) (disch := first | omega | assumption) [i64_in, tnS, Int.toNat_add, Int.toNat_mul, List.getElem?_cons_zero, List.getElem_cons_zero, -List.reduceReplicate])
    refine hN _ (k+1, cs1) ?_ ⟨by simp only; omega, hc1, by simp only; rw [ha1, hst, hab]⟩ (by simp only; omega)
    refine Le.of ?_ ?_ ?_ ?_ ?_ <;> simp [leTV, locsIn, encTraces_trs] <;> try omega
  have hlt' : ¬ (k : Int) < m.length := by omega
  rw [List.take_of_length_le (by omega)] at hab
  (simp (maxSteps := 2000000) (disch := first | omega | assumption) [i64_in, tnS, Int.toNat_add, Int.toNat_mul, List.getElem?_cons_zero, List.getElem_cons_zero, -List.reduceReplicate, hlt', encTraces_trs])
  refine hE _ _ (by simp) ?_
  clear hN hE hlt hlt' hk
  (simp (maxSteps := 2000000) (disch := first | omega | assumption) [i64_in, tnS, Int.toNat_add, Int.toNat_mul, List.getElem?_cons_zero, List.getElem_cons_zero, -List.reduceReplicate])
  obtain ⟨n, hn⟩ : ∃ n, n = max l.length m.length := ⟨_, rfl⟩
  have hnl : l.length ≤ n := by omega
  have hnm : m.length ≤ n := by omega
  have hmax : (if l.length < m.length then (m.length : Int) else l.length) = n := by split <;> omega
  refine AT.loop' (α := Nat × List Cel) (fun x => St.of [(1, .av (.slice 34) (encTraces l)), (2, .av (.slice 34) (encTraces m)), (7, .av .ptr (.ptr B DbT [])), (9, .av .ptr (.ptr B2 DbT [])), (13, .av (.int .i64) (.i .i64 x.1))] [] (fun _ => 0) (DbH B M mo cs ++ DbH B2 M2 mo x.2))
    (fun x => x.1 ≤ n ∧ (∀ c ∈ x.2, CelOK c) ∧ absD x.2 = hisD mo (turnT l m x.1)) (fun x => n - x.1) (0, []) ?_ ?_ ?_
  · refine Le.of ?_ ?_ ?_ ?_ ?_ <;> simp [leTV, locsIn, encTraces_trs] <;> try omega
  · simp [absD, hisD, turnT]
  rintro ⟨k, cs2⟩ ⟨hk, hcs2, hab2⟩ KL hN hE
  simp only at hk hcs2 hab2 hN
  refine vc_sound (cf := cfAp) laid mixed _ _ _ (by kernel_rfl) ?_
  by_cases hlt : k < n
  · have hlt' : (k : Int) < n := by omega
    rcases Nat.lt_or_ge k m.length with hkm | hkm
    · have hkm' : (k : Int) < m.length := by omega
      have hg := trs_get m k hkm
      have hxw := hm _ (List.getElem_mem hkm)
      have hmk : m[k]? = some m[k] := List.getElem?_eq_getElem hkm
      obtain ⟨x, hx⟩ : ∃ x, x = m[k] := ⟨_, rfl⟩
      rw [← hx] at hg hxw hmk
      (simp (maxSteps := 2000000) (disch := first | omega | assumption) [i64_in, tnS, Int.toNat_add, Int.toNat_mul, List.getElem?_cons_zero, List.getElem_cons_zero, -List.reduceReplicate, encTraces_trs, hmax, hlt', hkm', hg])
      refine callV_pc (keyed1_ok x hxw.2.1) rfl rfl (by simp) (by simp [argLe, TV.er, coC]) ?_
      (simp (maxSteps := 2000000) (disch := first | omega | assumption) [i64_in, tnS, Int.toNat_add, Int.toNat_mul, List.getElem?_cons_zero, List.getElem_cons_zero, -List.reduceReplicate])
      refine callV_add2 (keyT 1 x) (keyT_B hxw).1 mo hm1 hm8 B2 M2 cs2 hcs2 (DbH B M mo cs) (by simp) (er_encTrace _) fun cs1 hc1 ha1 => ?_
      rcases Nat.lt_or_ge k l.length with hkl | hkl
      · have hkl' : (k : Int) < l.length := by omega
        have hg := trs_get l k hkl
        have hyw := hl _ (List.getElem_mem hkl)
        have hlk : l[k]? = some l[k] := List.getElem?_eq_getElem hkl
        obtain ⟨y, hy⟩ : ∃ y, y = l[k] := ⟨_, rfl⟩
        rw [← hy] at hg hyw hlk
        (simp (maxSteps := 2000000) (disch := first | omega | assumption) [i64_in, tnS, Int.toNat_add, Int.toNat_mul, List.getElem?_cons_zero, List.getElem_cons_zero, -List.reduceReplicate, encTraces_trs, hkl', hg])
        refine callV_pc (keyed0_ok y hyw.2.1) rfl rfl (by simp) (by simp [argLe, TV.er, coC]) ?_
        (simp (maxSteps := 2000000) (disch := first | omega | assumption) [i64_in, tnS, Int.toNat_add, Int.toNat_mul, List.getElem?_cons_zero, List.getElem_cons_zero, -List.reduceReplicate])
        refine callV_add2 (keyT 0 y) (keyT_B hyw).1 mo hm1 hm8 B2 M2 cs1 hc1 (DbH B M mo cs) (by simp) (er_encTrace _) fun cs3 hc3 ha3 => ?_
        (simp (maxSteps := 2000000) (disch := first | omega | assumption) [i64_in, tnS, Int.toNat_add, Int.toNat_mul, List.getElem?_cons_zero, List.getElem_cons_zero, -List.reduceReplicate])
        refine hN _ (k+1, cs3) ?_ ⟨by simp only; omega, hc3, by simp only; rw [ha3, ha1, hab2, turnT, hmk, hlk, ← List.append_assoc]; simp [hisD]⟩ (by simp only; omega)
        refine Le.of ?_ ?_ ?_ ?_ ?_ <;> simp [leTV, locsIn, encTraces_trs] <;> try omega
      · have hkl' : ¬ (k : Int) < l.length := by omega
        have hlk : l[k]? = none := List.getElem?_eq_none hkl
        (simp (maxSteps := 2000000) (disch := first | omega | assumption) [i64_in, tnS, Int.toNat_add, Int.toNat_mul, List.getElem?_cons_zero, List.getElem_cons_zero, -List.reduceReplicate, encTraces_trs, hkl'])
        refine hN _ (k+1, cs1) ?_ ⟨by simp only; omega, hc1, by simp only; rw [ha1, hab2, turnT, hmk, hlk]; simp [hisD]⟩ (by simp only; omega)
        refine Le.of ?_ ?_ ?_ ?_ ?_ <;> simp [leTV, locsIn, encTraces_trs] <;> try omega
    · have hkm' : ¬ (k : Int) < m.length := by omega
      have hmk : m[k]? = none := List.getElem?_eq_none hkm
      have hkl : k < l.length := by omega
      have hkl' : (k : Int) < l.length := by omega
      have hg := trs_get l k hkl
      have hyw := hl _ (List.getElem_mem hkl)
      have hlk : l[k]? = some l[k] := List.getElem?_eq_getElem hkl
      obtain ⟨y, hy⟩ : ∃ y, y = l[k] := ⟨_, rfl⟩
      rw [← hy] at hg hyw hlk
      (simp (maxSteps := 2000000) (disch := first | omega | assumption) [i64_in, tnS, Int.toNat_add, Int.toNat_mul, List.getElem?_cons_zero, List.getElem_cons_zero, -List.reduceReplicate, encTraces_trs, hmax, hlt', hkm', hkl', hg])
      refine callV_pc (keyed0_ok y hyw.2.1) rfl rfl (by simp) (by simp [argLe, TV.er, coC]) ?_
      (simp (maxSteps := 2000000) (disch := first | omega | assumption) [i64_in, tnS, Int.toNat_add, Int.toNat_mul, List.getElem?_cons_zero, List.getElem_cons_zero, -List.reduceReplicate])
      refine callV_add2 (keyT 0 y) (keyT_B hyw).1 mo hm1 hm8 B2 M2 cs2 hcs2 (DbH B M mo cs) (by simp) (er_encTrace _) fun cs3 hc3 ha3 => ?_
      (simp (maxSteps := 2000000) (disch := first | omega | assumption) [i64_in, tnS, Int.toNat_add, Int.toNat_mul, List.getElem?_cons_zero, List.getElem_cons_zero, -List.reduceReplicate])
      refine hN _ (k+1, cs3) ?_ ⟨by simp only; omega, hc3, by simp only; rw [ha3, hab2, turnT, hmk, hlk]; simp [hisD]⟩ (by simp only; omega)
      refine Le.of ?_ ?_ ?_ ?_ ?_ <;> simp [leTV, locsIn, encTraces_trs] <;> try omega
  have hlt' : ¬ (k : Int) < n := by omega
  (simp (maxSteps := 2000000) (disch := first | omega | assumption) [i64_in, tnS, Int.toNat_add, Int.toNat_mul, List.getElem?_cons_zero, List.getElem_cons_zero, -List.reduceReplicate, encTraces_trs, hmax, hlt'])
  refine hE _ _ (by simp) ?_
  clear hN hE
  obtain rfl : k = n := by omega
  have hB1 : ∀ t ∈ appT l m, TrB t := fun t ht => by
    rcases List.mem_append.1 ht with h | h <;> obtain ⟨x, hx, rfl⟩ := List.mem_map.1 h
    · exact keyT_B (hl x hx)
    · exact keyT_B (hm x hx)
  have hB2 : ∀ t ∈ turnT l m k, TrB t := turn_mem (fun t h => keyT_B (hl t h)) (fun t h => keyT_B (hm t h)) k
  have hlaw : dbB mo (turnT l m k) = dbB mo (appT l m) := (dbB_same (apart_law (fun t h => (hl t h).2.1) (fun t h => (hm t h).2.1) hnl hnm)).symm
  (simp (maxSteps := 2000000) (disch := first | omega | assumption) [i64_in, tnS, Int.toNat_add, Int.toNat_mul, List.getElem?_cons_zero, List.getElem_cons_zero, -List.reduceReplicate])
  refine callV_bytes (appT l m) hB1 (by simp only [appT, List.length_append, List.length_map]; omega) mo hm8 B M cs hcs hab (DbH B2 M2 mo cs2) (by simp) ?_
  (simp (maxSteps := 2000000) (disch := first | omega | assumption) [i64_in, tnS, Int.toNat_add, Int.toNat_mul, List.getElem?_cons_zero, List.getElem_cons_zero, -List.reduceReplicate])
  refine callV_bytes (turnT l m k) hB2 (by have := turn_len l m k; omega) mo hm8 B2 M2 cs2 hcs2 hab2 (DbH B M mo cs) (by simpa using List.perm_append_comm) ?_
  rw [hlaw]
  (simp (maxSteps := 2000000) (disch := first | omega | assumption) [i64_in, tnS, Int.toNat_add, Int.toNat_mul, List.getElem?_cons_zero, List.getElem_cons_zero, -List.reduceReplicate, Tryz.f3])
end Go.Proofs.YthdgnfnalimcnaaGreatDoor
