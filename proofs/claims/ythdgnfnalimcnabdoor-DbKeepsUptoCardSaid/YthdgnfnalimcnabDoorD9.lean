/- The law DbKeeps: the program. No condition beyond each theorem's own. -/
import Derived.Test.YthdgnfnalimcnabDoorD8
import Derived.Test.YthdgnfnalimcnabDoorP17
import Derived.Test.YthdgnfnalimcnabDoorP34T
set_option linter.unusedSimpArgs false
set_option linter.unusedVariables false
set_option linter.unusedSectionVars false
set_option maxRecDepth 100000
/-! The law DbKeeps: the program. -/
namespace Go.Proofs.YthdgnfnalimcnabDoor
open Go Go.Ab
open Classical
variable [Sel]
attribute [local simp] vc_skip hiLen zN capV cpyD appendZ clearV delV mdel copyVT extV ovV vc_label vc_region vc_drawn vc_seq vc_cond vc_block vc_exit vc_goto vc_ret vc_loop vc_scope vcOps_nil vcOps_cons vcPs_nil vcPs_cons vcDs_nil vcDs_cons vcD impB mkd wkOf isCallV rdOK_eq rdO_nil rdO_tmp rdO_const rdO_global rdO_func rdL_nil rdL_cons rdT_av rdT_cst rdT_pel rdT_tup rdT_junk rdT_loc St.app Op.operands Call.operands vcG_eq iteP wkOf isCallV vcOp putK_eq pureV ev co coC asI asB asS isNil nkOf derefV fieldAddrV indexAddrV indexV lowV boundsV sliceV pickV_eq unV convV convB bytesOf capOf lenV minV withSrc slice3V lookupV mapOf mfind mput scalT mapUpdV makeSliceV appendM appendN growM growOK zM binI isConst binV St.put upd KSeq_n KSeq_x KSeq_g KSeq_r KBlock_n KBlock_x KBlock_g KBlock_r KScope_n KScope_x KScope_r KRet_n KRet_r resL retTV TV.er AV.er AV.ers AV.erk AV.erks Tok.k Heap.er_nil Heap.er_cons Heap.er_app HObj.er_var HObj.er_map Heap.keys_nil Heap.keys_cons Heap.keys_app hget hset subT getP setP_nil setP_one setP_two setPo_some storeV buildV buildL partsOf capTV argOK entry St.of lk_nil lk_cons leLoc siterOf_siter gB_undef gB_av gB_cst undef isNE_tmp isSlT nslD nslDs mslOf mstrV copyV copyK unsV ustrV hdel dataV sameP mtbD isSlN slNilV vcDo_nil vcDo_cons isLt sft sftD softV

@[simp] theorem fnok3 : fnOK Tryd.prog 3 = true := by kernel_rfl
@[simp] theorem isne3 : isNE Tryd.prog (.func 3) = false := isNE_func fnok3
/-- a trace that may be looked at -/
def TrW (t : Trace) : Prop := TrP t ∧ (∀ r ∈ t.reads, r.path.length ≤ 1000000000) ∧ ∀ r ∈ t.outs, r.path.length ≤ 1000000000
theorem TrW.ok {t : Trace} (h : TrW t) : TrOK t := ⟨h.1.1.1, h.1.2.1⟩
theorem TrW.check {t : Trace} (h : TrW t) : PC Tryd.prog 7 [.av (tyOf Tryd.prog 28) (encTrace t)] (.av (.int .i64) (.i .i64 (checkV t))) := rcheck_ok t h.1 h.2.1 h.2.2
theorem TrP.great {t : Trace} (h : TrP t) : PC Tryd.prog 5 [.av (tyOf Tryd.prog 28) (encTrace t)] (.av (.int .i64) (.i .i64 (if wideTV t = true then 1 else 0))) := great_ok t h.1.1 h.2.1 h.1.2 h.2.2
abbrev cfDk : Cfg := ⟨fun _ => false, fun _ => false⟩
noncomputable def wantK (mo : Nat) (o k : Dig) (l : List Trace) (n : Nat) : List Trace := (l.drop n).reverse.foldl (stepW mo o k) []
theorem wantK_step {mo : Nat} {o k : Dig} {l : List Trace} {q : Nat} (h : q < l.length) : wantK mo o k l q = stepW mo o k (wantK mo o k l (q+1)) l[q] := by
  unfold wantK
  rw [List.drop_eq_getElem_cons h, List.reverse_cons, List.foldl_append]; rfl
theorem wantK_len (mo : Nat) (o k : Dig) (l : List Trace) (n : Nat) : (wantK mo o k l n).length ≤ mo := by
  unfold wantK
  generalize (l.drop n).reverse = r
  suffices h : ∀ (r w : List Trace), w.length ≤ mo → (r.foldl (stepW mo o k) w).length ≤ mo from h r [] (by simp)
  intro r
  induction r with
  | nil => exact fun w h => h
  | cons x r ih => exact fun w h => ih _ (stepW_len h)
theorem wantK_mem {mo : Nat} {o k : Dig} {l : List Trace} {n : Nat} : ∀ x ∈ wantK mo o k l n, x ∈ l := by
  unfold wantK
  have : ∀ x ∈ (l.drop n).reverse, x ∈ l := fun x hx => List.mem_of_mem_drop (List.mem_reverse.1 hx)
  revert this
  generalize (l.drop n).reverse = r
  intro hr
  suffices h : ∀ (r w : List Trace), (∀ x ∈ r, x ∈ l) → (∀ x ∈ w, x ∈ l) → ∀ x ∈ r.foldl (stepW mo o k) w, x ∈ l from h r [] hr (by simp)
  intro r
  induction r with
  | nil => exact fun w _ h => h
  | cons x r ih =>
    intro w h1 h2
    refine ih _ (fun y hy => h1 y (List.mem_cons_of_mem _ hy)) fun y hy => ?_
    unfold stepW at hy
    split at hy
    · rcases List.mem_append.1 hy with h | h
      · exact h2 y h
      · simp only [List.mem_singleton] at h; subst h; exact h1 y (by simp)
    · exact h2 y hy
theorem encTraces_trs (l : List Trace) : encTraces l = .sl .no (trs l) := rfl
theorem trs_one (x : Trace) : trs [x] = [encTrace x] := rfl
set_option maxHeartbeats 32000000 in
theorem dbKeeps_ok (most : Int) (l : List Trace) (o : Trace) (hl : ∀ x ∈ l, TrW x) (ho : TrW o) (hln : l.length ≤ 9223372036854775807) :
    PC Tryd.prog 3 [.av (.int .i64) (.i .i64 most), .av (.slice 28) (encTraces l), .av (tyOf Tryd.prog 28) (encTrace o)] (.av .bool (.b true)) := by
  refine PC.of <| ACalls.of_vc laid mixed Tryd.func3 rfl (by kernel_rfl) cfDk (by simp [Tryd.ntmps3]) fun imm0 w0 => ?_
  (simp (maxSteps := 2000000) (disch := first | omega | assumption) [i64_in, tnS, Int.toNat_add, Int.toNat_mul, List.getElem?_cons_zero, List.getElem_cons_zero, -List.reduceReplicate])
  refine callV_pc dalive_ok rfl rfl (by simp) (by simp [argLe, TV.er, AV.er]) ?_
  by_cases g1 : 40 < l.length
  · have g1' : (40 : Int) < l.length := by omega
    (simp (maxSteps := 2000000) (disch := first | omega | assumption) [i64_in, tnS, Int.toNat_add, Int.toNat_mul, List.getElem?_cons_zero, List.getElem_cons_zero, -List.reduceReplicate, g1', encTraces_trs, Tryd.f3])
  have g1' : ¬ (40 : Int) < l.length := by omega
  by_cases g2 : most < 1
  · (simp (maxSteps := 2000000) (disch := first | omega | assumption) [i64_in, tnS, Int.toNat_add, Int.toNat_mul, List.getElem?_cons_zero, List.getElem_cons_zero, -List.reduceReplicate, g1', g2, encTraces_trs, Tryd.f3])
  by_cases g3 : 8 < most
  · (simp (maxSteps := 2000000) (disch := first | omega | assumption) [i64_in, tnS, Int.toNat_add, Int.toNat_mul, List.getElem?_cons_zero, List.getElem_cons_zero, -List.reduceReplicate, g1', g2, g3, encTraces_trs, Tryd.f3])
  (simp (maxSteps := 2000000) (disch := first | omega | assumption) [i64_in, tnS, Int.toNat_add, Int.toNat_mul, List.getElem?_cons_zero, List.getElem_cons_zero, -List.reduceReplicate, g1', g2, g3, encTraces_trs])
  refine callV_pc ho.1.great rfl rfl (by simp) (by simp [argLe, TV.er]) ?_
  cases g4 : wideTV o
  rotate_left
  · (simp (maxSteps := 2000000) (disch := first | omega | assumption) [i64_in, tnS, Int.toNat_add, Int.toNat_mul, List.getElem?_cons_zero, List.getElem_cons_zero, -List.reduceReplicate, g4, Tryd.f3])
  obtain ⟨mo, rfl⟩ : ∃ mo : Nat, most = mo := ⟨most.toNat, by omega⟩
  have hm1 : 1 ≤ mo := by omega
  have hm8 : mo ≤ 8 := by omega
  (simp (maxSteps := 2000000) (disch := first | omega | assumption) [i64_in, tnS, Int.toNat_add, Int.toNat_mul, List.getElem?_cons_zero, List.getElem_cons_zero, -List.reduceReplicate, g4])
  refine AT.loop' (α := Nat) (fun k => St.of [(0, .av (.int .i64) (.i .i64 mo)), (1, .av (.slice 28) (encTraces l)), (5, .loc 5 []), (7, .av (.int .i64) (.i .i64 k))] [(5, (TrT, encTrace o))] (fun _ => 0) [])
    (fun k => k ≤ l.length) (fun k => l.length - k) 0 ?_ ?_ ?_
  · refine Le.of ?_ ?_ ?_ ?_ ?_ <;> simp [leTV, locsIn, encTraces_trs] <;> try omega
  · simp
  rintro k hk KL hN hE
  refine vc_sound (cf := cf0) laid mixed _ _ _ (by kernel_rfl) ?_
  by_cases hlt : k < l.length
  · have hlt' : (k : Int) < l.length := by omega
    have hg := trs_get l k hlt
    (simp (maxSteps := 2000000) (disch := first | omega | assumption) [i64_in, tnS, Int.toNat_add, Int.toNat_mul, List.getElem?_cons_zero, List.getElem_cons_zero, -List.reduceReplicate, hlt', hg, encTraces_trs])
    refine callV_pc (hl _ (List.getElem_mem hlt)).1.great rfl rfl (by simp) (by simp [argLe, TV.er]) ?_
    cases hw : wideTV l[k]
    · (simp (maxSteps := 2000000) (disch := first | omega | assumption) [i64_in, tnS, Int.toNat_add, Int.toNat_mul, List.getElem?_cons_zero, List.getElem_cons_zero, -List.reduceReplicate, hw])
      refine hN _ (k+1) ?_ (by omega) (by omega)
      refine Le.of ?_ ?_ ?_ ?_ ?_ <;> simp [leTV, locsIn, encTraces_trs] <;> try omega
    · (simp (maxSteps := 2000000) (disch := first | omega | assumption) [i64_in, tnS, Int.toNat_add, Int.toNat_mul, List.getElem?_cons_zero, List.getElem_cons_zero, -List.reduceReplicate, hw])
      refine hE _ _ (by simp) ?_
      (simp (maxSteps := 2000000) (disch := first | omega | assumption) [i64_in, tnS, Int.toNat_add, Int.toNat_mul, List.getElem?_cons_zero, List.getElem_cons_zero, -List.reduceReplicate, Tryd.f3])
  have hlt' : ¬ (k : Int) < l.length := by omega
  (simp (maxSteps := 2000000) (disch := first | omega | assumption) [i64_in, tnS, Int.toNat_add, Int.toNat_mul, List.getElem?_cons_zero, List.getElem_cons_zero, -List.reduceReplicate, hlt', encTraces_trs])
  refine hE _ _ (by simp) ?_
  clear hN hE hlt hlt' hk
  (simp (maxSteps := 2000000) (disch := first | omega | assumption) [i64_in, tnS, Int.toNat_add, Int.toNat_mul, List.getElem?_cons_zero, List.getElem_cons_zero, -List.reduceReplicate])
  refine callV_sub (R := fun r H' => ∃ B M, r = .tup [(.ptr, .ptr B DbT []), (.int .i64, .i .i64 0)] ∧ H' = DbH B M mo []) [] [] (by simp) rfl (by simp [argOK]) (by simp) ?_ ?_
  · exact ACalls.args (dbnew_ok mo hm1 hm8) (by simp [argLe, coC, TV.er, AV.er])
  rintro r' H' ⟨B, M, rfl, rfl⟩ _
  refine ⟨DbH B M mo [], by simpa using HSub.refl _, ?_⟩
  (simp (maxSteps := 2000000) (disch := first | omega | assumption) [i64_in, tnS, Int.toNat_add, Int.toNat_mul, List.getElem?_cons_zero, List.getElem_cons_zero, -List.reduceReplicate])
  obtain ⟨kk, hkk⟩ : ∃ kk : Dig, ∀ h : 0 < l.length, kk = l[l.length - 1].key := by
    by_cases h : 0 < l.length
    · exact ⟨l[l.length - 1].key, fun _ => rfl⟩
    · exact ⟨[], fun h' => absurd h' h⟩
  obtain ⟨W, hW⟩ : ∃ W : Nat → List Trace, W = wantK mo o.key kk l := ⟨_, rfl⟩
  have hWn : W l.length = [] := by rw [hW]; simp [wantK]
  have hWl : ∀ n, (W n).length ≤ mo := fun n => by rw [hW]; exact wantK_len _ _ _ _ _
  have hWm : ∀ n, ∀ x ∈ W n, x ∈ l := fun n => by rw [hW]; exact wantK_mem
  have hWs : ∀ q (h : q < l.length), W q = stepW mo o.key kk (W (q+1)) l[q] := fun q h => by rw [hW]; exact wantK_step h
  refine AT.loop' (α := Nat) (fun k => St.of [(0, .av (.int .i64) (.i .i64 mo)), (1, .av (.slice 28) (encTraces l)), (5, .loc 5 []), (8, .av .ptr (.ptr B DbT [])), (10, .av (.slice 28) (.sl (tkO 120 (W k).length) (trs (W k)))), (11, .av (.int .i64) (.i .i64 ((k : Int) - 1)))] [(5, (TrT, encTrace o))] (fun j => if j = 120 then (W k).length else 0) (DbH B M mo []))
    (fun k => k ≤ l.length) (fun k => k) l.length ?_ ?_ ?_
  · refine Le.of ?_ ?_ ?_ ?_ ?_ <;> simp [leTV, locsIn, encTraces_trs, hWn, tkO, trs] <;> try omega
  · simp
  rintro k hk KL hN hE
  refine vc_sound (cf := cfDk) laid mixed _ _ _ (by kernel_rfl) ?_
  rcases Nat.eq_zero_or_pos k with h0 | h0
  rotate_left
  · obtain ⟨q, rfl⟩ : ∃ q, k = q + 1 := ⟨k - 1, by omega⟩
    have hlt : q < l.length := by omega
    have hg := trs_get l q hlt
    have hglt : (q : Int) < l.length := by omega
    have hl1 : l.length - 1 < l.length := by omega
    have hgl := trs_get l (l.length - 1) hl1
    have hkk' := hkk (by omega)
    have htn : ((l.length : Int) - 1).toNat = l.length - 1 := by omega
    have hstep := hWs q hlt
    have hxw := hl _ (List.getElem_mem hlt)
    obtain ⟨x, hx⟩ : ∃ x, x = l[q] := ⟨_, rfl⟩
    obtain ⟨y, hy⟩ : ∃ y, y = l[l.length - 1] := ⟨_, rfl⟩
    rw [← hx] at hg hstep hxw
    rw [← hy] at hgl hkk'
    subst hkk'
    clear hx hy
    obtain ⟨w, hw⟩ : ∃ w, w = W (q+1) := ⟨_, rfl⟩
    have hwl := hWl (q+1)
    have hwm := hWm (q+1)
    rw [← hw] at hstep hwl hwm ⊢
    (simp (maxSteps := 2000000) (disch := first | omega | assumption) [i64_in, tnS, Int.toNat_add, Int.toNat_mul, List.getElem?_cons_zero, List.getElem_cons_zero, -List.reduceReplicate, encTraces_trs, hg, hglt])
    (repeat ((with_reducible refine And.intro ?_ ?_); (· first | omega | (show barB _ _ = true; kernel_rfl) | (show rdJ _ _ _ _ _ = true; kernel_rfl) | (show tailB _ _ _ = true; kernel_rfl) | (show sftB _ _ _ = true; kernel_rfl))))
    refine callD_pc hxw.check rfl rfl (by simp) (by simp [argLe, TV.er]) ?_
    have hnx : ∀ j (h : j < w.length), (w.take (j+1)).any (fun z => sameV z x) = ((w.take j).any (fun z => sameV z x) || sameV w[j] x) := fun j h => by
      rw [List.take_succ_eq_append_getElem h, List.any_append]; simp
    have hany : w.any (fun z => sameV z x) = decide (x ∈ w) := by
      rw [Bool.eq_iff_iff, List.any_eq_true, decide_eq_true_eq]
      exact ⟨fun ⟨z, h1, h2⟩ => (sameV_iff.1 h2) ▸ h1, fun h => ⟨x, h, sameV_iff.2 rfl⟩⟩
    have h3 : (¬ checkV x = 0) ∨ (checkV x = 0 ∧ x.key = o.key) ∨ (checkV x = 0 ∧ ¬ x.key = o.key) := by
      by_cases a : checkV x = 0 <;> by_cases b : x.key = o.key <;> simp [a, b]
    rcases h3 with hc | ⟨hc, hko⟩ | ⟨hc, hko⟩
    · (simp (maxSteps := 2000000) (disch := first | omega | assumption) [i64_in, tnS, Int.toNat_add, Int.toNat_mul, List.getElem?_cons_zero, List.getElem_cons_zero, -List.reduceReplicate, hc, hg, hglt, encTrace, encD])
      (repeat ((with_reducible refine And.intro ?_ ?_); (· first | omega | (show barB _ _ = true; kernel_rfl) | (show rdJ _ _ _ _ _ = true; kernel_rfl) | (show tailB _ _ _ = true; kernel_rfl) | (show sftB _ _ _ = true; kernel_rfl))))
      refine AT.loop' (α := Nat) (fun j => St.of [(0, .av (.int .i64) (.i .i64 mo)), (1, .av (.slice 28) (encTraces l)), (5, .loc 5 []), (8, .av .ptr (.ptr B DbT [])), (10, .av (.slice 28) (.sl (tkO 120 w.length) (trs w))), (11, .av (.int .i64) (.i .i64 q)), (12, .av .bool (.b true)), (13, .av (.int .i64) (.i .i64 j))] [(5, (TrT, encTrace o))] (fun j => if j = 120 then w.length else 0) (DbH B M mo []))
        (fun j => j ≤ w.length) (fun j => w.length - j) 0 ?_ ?_ ?_
      · refine Le.of ?_ ?_ ?_ ?_ ?_ <;> simp [leTV, locsIn, encTraces_trs, encTrace, encD] <;> try omega
      · simp
      rintro j hj KL2 hN2 hE2
      refine vc_sound (cf := cfDk) laid mixed _ _ _ (by kernel_rfl) ?_
      by_cases hjw : j < w.length
      · have hjw' : (j : Int) < w.length := by omega
        (simp (maxSteps := 2000000) (disch := first | omega | assumption) [i64_in, tnS, Int.toNat_add, Int.toNat_mul, List.getElem?_cons_zero, List.getElem_cons_zero, -List.reduceReplicate, hjw'])
        (repeat ((with_reducible refine And.intro ?_ ?_); (· first | omega | (show barB _ _ = true; kernel_rfl) | (show rdJ _ _ _ _ _ = true; kernel_rfl) | (show tailB _ _ _ = true; kernel_rfl) | (show sftB _ _ _ = true; kernel_rfl))))
        refine hN2 _ (j+1) ?_ (by omega) (by omega)
        refine Le.of ?_ ?_ ?_ ?_ ?_ <;> simp [leTV, locsIn, encTraces_trs] <;> try omega
      · have hjw' : ¬ (j : Int) < w.length := by omega
        (simp (maxSteps := 2000000) (disch := first | omega | assumption) [i64_in, tnS, Int.toNat_add, Int.toNat_mul, List.getElem?_cons_zero, List.getElem_cons_zero, -List.reduceReplicate, hjw'])
        refine hE2 _ _ (by simp) ?_
        clear hE2 hN2
        have hst2 : W q = w := by
          rw [hstep]; unfold stepW; rw [if_neg]
          rintro ⟨⟨a, b⟩, c, _⟩
          exact hc a
        (simp (maxSteps := 2000000) (disch := first | omega | assumption) [i64_in, tnS, Int.toNat_add, Int.toNat_mul, List.getElem?_cons_zero, List.getElem_cons_zero, -List.reduceReplicate])
        (repeat ((with_reducible refine And.intro ?_ ?_); (· first | omega | (show barB _ _ = true; kernel_rfl) | (show rdJ _ _ _ _ _ = true; kernel_rfl) | (show tailB _ _ _ = true; kernel_rfl) | (show sftB _ _ _ = true; kernel_rfl))))
        refine hN _ q ?_ (by omega) (by omega)
        refine Le.of ?_ ?_ ?_ ?_ ?_ <;> simp [leTV, locsIn, encTraces_trs, encTrace, encD, hst2] <;> try omega
    · (simp (maxSteps := 2000000) (disch := first | omega | assumption) [i64_in, tnS, Int.toNat_add, Int.toNat_mul, List.getElem?_cons_zero, List.getElem_cons_zero, -List.reduceReplicate, hc, hg, hglt, encTrace, hko, encD, encD_inj'])
      (repeat ((with_reducible refine And.intro ?_ ?_); (· first | omega | (show barB _ _ = true; kernel_rfl) | (show rdJ _ _ _ _ _ = true; kernel_rfl) | (show tailB _ _ _ = true; kernel_rfl) | (show sftB _ _ _ = true; kernel_rfl))))
      refine AT.loop' (α := Nat) (fun j => St.of [(0, .av (.int .i64) (.i .i64 mo)), (1, .av (.slice 28) (encTraces l)), (5, .loc 5 []), (8, .av .ptr (.ptr B DbT [])), (10, .av (.slice 28) (.sl (tkO 120 w.length) (trs w))), (11, .av (.int .i64) (.i .i64 q)), (12, .av .bool (.b true)), (13, .av (.int .i64) (.i .i64 j))] [(5, (TrT, encTrace o))] (fun j => if j = 120 then w.length else 0) (DbH B M mo []))
        (fun j => j ≤ w.length) (fun j => w.length - j) 0 ?_ ?_ ?_
      · refine Le.of ?_ ?_ ?_ ?_ ?_ <;> simp [leTV, locsIn, encTraces_trs, encTrace, encD] <;> try omega
      · simp
      rintro j hj KL2 hN2 hE2
      refine vc_sound (cf := cfDk) laid mixed _ _ _ (by kernel_rfl) ?_
      by_cases hjw : j < w.length
      · have hjw' : (j : Int) < w.length := by omega
        (simp (maxSteps := 2000000) (disch := first | omega | assumption) [i64_in, tnS, Int.toNat_add, Int.toNat_mul, List.getElem?_cons_zero, List.getElem_cons_zero, -List.reduceReplicate, hjw'])
        (repeat ((with_reducible refine And.intro ?_ ?_); (· first | omega | (show barB _ _ = true; kernel_rfl) | (show rdJ _ _ _ _ _ = true; kernel_rfl) | (show tailB _ _ _ = true; kernel_rfl) | (show sftB _ _ _ = true; kernel_rfl))))
        refine hN2 _ (j+1) ?_ (by omega) (by omega)
        refine Le.of ?_ ?_ ?_ ?_ ?_ <;> simp [leTV, locsIn, encTraces_trs] <;> try omega
      · have hjw' : ¬ (j : Int) < w.length := by omega
        (simp (maxSteps := 2000000) (disch := first | omega | assumption) [i64_in, tnS, Int.toNat_add, Int.toNat_mul, List.getElem?_cons_zero, List.getElem_cons_zero, -List.reduceReplicate, hjw'])
        refine hE2 _ _ (by simp) ?_
        clear hE2 hN2
        have hst2 : W q = w := by
          rw [hstep]; unfold stepW; rw [if_neg]
          rintro ⟨⟨a, b⟩, c, _⟩
          exact b hko
        (simp (maxSteps := 2000000) (disch := first | omega | assumption) [i64_in, tnS, Int.toNat_add, Int.toNat_mul, List.getElem?_cons_zero, List.getElem_cons_zero, -List.reduceReplicate])
        (repeat ((with_reducible refine And.intro ?_ ?_); (· first | omega | (show barB _ _ = true; kernel_rfl) | (show rdJ _ _ _ _ _ = true; kernel_rfl) | (show tailB _ _ _ = true; kernel_rfl) | (show sftB _ _ _ = true; kernel_rfl))))
        refine hN _ q ?_ (by omega) (by omega)
        refine Le.of ?_ ?_ ?_ ?_ ?_ <;> simp [leTV, locsIn, encTraces_trs, encTrace, encD, hst2] <;> try omega
    · (simp (maxSteps := 2000000) (disch := first | omega | assumption) [i64_in, tnS, Int.toNat_add, Int.toNat_mul, List.getElem?_cons_zero, List.getElem_cons_zero, -List.reduceReplicate, hc, hg, hglt, encTrace, hko, encD, encD_inj'])
      (repeat ((with_reducible refine And.intro ?_ ?_); (· first | omega | (show barB _ _ = true; kernel_rfl) | (show rdJ _ _ _ _ _ = true; kernel_rfl) | (show tailB _ _ _ = true; kernel_rfl) | (show sftB _ _ _ = true; kernel_rfl))))
      refine AT.loop' (α := Nat) (fun j => St.of [(0, .av (.int .i64) (.i .i64 mo)), (1, .av (.slice 28) (encTraces l)), (5, .loc 5 []), (8, .av .ptr (.ptr B DbT [])), (10, .av (.slice 28) (.sl (tkO 120 w.length) (trs w))), (11, .av (.int .i64) (.i .i64 q)), (12, .av .bool (.b ((w.take j).any (fun z => sameV z x)))), (13, .av (.int .i64) (.i .i64 j))] [(5, (TrT, encTrace o))] (fun j => if j = 120 then w.length else 0) (DbH B M mo []))
        (fun j => j ≤ w.length) (fun j => w.length - j) 0 ?_ ?_ ?_
      · refine Le.of ?_ ?_ ?_ ?_ ?_ <;> simp [leTV, locsIn, encTraces_trs, encTrace, encD] <;> try omega
      · simp
      rintro j hj KL2 hN2 hE2
      refine vc_sound (cf := cfDk) laid mixed _ _ _ (by kernel_rfl) ?_
      by_cases hjw : j < w.length
      · have hjw' : (j : Int) < w.length := by omega
        have hgw := trs_get w j hjw
        have hnx := hnx j hjw
        by_cases hsj : (w.take j).any (fun z => sameV z x) = true
        · rw [hsj, Bool.true_or] at hnx
          (simp (maxSteps := 2000000) (disch := first | omega | assumption) [i64_in, tnS, Int.toNat_add, Int.toNat_mul, List.getElem?_cons_zero, List.getElem_cons_zero, -List.reduceReplicate, hjw', hsj, hgw])
          (repeat ((with_reducible refine And.intro ?_ ?_); (· first | omega | (show barB _ _ = true; kernel_rfl) | (show rdJ _ _ _ _ _ = true; kernel_rfl) | (show tailB _ _ _ = true; kernel_rfl) | (show sftB _ _ _ = true; kernel_rfl))))
          refine hN2 _ (j+1) ?_ (by omega) (by omega)
          refine Le.of ?_ ?_ ?_ ?_ ?_ <;> simp [leTV, locsIn, encTraces_trs, hnx] <;> try omega
        · rw [Bool.not_eq_true] at hsj
          rw [hsj, Bool.false_or] at hnx
          (simp (maxSteps := 2000000) (disch := first | omega | assumption) [i64_in, tnS, Int.toNat_add, Int.toNat_mul, List.getElem?_cons_zero, List.getElem_cons_zero, -List.reduceReplicate, hjw', hsj, hgw, hg, hglt, encTraces_trs])
          (repeat ((with_reducible refine And.intro ?_ ?_); (· first | omega | (show barB _ _ = true; kernel_rfl) | (show rdJ _ _ _ _ _ = true; kernel_rfl) | (show tailB _ _ _ = true; kernel_rfl) | (show sftB _ _ _ = true; kernel_rfl))))
          refine callD_pc (rsame_ok w[j] x (hl _ (hwm _ (List.getElem_mem hjw))).ok hxw.ok) rfl rfl (by simp) (by simp [argLe, TV.er]) ?_
          (simp (maxSteps := 2000000) (disch := first | omega | assumption) [i64_in, tnS, Int.toNat_add, Int.toNat_mul, List.getElem?_cons_zero, List.getElem_cons_zero, -List.reduceReplicate])
          (repeat ((with_reducible refine And.intro ?_ ?_); (· first | omega | (show barB _ _ = true; kernel_rfl) | (show rdJ _ _ _ _ _ = true; kernel_rfl) | (show tailB _ _ _ = true; kernel_rfl) | (show sftB _ _ _ = true; kernel_rfl))))
          refine hN2 _ (j+1) ?_ (by omega) (by omega)
          refine Le.of ?_ ?_ ?_ ?_ ?_ <;> simp [leTV, locsIn, encTraces_trs, hnx] <;> try omega
      · have hjw' : ¬ (j : Int) < w.length := by omega
        rw [List.take_of_length_le (by omega), hany]
        (simp (maxSteps := 2000000) (disch := first | omega | assumption) [i64_in, tnS, Int.toNat_add, Int.toNat_mul, List.getElem?_cons_zero, List.getElem_cons_zero, -List.reduceReplicate, hjw'])
        refine hE2 _ _ (by simp) ?_
        clear hE2 hN2 hnx hany
        by_cases hxm : x ∈ w
        · have hst2 : W q = w := by
            rw [hstep]; unfold stepW; rw [if_neg fun h => h.2.1 hxm]
          (simp (maxSteps := 2000000) (disch := first | omega | assumption) [i64_in, tnS, Int.toNat_add, Int.toNat_mul, List.getElem?_cons_zero, List.getElem_cons_zero, -List.reduceReplicate, hxm])
          (repeat ((with_reducible refine And.intro ?_ ?_); (· first | omega | (show barB _ _ = true; kernel_rfl) | (show rdJ _ _ _ _ _ = true; kernel_rfl) | (show tailB _ _ _ = true; kernel_rfl) | (show sftB _ _ _ = true; kernel_rfl))))
          refine hN _ q ?_ (by omega) (by omega)
          refine Le.of ?_ ?_ ?_ ?_ ?_ <;> simp [leTV, locsIn, encTraces_trs, encTrace, encD, hst2] <;> try omega
        by_cases hkl : x.key = y.key
        · by_cases hlen : w.length < mo
          · have hlen' : (w.length : Int) < mo := by omega
            have hst2 : W q = w ++ [x] := by rw [hstep]; unfold stepW; rw [if_pos ⟨⟨hc, hko⟩, hxm, hkl, hlen⟩]
            rcases Nat.eq_zero_or_pos w.length with hw0 | hw0
            · have hwn : w = [] := List.eq_nil_of_length_eq_zero hw0
              have hmo0 : (0 : Int) < mo := by omega
              have hmo1 : 0 < mo := by omega
              subst hwn
              have htr : trs [] = [] := rfl
              (simp (maxSteps := 2000000) (disch := first | omega | assumption) [i64_in, tnS, Int.toNat_add, Int.toNat_mul, List.getElem?_cons_zero, List.getElem_cons_zero, -List.reduceReplicate, hg, hglt, hgl, htn, encTraces_trs, encTrace, hkl, hmo0, hmo1, tkO, htr, encD, encD_inj'])
              (repeat ((with_reducible refine And.intro ?_ ?_); (· first | omega | (show barB _ _ = true; kernel_rfl) | (show rdJ _ _ _ _ _ = true; kernel_rfl) | (show tailB _ _ _ = true; kernel_rfl) | (show sftB _ _ _ = true; kernel_rfl))))
              (simp (maxSteps := 2000000) (disch := first | omega | assumption) [i64_in, tnS, Int.toNat_add, Int.toNat_mul, List.getElem?_cons_zero, List.getElem_cons_zero, -List.reduceReplicate, appendV])
              (repeat ((with_reducible refine And.intro ?_ ?_); (· first | omega | (show barB _ _ = true; kernel_rfl) | (show rdJ _ _ _ _ _ = true; kernel_rfl) | (show tailB _ _ _ = true; kernel_rfl) | (show sftB _ _ _ = true; kernel_rfl))))
              refine hN _ q ?_ (by omega) (by omega)
              refine Le.of ?_ ?_ ?_ ?_ ?_ <;> simp [leTV, locsIn, encTraces_trs, encTrace, encD, hst2, hkl, trs, tkO] <;> try omega
              all_goals (intro j; by_cases hj : j = 120 <;> simp [hj])
            · obtain ⟨p, hp⟩ : ∃ p, w.length = p + 1 := ⟨w.length - 1, by omega⟩
              have hlen2 : (p : Int) + 1 < mo := by omega
              have hlen3 : p + 1 < mo := by omega
              (simp (maxSteps := 2000000) (disch := first | omega | assumption) [i64_in, tnS, Int.toNat_add, Int.toNat_mul, List.getElem?_cons_zero, List.getElem_cons_zero, -List.reduceReplicate, hxm, hg, hglt, hgl, htn, encTraces_trs, encTrace, hkl, hlen2, hlen3, hp, tkO, encD, encD_inj'])
              (repeat ((with_reducible refine And.intro ?_ ?_); (· first | omega | (show barB _ _ = true; kernel_rfl) | (show rdJ _ _ _ _ _ = true; kernel_rfl) | (show tailB _ _ _ = true; kernel_rfl) | (show sftB _ _ _ = true; kernel_rfl))))
              (simp (maxSteps := 2000000) (disch := first | omega | assumption) [i64_in, tnS, Int.toNat_add, Int.toNat_mul, List.getElem?_cons_zero, List.getElem_cons_zero, -List.reduceReplicate, appendV, hp])
              (repeat ((with_reducible refine And.intro ?_ ?_); (· first | omega | (show barB _ _ = true; kernel_rfl) | (show rdJ _ _ _ _ _ = true; kernel_rfl) | (show tailB _ _ _ = true; kernel_rfl) | (show sftB _ _ _ = true; kernel_rfl))))
              refine hN _ q ?_ (by omega) (by omega)
              refine Le.of ?_ ?_ ?_ ?_ ?_ <;> simp [leTV, locsIn, encTraces_trs, encTrace, encD, hst2, hkl, trs_app, trs_one, tkO, hp] <;> try omega
              all_goals (intro j; by_cases hj : j = 120 <;> simp [hj])
          · have hlen' : ¬ (w.length : Int) < mo := by omega
            have hst2 : W q = w := by rw [hstep]; unfold stepW; rw [if_neg fun h => hlen h.2.2.2]
            (simp (maxSteps := 2000000) (disch := first | omega | assumption) [i64_in, tnS, Int.toNat_add, Int.toNat_mul, List.getElem?_cons_zero, List.getElem_cons_zero, -List.reduceReplicate, hxm, hg, hglt, hgl, htn, encTraces_trs, encTrace, hkl, hlen', encD, encD_inj'])
            (repeat ((with_reducible refine And.intro ?_ ?_); (· first | omega | (show barB _ _ = true; kernel_rfl) | (show rdJ _ _ _ _ _ = true; kernel_rfl) | (show tailB _ _ _ = true; kernel_rfl) | (show sftB _ _ _ = true; kernel_rfl))))
            refine hN _ q ?_ (by omega) (by omega)
            refine Le.of ?_ ?_ ?_ ?_ ?_ <;> simp [leTV, locsIn, encTraces_trs, encTrace, encD, hst2, hkl] <;> try omega
        · have hst2 : W q = w := by rw [hstep]; unfold stepW; rw [if_neg fun h => hkl h.2.2.1]
          (simp (maxSteps := 2000000) (disch := first | omega | assumption) [i64_in, tnS, Int.toNat_add, Int.toNat_mul, List.getElem?_cons_zero, List.getElem_cons_zero, -List.reduceReplicate, hxm, hg, hglt, hgl, htn, encTraces_trs, encTrace, hkl, encD, encD_inj'])
          (repeat ((with_reducible refine And.intro ?_ ?_); (· first | omega | (show barB _ _ = true; kernel_rfl) | (show rdJ _ _ _ _ _ = true; kernel_rfl) | (show tailB _ _ _ = true; kernel_rfl) | (show sftB _ _ _ = true; kernel_rfl))))
          refine hN _ q ?_ (by omega) (by omega)
          refine Le.of ?_ ?_ ?_ ?_ ?_ <;> simp [leTV, locsIn, encTraces_trs, encTrace, encD, hst2] <;> try omega
  · subst h0
    have hWl0 := hWl 0
    have hWm0 := hWm 0
    (simp (maxSteps := 2000000) (disch := first | omega | assumption) [i64_in, tnS, Int.toNat_add, Int.toNat_mul, List.getElem?_cons_zero, List.getElem_cons_zero, -List.reduceReplicate])
    refine hE _ _ (by simp) ?_
    clear hN hE hWs hWl hWm
    (simp (maxSteps := 2000000) (disch := first | omega | assumption) [i64_in, tnS, Int.toNat_add, Int.toNat_mul, List.getElem?_cons_zero, List.getElem_cons_zero, -List.reduceReplicate])
    refine AT.loop' (α := Nat × List Cel) (fun p => St.of [(0, .av (.int .i64) (.i .i64 mo)), (1, .av (.slice 28) (encTraces l)), (5, .loc 5 []), (8, .av .ptr (.ptr B DbT [])), (10, .av (.slice 28) (.sl .no (trs (W 0)))), (14, .av (.int .i64) (.i .i64 p.1))] [(5, (TrT, encTrace o))] (fun j => if j = 120 then (W 0).length else 0) (DbH B M mo p.2))
      (fun p => p.1 ≤ l.length ∧ (∀ c ∈ p.2, CelOK c) ∧ absD p.2 = (l.take p.1).foldl (step3 mo o) []) (fun p => l.length - p.1) (0, []) ?_ ?_ ?_
    · refine Le.of ?_ ?_ ?_ ?_ ?_ <;> simp [leTV, locsIn, encTraces_trs] <;> try omega
    · exact ⟨by simp, by simp, rfl⟩
    rintro ⟨k, cs⟩ ⟨hk, hcs, hab⟩ KL hN hE
    simp only at hk hcs hab
    refine vc_sound (cf := cfDk) laid mixed _ _ _ (by kernel_rfl) ?_
    by_cases hlt : k < l.length
    · have hlt' : (k : Int) < l.length := by omega
      have hg := trs_get l k hlt
      have hxw := hl _ (List.getElem_mem hlt)
      have hst : (l.take (k+1)).foldl (step3 mo o) [] = step3 mo o ((l.take k).foldl (step3 mo o) []) l[k] := by
        rw [List.take_succ_eq_append_getElem hlt, List.foldl_append]; rfl
      obtain ⟨x, hx⟩ : ∃ x, x = l[k] := ⟨_, rfl⟩
      rw [← hx] at hg hxw hst
      rw [← hab] at hst
      by_cases hko : x.key = o.key
      · rw [step3, if_pos hko] at hst
        (simp (maxSteps := 2000000) (disch := first | omega | assumption) [i64_in, tnS, Int.toNat_add, Int.toNat_mul, List.getElem?_cons_zero, List.getElem_cons_zero, -List.reduceReplicate, hlt', hg, encTraces_trs, encTrace, hko, encD, encD_inj'])
        (repeat ((with_reducible refine And.intro ?_ ?_); (· first | omega | (show barB _ _ = true; kernel_rfl) | (show rdJ _ _ _ _ _ = true; kernel_rfl) | (show tailB _ _ _ = true; kernel_rfl) | (show sftB _ _ _ = true; kernel_rfl))))
        refine callV_add o ho.1 mo hm1 hm8 B M cs hcs [] (by simp) (er_encTrace o) fun cs1 hc1 ha1 => ?_
        (simp (maxSteps := 2000000) (disch := first | omega | assumption) [i64_in, tnS, Int.toNat_add, Int.toNat_mul, List.getElem?_cons_zero, List.getElem_cons_zero, -List.reduceReplicate])
        refine hN _ (k+1, cs1) ?_ ⟨by simp only; omega, hc1, by simp only; rw [ha1, hst]⟩ (by simp only; omega)
        refine Le.of ?_ ?_ ?_ ?_ ?_ <;> simp [leTV, locsIn, encTraces_trs, encTrace, encD] <;> try omega
      · rw [step3, if_neg hko] at hst
        (simp (maxSteps := 2000000) (disch := first | omega | assumption) [i64_in, tnS, Int.toNat_add, Int.toNat_mul, List.getElem?_cons_zero, List.getElem_cons_zero, -List.reduceReplicate, hlt', hg, encTraces_trs, encTrace, hko, encD, encD_inj'])
        (repeat ((with_reducible refine And.intro ?_ ?_); (· first | omega | (show barB _ _ = true; kernel_rfl) | (show rdJ _ _ _ _ _ = true; kernel_rfl) | (show tailB _ _ _ = true; kernel_rfl) | (show sftB _ _ _ = true; kernel_rfl))))
        refine callV_add x hxw.1 mo hm1 hm8 B M cs hcs [] (by simp) (er_encTrace x) fun cs1 hc1 ha1 => ?_
        (simp (maxSteps := 2000000) (disch := first | omega | assumption) [i64_in, tnS, Int.toNat_add, Int.toNat_mul, List.getElem?_cons_zero, List.getElem_cons_zero, -List.reduceReplicate])
        refine callV_add o ho.1 mo hm1 hm8 B M cs1 hc1 [] (by simp) (er_encTrace o) fun cs2 hc2 ha2 => ?_
        (simp (maxSteps := 2000000) (disch := first | omega | assumption) [i64_in, tnS, Int.toNat_add, Int.toNat_mul, List.getElem?_cons_zero, List.getElem_cons_zero, -List.reduceReplicate])
        refine hN _ (k+1, cs2) ?_ ⟨by simp only; omega, hc2, by simp only; rw [ha2, ha1, hst]⟩ (by simp only; omega)
        refine Le.of ?_ ?_ ?_ ?_ ?_ <;> simp [leTV, locsIn, encTraces_trs, encTrace, encD] <;> try omega
    · have hlt' : ¬ (k : Int) < l.length := by omega
      rw [List.take_of_length_le (by omega)] at hab
      (simp (maxSteps := 2000000) (disch := first | omega | assumption) [i64_in, tnS, Int.toNat_add, Int.toNat_mul, List.getElem?_cons_zero, List.getElem_cons_zero, -List.reduceReplicate, hlt', encTraces_trs])
      refine hE _ _ (by simp) ?_
      clear hN hE hlt hlt' hk
      by_cases hl0 : l.length = 0
      · have hl0' : (l.length : Int) = 0 := by omega
        (simp (maxSteps := 2000000) (disch := first | omega | assumption) [i64_in, tnS, Int.toNat_add, Int.toNat_mul, List.getElem?_cons_zero, List.getElem_cons_zero, -List.reduceReplicate, hl0', hl0, encTraces_trs, Tryd.f3])
      have hl0' : ¬ (l.length : Int) = 0 := by omega
      have hl1 : l.length - 1 < l.length := by omega
      have hgl := trs_get l (l.length - 1) hl1
      have hkk' := hkk (by omega)
      have htn : ((l.length : Int) - 1).toNat = l.length - 1 := by omega
      obtain ⟨y, hy⟩ : ∃ y, y = l[l.length - 1] := ⟨_, rfl⟩
      rw [← hy] at hgl hkk'
      subst hkk'
      by_cases hyo : y.key = o.key
      · (simp (maxSteps := 2000000) (disch := first | omega | assumption) [i64_in, tnS, Int.toNat_add, Int.toNat_mul, List.getElem?_cons_zero, List.getElem_cons_zero, -List.reduceReplicate, hl0', hl0, hgl, htn, encTraces_trs, encTrace, hyo, encD, encD_inj'])
        (repeat ((with_reducible refine And.intro ?_ ?_); (· first | omega | (show barB _ _ = true; kernel_rfl) | (show rdJ _ _ _ _ _ = true; kernel_rfl) | (show tailB _ _ _ = true; kernel_rfl) | (show sftB _ _ _ = true; kernel_rfl))))
        (simp (maxSteps := 2000000) (disch := first | omega | assumption) [i64_in, tnS, Int.toNat_add, Int.toNat_mul, List.getElem?_cons_zero, List.getElem_cons_zero, -List.reduceReplicate, Tryd.f3])
      · (simp (maxSteps := 2000000) (disch := first | omega | assumption) [i64_in, tnS, Int.toNat_add, Int.toNat_mul, List.getElem?_cons_zero, List.getElem_cons_zero, -List.reduceReplicate, hl0', hl0, hgl, htn, encTraces_trs, encTrace, hyo, encD, encD_inj'])
        (repeat ((with_reducible refine And.intro ?_ ?_); (· first | omega | (show barB _ _ = true; kernel_rfl) | (show rdJ _ _ _ _ _ = true; kernel_rfl) | (show tailB _ _ _ = true; kernel_rfl) | (show sftB _ _ _ = true; kernel_rfl))))
        refine callV_of y.key mo B M cs hcs [] (by simp) (er_encD y.key) ?_
        have hlaw : getD (absD cs) y.key = W 0 := by
          obtain ⟨m, rfl⟩ : ∃ m, mo = m + 1 := ⟨mo - 1, by omega⟩
          rw [hab, keeps_law m o y.key hyo, hW]
          simp [wantK]
        rw [hlaw]
        have hok0 : ∀ z ∈ W 0, TrOK z := fun z hz => (hl z (hWm0 z hz)).ok
        (simp (maxSteps := 2000000) (disch := first | omega | assumption) [i64_in, tnS, Int.toNat_add, Int.toNat_mul, List.getElem?_cons_zero, List.getElem_cons_zero, -List.reduceReplicate])
        refine callV_pc (sameTr_ok (W 0) (W 0) hok0 hok0 (by omega) (by omega)) rfl rfl (by simp) (by simp [argLe, TV.er, AV.er, encTraces_trs]) ?_
        (simp (maxSteps := 2000000) (disch := first | omega | assumption) [i64_in, tnS, Int.toNat_add, Int.toNat_mul, List.getElem?_cons_zero, List.getElem_cons_zero, -List.reduceReplicate, Tryd.f3])
end Go.Proofs.YthdgnfnalimcnabDoor
