/- Does a trace hold? The program. No condition beyond each theorem's own. -/
import Derived.Test.YtmkpbigaafemnaaDoorL0
set_option linter.unusedSimpArgs false
set_option linter.unusedVariables false
set_option linter.unusedSectionVars false
set_option maxRecDepth 100000
/-! Does a trace hold? The program. -/
namespace Go.Proofs.YtmkpbigaafemnaaDoor
open Go Go.Ab
open Classical
attribute [local simp] vc_skip vc_label vc_region vc_drawn vc_seq vc_cond vc_block vc_exit vc_goto vc_ret vc_loop vc_scope vcOps_nil vcOps_cons vcPs_nil vcPs_cons vcDs_nil vcDs_cons vcD impB mkd wkOf isCallV rdOK_eq rdO_nil rdO_tmp rdO_const rdO_global rdO_func rdL_nil rdL_cons rdT_av rdT_cst rdT_pel rdT_tup rdT_junk rdT_loc St.app Op.operands Call.operands vcG_eq iteP wkOf isCallV vcOp putK_eq pureV ev co coC asI asB asS isNil nkOf derefV fieldAddrV indexAddrV indexV lowV boundsV sliceV pickV_eq unV convV convB bytesOf capOf lenV minV withSrc slice3V lookupV mapOf mfind mput scalT mapUpdV makeSliceV appendM appendN growM growOK zM binI isConst binV St.put upd KSeq_n KSeq_x KSeq_g KSeq_r KBlock_n KBlock_x KBlock_g KBlock_r KScope_n KScope_x KScope_r KRet_n KRet_r resL retTV TV.er AV.er AV.ers AV.erk AV.erks Tok.k Heap.er_nil Heap.er_cons Heap.er_app HObj.er_var HObj.er_map Heap.keys_nil Heap.keys_cons Heap.keys_app hget hset subT getP setP_nil setP_one setP_two setPo_some storeV buildV buildL partsOf capTV argOK entry St.of lk_nil lk_cons leLoc siterOf_siter gB_undef gB_av gB_cst undef isNE_tmp isSlT nslD nslDs mslOf mstrV copyV copyK unsV ustrV hdel dataV sameP mtbD isSlN slNilV vcDo_nil vcDo_cons isLt sft sftD softV

@[simp] theorem fnok49 : fnOK Tryd.prog 49 = true := by kernel_rfl
@[simp] theorem isne49 : isNE Tryd.prog (.func 49) = false := isNE_func fnok49
@[simp] theorem fnok50 : fnOK Tryd.prog 50 = true := by kernel_rfl
@[simp] theorem isne50 : isNE Tryd.prog (.func 50) = false := isNE_func fnok50
@[simp] theorem fnok24 : fnOK Tryd.prog 24 = true := by kernel_rfl
@[simp] theorem isne24 : isNE Tryd.prog (.func 24) = false := isNE_func fnok24
@[simp] theorem fnok25 : fnOK Tryd.prog 25 = true := by kernel_rfl
@[simp] theorem isne25 : isNE Tryd.prog (.func 25) = false := isNE_func fnok25
def idxOf {α : Type} (p : α → Bool) (xs : List α) : Int := match xs.findIdx? p with | some i => i | none => -1
theorem idxOf_hit {α : Type} {p : α → Bool} {xs : List α} {k : Nat} (hlt : k < xs.length) (h0 : ∀ x ∈ xs.take k, p x = false) (h1 : p xs[k] = true) : idxOf p xs = k := by
  have : xs.findIdx? p = some k := by
    rw [List.findIdx?_eq_some_iff_getElem]
    refine ⟨hlt, h1, fun j hj => ?_⟩
    rw [h0 _ (List.mem_take_iff_getElem.2 ⟨j, by omega, rfl⟩)]; simp
  simp [idxOf, this]
theorem idxOf_miss {α : Type} {p : α → Bool} {xs : List α} (h0 : ∀ x ∈ xs, p x = false) : idxOf p xs = -1 := by
  have : xs.findIdx? p = none := by
    rw [List.findIdx?_eq_none_iff]; exact h0
  simp [idxOf, this]
theorem idxOf_find {α : Type} (p : α → Bool) (xs : List α) : (idxOf p xs = -1 ∧ xs.find? p = none) ∨ ∃ (i : Nat) (h : i < xs.length), idxOf p xs = i ∧ xs.find? p = some xs[i] := by
  unfold idxOf
  cases h : xs.findIdx? p with
  | none =>
    left; rw [List.findIdx?_eq_none_iff] at h
    exact ⟨rfl, List.find?_eq_none.2 fun x hx => by simp [h x hx]⟩
  | some i =>
    right
    rw [List.findIdx?_eq_some_iff_getElem] at h
    obtain ⟨hl, hp, hn⟩ := h
    refine ⟨i, hl, rfl, ?_⟩
    rw [List.find?_eq_some_iff_getElem]
    exact ⟨hp, i, hl, rfl, fun j hj => by simpa using hn j hj⟩
theorem holds1_ok (k r : Read) (b : Nat) : ACalls Tryd.prog 50 [.av (tyOf Tryd.prog 43) (encRead k), .av .ptr (.ptr b (tyOf Tryd.prog 43) [])] [(b, .var (tyOf Tryd.prog 43) (encRead r))]
    fun r' H' => r' = .av .bool (.b (decide (k.path = r.path))) ∧ H' = [(b, .var (tyOf Tryd.prog 43) (encRead r))] := by
  refine ACalls.of_vc laid mixed Tryd.func50 rfl (by kernel_rfl) cf0 (by simp [Tryd.ntmps50]) fun imm0 w0 => ?_
  (simp (maxSteps := 2000000) (disch := first | omega | assumption) [i64_in, tnS, Int.toNat_add, Int.toNat_mul, List.getElem?_cons_zero, List.getElem_cons_zero, encRead, Tryd.f50])
theorem idxFunc_ok (known : List Read) (hk : known.length ≤ 9223372036854775807) (r : Read) (b : Nat) :
    ACalls Tryd.prog 49 [.av (.slice 43) (encReads known), .av .func (.fn 50 [.ptr b (tyOf Tryd.prog 43) []])] [(b, .var (tyOf Tryd.prog 43) (encRead r))]
      fun r' H' => r' = .av (.int .i64) (.i .i64 (idxOf (fun x => decide (x.path = r.path)) known)) ∧ H' = [(b, .var (tyOf Tryd.prog 43) (encRead r))] := by
  refine ACalls.of_vc laid mixed Tryd.func49 rfl (by kernel_rfl) cf0 (by simp [Tryd.ntmps49]) fun imm0 w0 => ?_
  (simp (maxSteps := 2000000) (disch := first | omega | assumption) [i64_in, tnS, Int.toNat_add, Int.toNat_mul, List.getElem?_cons_zero, List.getElem_cons_zero, encReads])
  refine AT.loop' (α := Nat) (fun k => St.of [(0, .av (.slice 43) (.sl .no (known.map encRead))), (1, .av .func (.fn 50 [.ptr b (tyOf Tryd.prog 43) []])), (7, .av (.int .i64) (.i .i64 known.length)), (8, .av (.int .i64) (.i .i64 k))] [] (fun _ => 0) [(b, .var (tyOf Tryd.prog 43) (encRead r))])
    (fun k => k ≤ known.length ∧ ∀ x ∈ known.take k, decide (x.path = r.path) = false) (fun k => known.length - k) 0 ?_ ?_ ?_
  · refine Le.of ?_ ?_ ?_ ?_ ?_ <;> simp [leTV, locsIn, encDigs, encTraces, encWant, encTrace, encReads, encRead, encMades, encMade, lk_nil] <;> try omega
  · simp
  rintro k ⟨hk', hpk⟩ KL hN hE
  refine vc_sound (cf := cf0) laid mixed _ _ _ (by kernel_rfl) ?_
  by_cases hlt : k < known.length
  · have hlt' : (k : Int) < known.length := by omega
    (simp (maxSteps := 2000000) (disch := first | omega | assumption) [i64_in, tnS, Int.toNat_add, Int.toNat_mul, List.getElem?_cons_zero, List.getElem_cons_zero, hlt'])
    refine callV_all (R := fun r' H' => r' = .av .bool (.b (decide (known[k].path = r.path))) ∧ H' = [(b, .var (tyOf Tryd.prog 43) (encRead r))]) rfl (by simp [argOK]) (by simp) ?_ ?_
    · have := holds1_ok known[k] r b
      simpa [TV.er, AV.er, encReads, List.getElem?_eq_getElem hlt, Heap.er_cons, Heap.er_nil, HObj.er] using this
    rintro r' H' ⟨rfl, rfl⟩
    by_cases hp : known[k].path = r.path
    · (simp (maxSteps := 2000000) (disch := first | omega | assumption) [i64_in, tnS, Int.toNat_add, Int.toNat_mul, List.getElem?_cons_zero, List.getElem_cons_zero, hp])
      refine hE _ _ (by simp) ?_
      (simp (maxSteps := 2000000) (disch := first | omega | assumption) [i64_in, tnS, Int.toNat_add, Int.toNat_mul, List.getElem?_cons_zero, List.getElem_cons_zero, Tryd.f49, idxOf_hit hlt hpk (by simpa using hp)])
    · (simp (maxSteps := 2000000) (disch := first | omega | assumption) [i64_in, tnS, Int.toNat_add, Int.toNat_mul, List.getElem?_cons_zero, List.getElem_cons_zero, hp])
      refine hN _ (k+1) ?_ ⟨by omega, by rw [take_succ_all hlt]; exact ⟨hpk, by simpa using hp⟩⟩ (by omega)
      refine Le.of ?_ ?_ ?_ ?_ ?_ <;> simp [leTV, locsIn, encDigs, encTraces, encWant, encTrace, encReads, encRead, encMades, encMade, lk_nil] <;> try omega
  · have hlt' : ¬ (k : Int) < known.length := by omega
    (simp (maxSteps := 2000000) (disch := first | omega | assumption) [i64_in, tnS, Int.toNat_add, Int.toNat_mul, List.getElem?_cons_zero, List.getElem_cons_zero, hlt'])
    refine hE _ _ (by simp) ?_
    rw [List.take_of_length_le (by omega)] at hpk
    (simp (maxSteps := 2000000) (disch := first | omega | assumption) [i64_in, tnS, Int.toNat_add, Int.toNat_mul, List.getElem?_cons_zero, List.getElem_cons_zero, Tryd.f49, idxOf_miss hpk])
/-- does a trace's reads hold by what is known; else which path isn't known -/
def holdsV (known : List Read) : List Read → Bool × List UInt8
  | [] => (true, [])
  | r :: rs => match known.find? (fun x => decide (x.path = r.path)) with
    | none => (false, r.path)
    | some x => if x = r then holdsV known rs else (false, [])
def holdsTV (p : Bool × List UInt8) : TV := .tup [(.bool, .b p.1), (.str, .s p.2)]
abbrev cfHolds : Cfg := ⟨fun k => k == 7, fun _ => false⟩
set_option maxHeartbeats 4000000 in
theorem holds_ok (t : Trace) (known : List Read) (hk : known.length ≤ 9223372036854775807) (ht : t.reads.length ≤ 9223372036854775807) :
    PC Tryd.prog 24 [.av (tyOf Tryd.prog 28) (encTrace t), .av (.slice 43) (encReads known)] (holdsTV (holdsV known t.reads)) := by
  refine PC.of <| ACalls.of_vc laid mixed Tryd.func24 rfl (by kernel_rfl) cfHolds (by simp [Tryd.ntmps24]) fun imm0 w0 => ?_
  (simp (maxSteps := 2000000) (disch := first | omega | assumption) [i64_in, tnS, Int.toNat_add, Int.toNat_mul, List.getElem?_cons_zero, List.getElem_cons_zero, encTrace, encReads])
  refine AT.loop' (α := Nat) (fun k => St.of [(1, .av (.slice 43) (encReads known)), (10, .av (.slice 43) (encReads t.reads)), (11, .av (.int .i64) (.i .i64 t.reads.length)), (12, .av (.int .i64) (.i .i64 k))] [] (fun _ => 0) [])
    (fun k => k ≤ t.reads.length ∧ holdsV known t.reads = holdsV known (t.reads.drop k)) (fun k => t.reads.length - k) 0 ?_ ?_ ?_
  · refine Le.of ?_ ?_ ?_ ?_ ?_ <;> simp [leTV, locsIn, encDigs, encTraces, encWant, encTrace, encReads, encRead, encMades, encMade, encReads] <;> try omega
  · simp
  rintro k ⟨hk', hpk⟩ KL hN hE
  refine vc_sound (cf := cfHolds) laid mixed _ _ _ (by kernel_rfl) ?_
  by_cases hlt : k < t.reads.length
  · have hlt' : (k : Int) < t.reads.length := by omega
    have hdr : t.reads.drop k = t.reads[k] :: t.reads.drop (k+1) := (List.getElem_cons_drop hlt).symm
    obtain ⟨r, hr⟩ : ∃ r, r = t.reads[k] := ⟨_, rfl⟩
    have hg : (t.reads.map encRead)[k]? = some (encRead r) := by rw [List.getElem?_map, List.getElem?_eq_getElem hlt, hr]; rfl
    rw [← hr] at hdr
    (simp (maxSteps := 2000000) (disch := first | omega | assumption) [i64_in, tnS, Int.toNat_add, Int.toNat_mul, List.getElem?_cons_zero, List.getElem_cons_zero, hlt', encReads, hg, ← hr])
    intro b
    have hcall := idxFunc_ok known hk r b
    simp only [ty43] at hcall
    refine callV_all (R := fun r' H' => r' = .av (.int .i64) (.i .i64 (idxOf (fun x => decide (x.path = r.path)) known)) ∧ H' = [(b, .var (.struct [9, 4, 24]) (encRead r))]) rfl (by simp [argOK]) (by simp) ?_ ?_
    · simpa [TV.er, AV.er, AV.ers, AV.ers_eq, encReads, Heap.er_cons, Heap.er_nil, HObj.er, Function.comp_def] using hcall
    rintro r' H' ⟨rfl, rfl⟩
    rcases idxOf_find (fun x : Read => decide (x.path = r.path)) known with ⟨hi, hf⟩ | ⟨i, hil, hi, hf⟩
    · (simp (maxSteps := 2000000) (disch := first | omega | assumption) [i64_in, tnS, Int.toNat_add, Int.toNat_mul, List.getElem?_cons_zero, List.getElem_cons_zero, hi, encRead])
      refine hE _ _ (by simp) ?_
      have : holdsV known t.reads = (false, r.path) := by rw [hpk, hdr]; simp only [holdsV, hf]
      (simp (maxSteps := 2000000) (disch := first | omega | assumption) [i64_in, tnS, Int.toNat_add, Int.toNat_mul, List.getElem?_cons_zero, List.getElem_cons_zero, Tryd.f24, holdsTV, this])
    · have hi0 : ¬ (i : Int) < 0 := by omega
      have hgi : (known.map encRead)[i]? = some (encRead known[i]) := by rw [List.getElem?_map, List.getElem?_eq_getElem hil]; rfl
      have hst : holdsV known t.reads = if known[i] = r then holdsV known (t.reads.drop (k+1)) else (false, []) := by rw [hpk, hdr]; simp only [holdsV, hf]
      have hil' : (i : Int) < known.length := by omega
      by_cases hkr : known[i] = r
      · rw [if_pos hkr] at hst
        (simp (maxSteps := 2000000) (disch := first | omega | assumption) [i64_in, tnS, Int.toNat_add, Int.toNat_mul, List.getElem?_cons_zero, List.getElem_cons_zero, hi, hi0, hgi, hil', hkr, encRead_inj])
        (repeat ((with_reducible refine And.intro ?_ ?_); (· first | omega | (show barB _ _ = true; kernel_rfl) | (show rdJ _ _ _ _ _ = true; kernel_rfl) | (show tailB _ _ _ = true; kernel_rfl) | (show sftB _ _ _ = true; kernel_rfl))))
        refine hN _ (k+1) ?_ ⟨by omega, hst⟩ (by omega)
        refine Le.of ?_ ?_ ?_ ?_ ?_ <;> simp [leTV, locsIn, encDigs, encTraces, encWant, encTrace, encReads, encRead, encMades, encMade, encReads] <;> try omega
      · rw [if_neg hkr] at hst
        (simp (maxSteps := 2000000) (disch := first | omega | assumption) [i64_in, tnS, Int.toNat_add, Int.toNat_mul, List.getElem?_cons_zero, List.getElem_cons_zero, hi, hi0, hgi, hil', hkr, encRead_inj])
        (repeat ((with_reducible refine And.intro ?_ ?_); (· first | omega | (show barB _ _ = true; kernel_rfl) | (show rdJ _ _ _ _ _ = true; kernel_rfl) | (show tailB _ _ _ = true; kernel_rfl) | (show sftB _ _ _ = true; kernel_rfl))))
        refine hE _ _ (by simp) ?_
        (simp (maxSteps := 2000000) (disch := first | omega | assumption) [i64_in, tnS, Int.toNat_add, Int.toNat_mul, List.getElem?_cons_zero, List.getElem_cons_zero, Tryd.f24, holdsTV, hst])
  · have hlt' : ¬ (k : Int) < t.reads.length := by omega
    (simp (maxSteps := 2000000) (disch := first | omega | assumption) [i64_in, tnS, Int.toNat_add, Int.toNat_mul, List.getElem?_cons_zero, List.getElem_cons_zero, hlt'])
    refine hE _ _ (by simp) ?_
    rw [List.drop_of_length_le (by omega)] at hpk
    (simp (maxSteps := 2000000) (disch := first | omega | assumption) [i64_in, tnS, Int.toNat_add, Int.toNat_mul, List.getElem?_cons_zero, List.getElem_cons_zero, Tryd.f24, holdsTV, hpk, holdsV])
def atV (known : List Read) (q : List UInt8) (j : Nat) : Int := match (known.drop j).findIdx? (fun x => decide (x.path = q)) with | some i => (j : Int) + i | none => -1
theorem atV_step {known : List Read} {q : List UInt8} {j : Nat} (h : j < known.length) : atV known q j = if known[j].path = q then (j : Int) else atV known q (j+1) := by
  unfold atV
  rw [← List.getElem_cons_drop h, List.findIdx?_cons]
  by_cases hp : known[j].path = q
  · simp [hp]
  · simp only [hp, decide_false, Bool.false_eq_true, if_false]
    cases (known.drop (j+1)).findIdx? (fun x => decide (x.path = q)) with
    | none => simp
    | some i => simp; omega
theorem atV_zero (known : List Read) (q : List UInt8) : atV known q 0 = idxOf (fun x => decide (x.path = q)) known := by
  unfold atV idxOf
  simp only [List.drop_zero]
  split <;> simp_all
theorem atV_end (known : List Read) (q : List UInt8) : atV known q known.length = -1 := by
  unfold atV
  rw [List.drop_length]; rfl
set_option maxHeartbeats 8000000 in
theorem rholds_ok (t : Trace) (known : List Read) (hk : known.length ≤ 9223372036854775807) (ht : t.reads.length ≤ 9223372036854775807) :
    PC Tryd.prog 25 [.av (tyOf Tryd.prog 28) (encTrace t), .av (.slice 43) (encReads known)] (holdsTV (holdsV known t.reads)) := by
  refine PC.of <| ACalls.of_vc laid mixed Tryd.func25 rfl (by kernel_rfl) cf0 (by simp [Tryd.ntmps25]) fun imm0 w0 => ?_
  (simp (maxSteps := 2000000) (disch := first | omega | assumption) [i64_in, tnS, Int.toNat_add, Int.toNat_mul, List.getElem?_cons_zero, List.getElem_cons_zero])
  refine AT.loop' (α := Nat) (fun k => St.of [(1, .av (.slice 43) (encReads known)), (2, .loc 2 []), (6, .av (.int .i64) (.i .i64 k))] [(2, (tyOf Tryd.prog 28, encTrace t))] (fun _ => 0) [])
    (fun k => k ≤ t.reads.length ∧ holdsV known t.reads = holdsV known (t.reads.drop k)) (fun k => t.reads.length - k) 0 ?_ ?_ ?_
  · refine Le.of ?_ ?_ ?_ ?_ ?_ <;> simp [leTV, locsIn, encDigs, encTraces, encWant, encTrace, encReads, encRead, encMades, encMade, encReads, encTrace] <;> try omega
  · simp
  rintro k ⟨hk', hpk⟩ KL hN hE
  refine vc_sound (cf := cf0) laid mixed _ _ _ (by kernel_rfl) ?_
  by_cases hlt : k < t.reads.length
  · have hlt' : (k : Int) < t.reads.length := by omega
    have hdr : t.reads.drop k = t.reads[k] :: t.reads.drop (k+1) := (List.getElem_cons_drop hlt).symm
    obtain ⟨r, hr⟩ : ∃ r, r = t.reads[k] := ⟨_, rfl⟩
    have hg : (t.reads.map encRead)[k]? = some (encRead r) := by rw [List.getElem?_map, List.getElem?_eq_getElem hlt, hr]; rfl
    rw [← hr] at hdr
    (simp (maxSteps := 2000000) (disch := first | omega | assumption) [i64_in, tnS, Int.toNat_add, Int.toNat_mul, List.getElem?_cons_zero, List.getElem_cons_zero, hlt', encTrace, encReads])
    refine AT.loop' (α := Nat) (fun j => St.of [(1, .av (.slice 43) (encReads known)), (2, .loc 2 []), (6, .av (.int .i64) (.i .i64 k)), (7, .av (.int .i64) (.i .i64 (atV known r.path j))), (8, .av (.int .i64) (.i .i64 ((j : Int) - 1)))] [(2, (tyOf Tryd.prog 28, encTrace t))] (fun _ => 0) [])
      (fun j => j ≤ known.length) (fun j => j) known.length ?_ ?_ ?_
    · refine Le.of ?_ ?_ ?_ ?_ ?_ <;> simp [leTV, locsIn, encDigs, encTraces, encWant, encTrace, encReads, encRead, encMades, encMade, encReads, encTrace, atV_end] <;> try omega
    · omega
    · rintro j hj KL2 hN2 hE2
      refine vc_sound (cf := cf0) laid mixed _ _ _ (by kernel_rfl) ?_
      by_cases hj0 : j = 0
      · subst hj0
        (simp (maxSteps := 2000000) (disch := first | omega | assumption) [i64_in, tnS, Int.toNat_add, Int.toNat_mul, List.getElem?_cons_zero, List.getElem_cons_zero, encTrace, encReads])
        refine hE2 _ _ (by simp) ?_
        (simp (maxSteps := 2000000) (disch := first | omega | assumption) [i64_in, tnS, Int.toNat_add, Int.toNat_mul, List.getElem?_cons_zero, List.getElem_cons_zero, encTrace, encReads, hlt', hg, atV_zero])
        rcases idxOf_find (fun x : Read => decide (x.path = r.path)) known with ⟨hi, hf⟩ | ⟨i, hil, hi, hf⟩
        · (simp (maxSteps := 2000000) (disch := first | omega | assumption) [i64_in, tnS, Int.toNat_add, Int.toNat_mul, List.getElem?_cons_zero, List.getElem_cons_zero, hi, encRead, hlt', hg])
          (repeat ((with_reducible refine And.intro ?_ ?_); (· first | omega | (show barB _ _ = true; kernel_rfl) | (show rdJ _ _ _ _ _ = true; kernel_rfl) | (show tailB _ _ _ = true; kernel_rfl) | (show sftB _ _ _ = true; kernel_rfl))))
          refine hE _ _ (by simp) ?_
          have : holdsV known t.reads = (false, r.path) := by rw [hpk, hdr]; simp only [holdsV, hf]
          (simp (maxSteps := 2000000) (disch := first | omega | assumption) [i64_in, tnS, Int.toNat_add, Int.toNat_mul, List.getElem?_cons_zero, List.getElem_cons_zero, Tryd.f25, holdsTV, this])
        · have hi0 : ¬ (i : Int) < 0 := by omega
          have hgi : (known.map encRead)[i]? = some (encRead known[i]) := by rw [List.getElem?_map, List.getElem?_eq_getElem hil]; rfl
          have hst : holdsV known t.reads = if known[i] = r then holdsV known (t.reads.drop (k+1)) else (false, []) := by rw [hpk, hdr]; simp only [holdsV, hf]
          have hil' : (i : Int) < known.length := by omega
          by_cases hkr : known[i] = r
          · rw [if_pos hkr] at hst
            (simp (maxSteps := 2000000) (disch := first | omega | assumption) [i64_in, tnS, Int.toNat_add, Int.toNat_mul, List.getElem?_cons_zero, List.getElem_cons_zero, hi, hi0, hgi, hil', hkr, hg, hlt', encRead_inj])
            (repeat ((with_reducible refine And.intro ?_ ?_); (· first | omega | (show barB _ _ = true; kernel_rfl) | (show rdJ _ _ _ _ _ = true; kernel_rfl) | (show tailB _ _ _ = true; kernel_rfl) | (show sftB _ _ _ = true; kernel_rfl))))
            refine hN _ (k+1) ?_ ⟨by omega, hst⟩ (by omega)
            refine Le.of ?_ ?_ ?_ ?_ ?_ <;> simp [leTV, locsIn, encDigs, encTraces, encWant, encTrace, encReads, encRead, encMades, encMade, encReads, encTrace] <;> try omega
          · rw [if_neg hkr] at hst
            (simp (maxSteps := 2000000) (disch := first | omega | assumption) [i64_in, tnS, Int.toNat_add, Int.toNat_mul, List.getElem?_cons_zero, List.getElem_cons_zero, hi, hi0, hgi, hil', hkr, hg, hlt', encRead_inj])
            (repeat ((with_reducible refine And.intro ?_ ?_); (· first | omega | (show barB _ _ = true; kernel_rfl) | (show rdJ _ _ _ _ _ = true; kernel_rfl) | (show tailB _ _ _ = true; kernel_rfl) | (show sftB _ _ _ = true; kernel_rfl))))
            refine hE _ _ (by simp) ?_
            (simp (maxSteps := 2000000) (disch := first | omega | assumption) [i64_in, tnS, Int.toNat_add, Int.toNat_mul, List.getElem?_cons_zero, List.getElem_cons_zero, Tryd.f25, holdsTV, hst])
      · obtain ⟨i, rfl⟩ : ∃ i, j = i + 1 := ⟨j - 1, by omega⟩
        have hil : i < known.length := by omega
        have hil' : (i : Int) < known.length := by omega
        have hge : (0 : Int) ≤ i := by omega
        have hgi : (known.map encRead)[i]? = some (encRead known[i]) := by rw [List.getElem?_map, List.getElem?_eq_getElem hil]; rfl
        have hst := atV_step (q := r.path) hil
        by_cases hp : known[i].path = r.path
        · rw [if_pos hp] at hst
          (simp (maxSteps := 2000000) (disch := first | omega | assumption) [i64_in, tnS, Int.toNat_add, Int.toNat_mul, List.getElem?_cons_zero, List.getElem_cons_zero, encTrace, encReads, encRead, hil', hge, hgi, hg, hlt', hp])
          (repeat ((with_reducible refine And.intro ?_ ?_); (· first | omega | (show barB _ _ = true; kernel_rfl) | (show rdJ _ _ _ _ _ = true; kernel_rfl) | (show tailB _ _ _ = true; kernel_rfl) | (show sftB _ _ _ = true; kernel_rfl))))
          refine hN2 _ i ?_ (by omega) (by omega)
          refine Le.of ?_ ?_ ?_ ?_ ?_ <;> simp [leTV, locsIn, encDigs, encTraces, encWant, encTrace, encReads, encRead, encMades, encMade, encReads, encTrace, hst] <;> try omega
        · rw [if_neg hp] at hst
          (simp (maxSteps := 2000000) (disch := first | omega | assumption) [i64_in, tnS, Int.toNat_add, Int.toNat_mul, List.getElem?_cons_zero, List.getElem_cons_zero, encTrace, encReads, encRead, hil', hge, hgi, hg, hlt', hp])
          (repeat ((with_reducible refine And.intro ?_ ?_); (· first | omega | (show barB _ _ = true; kernel_rfl) | (show rdJ _ _ _ _ _ = true; kernel_rfl) | (show tailB _ _ _ = true; kernel_rfl) | (show sftB _ _ _ = true; kernel_rfl))))
          refine hN2 _ i ?_ (by omega) (by omega)
          refine Le.of ?_ ?_ ?_ ?_ ?_ <;> simp [leTV, locsIn, encDigs, encTraces, encWant, encTrace, encReads, encRead, encMades, encMade, encReads, encTrace, hst] <;> try omega
  · have hlt' : ¬ (k : Int) < t.reads.length := by omega
    (simp (maxSteps := 2000000) (disch := first | omega | assumption) [i64_in, tnS, Int.toNat_add, Int.toNat_mul, List.getElem?_cons_zero, List.getElem_cons_zero, hlt', encTrace, encReads])
    refine hE _ _ (by simp) ?_
    rw [List.drop_of_length_le (by omega)] at hpk
    (simp (maxSteps := 2000000) (disch := first | omega | assumption) [i64_in, tnS, Int.toNat_add, Int.toNat_mul, List.getElem?_cons_zero, List.getElem_cons_zero, Tryd.f25, holdsTV, hpk, holdsV])
end Go.Proofs.YtmkpbigaafemnaaDoor
