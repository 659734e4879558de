/- A row's text, a digest's bytes: the document. No condition beyond each theorem's own. -/
import Derived.Test.YtmkpbigaafemnaaDoorP43
import Derived.Test.YtmkpbigaafemnaaDoorP20
import Derived.Test.YtmkpbigaafemnaaDoorP25
import Derived.Test.YtmkpbigaafemnaaDoorP17
import Derived.Test.YtmkpbigaafemnaaDoorP51
set_option linter.unusedSimpArgs false
set_option linter.unusedVariables false
set_option linter.unusedSectionVars false
section
set_option maxRecDepth 100000
/-! A row's text, a digest's bytes: the document. -/
namespace Go.Proofs.YtmkpbigaafemnaaDoor
open Go Go.Ab
open Classical
attribute [local simp] vc_skip vc_label vc_region vc_drawn vc_seq vc_cond vc_block vc_exit vc_goto vc_ret vc_loop vc_scope vcOps_nil vcOps_cons vcPs_nil vcPs_cons vcDs_nil vcDs_cons vcD impB mkd wkOf isCallV rdOK_eq rdO_nil rdO_tmp rdO_const rdO_global rdO_func rdL_nil rdL_cons rdT_av rdT_cst rdT_pel rdT_tup rdT_junk rdT_loc St.app Op.operands Call.operands vcG_eq iteP wkOf isCallV vcOp putK_eq pureV ev co coC asI asB asS isNil nkOf derefV fieldAddrV indexAddrV indexV lowV boundsV sliceV pickV_eq unV convV convB bytesOf capOf lenV minV withSrc slice3V lookupV mapOf mfind mput scalT mapUpdV makeSliceV appendM appendN growM growOK zM binI isConst binV St.put upd KSeq_n KSeq_x KSeq_g KSeq_r KBlock_n KBlock_x KBlock_g KBlock_r KScope_n KScope_x KScope_r KRet_n KRet_r resL retTV TV.er AV.er AV.ers AV.erk AV.erks Tok.k Heap.er_nil Heap.er_cons Heap.er_app HObj.er_var HObj.er_map Heap.keys_nil Heap.keys_cons Heap.keys_app hget hset subT getP setP_nil setP_one setP_two setPo_some storeV buildV buildL partsOf capTV argOK entry St.of lk_nil lk_cons leLoc siterOf_siter gB_undef gB_av gB_cst undef isNE_tmp isSlT nslD nslDs mslOf mstrV copyV copyK unsV ustrV hdel dataV sameP mtbD isSlN slNilV vcDo_nil vcDo_cons isLt sft sftD softV

@[simp] theorem fnok69 : fnOK Tryd.prog 69 = true := by kernel_rfl
@[simp] theorem isne69 : isNE Tryd.prog (.func 69) = false := isNE_func fnok69
@[simp] theorem fnok93 : fnOK Tryd.prog 93 = true := by kernel_rfl
@[simp] theorem isne93 : isNE Tryd.prog (.func 93) = false := isNE_func fnok93
@[simp] theorem fnok71 : fnOK Tryd.prog 71 = true := by kernel_rfl
@[simp] theorem isne71 : isNE Tryd.prog (.func 71) = false := isNE_func fnok71
def tkW (d : Nat) : Nat → Tok
  | 0 => .full
  | k+1 => .own d (k+1)
set_option maxHeartbeats 4000000 in
theorem raw_ok (d : Dig) (hd : d.length = 32) : PC Tryd.prog 69 [.av (tyOf Tryd.prog 24) (encD d)] (.av .str (.s d)) := by
  refine PC.of <| ACalls.of_vc laid mixed Tryd.func69 rfl (by kernel_rfl) cf0 (by simp [Tryd.ntmps69]) fun imm0 w0 => ?_
  (simp (maxSteps := 2000000) (disch := first | omega | assumption) [i64_in, tnS, Int.toNat_add, Int.toNat_mul, List.getElem?_cons_zero, List.getElem_cons_zero])
  refine AT.loop' (α := Nat) (fun k => St.of [(1, .loc 1 []), (3, .av (.slice 5) (.sl (tkW 14 k) ((bys d).take k))), (4, .av (.int .i64) (.i .i64 k))] [(1, (tyOf Tryd.prog 24, encD d))] (fun j => if j = 14 then k else 0) [])
    (fun k => k ≤ 32) (fun k => 32 - k) 0 ?_ ?_ ?_
  · refine Le.of ?_ ?_ ?_ ?_ ?_ <;> simp [leTV, locsIn, encDigs, encTraces, encWant, encTrace, encReads, encRead, encMades, encMade, tkW] <;> try omega
  · simp
  rintro k hk KL hN hE
  refine vc_sound (cf := cf0) laid mixed _ _ _ (by kernel_rfl) ?_
  by_cases hlt : k < 32
  · have hkd : k < d.length := by omega
    have hbl : (bys d).length = 32 := by simp [hd]
    have hst : (bys d).take (k+1) = (bys d).take k ++ [.i .u8 d[k].toNat] := by
      rw [List.take_succ_eq_append_getElem (by omega)]
      simp [bys]
    have hgk : (bys d)[k]? = some (.i .u8 d[k].toNat) := by simp [bys, hkd]
    have hg2 : (bys d)[k]'(by omega) = .i .u8 d[k].toNat := by simp [bys]
    have htl : ((bys d).take k).length = k := by rw [List.length_take]; omega
    cases k with
    | zero =>
      (simp (maxSteps := 2000000) (disch := first | omega | assumption) [i64_in, tnS, Int.toNat_add, Int.toNat_mul, List.getElem?_cons_zero, List.getElem_cons_zero, encD_bys, hgk, hg2, hbl, tkW])
      (simp (maxSteps := 2000000) (disch := first | omega | assumption) [i64_in, tnS, Int.toNat_add, Int.toNat_mul, List.getElem?_cons_zero, List.getElem_cons_zero, appendV])
      refine hN _ 1 ?_ (by omega) (by omega)
      refine Le.of ?_ ?_ ?_ ?_ ?_ <;> simp [leTV, locsIn, encDigs, encTraces, encWant, encTrace, encReads, encRead, encMades, encMade, tkW, hst, encD_bys] <;> try omega
    | succ k =>
      have hlt' : (k : Int) + 1 < 32 := by omega
      have hge : (0 : Int) ≤ (k : Int) + 1 := by omega
      (simp (maxSteps := 2000000) (disch := first | omega | assumption) [i64_in, tnS, Int.toNat_add, Int.toNat_mul, List.getElem?_cons_zero, List.getElem_cons_zero, hlt', hlt, encD_bys, hgk, hg2, hbl, tkW])
      refine ⟨by omega, ?_⟩
      (simp (maxSteps := 2000000) (disch := first | omega | assumption) [i64_in, tnS, Int.toNat_add, Int.toNat_mul, List.getElem?_cons_zero, List.getElem_cons_zero, appendV, htl])
      (repeat ((with_reducible refine And.intro ?_ ?_); (· first | omega | (show barB _ _ = true; kernel_rfl) | (show rdJ _ _ _ _ _ = true; kernel_rfl) | (show tailB _ _ _ = true; kernel_rfl) | (show sftB _ _ _ = true; kernel_rfl))))
      refine hN _ (k+2) ?_ (by omega) (by omega)
      refine Le.of ?_ ?_ ?_ ?_ ?_ <;> simp [leTV, locsIn, encDigs, encTraces, encWant, encTrace, encReads, encRead, encMades, encMade, tkW, hst, encD_bys] <;> try omega
      all_goals (intro j; by_cases hj : j = 14 <;> simp [hj])
  have hk32 : k = 32 := by omega
  subst hk32
  (simp (maxSteps := 2000000) (disch := first | omega | assumption) [i64_in, tnS, Int.toNat_add, Int.toNat_mul, List.getElem?_cons_zero, List.getElem_cons_zero])
  refine hE _ _ (by simp) ?_
  have h1 : (bys d).take 32 = bys d := List.take_of_length_le (by simp [hd])
  have h2 := bytesOf_bys d
  (simp (maxSteps := 2000000) (disch := first | omega | assumption) [i64_in, tnS, Int.toNat_add, Int.toNat_mul, List.getElem?_cons_zero, List.getElem_cons_zero, h1, h2, Tryd.f69])
set_option maxHeartbeats 4000000 in
theorem rdigits0_ok (n : Nat) (h : n < 10) : PC Tryd.prog 93 [.av (.int .i64) (.i .i64 n)] (.av .str (.s (Lib.decDigits n))) := by
  refine PC.of <| ACalls.of_vc laid mixed Tryd.func93 rfl (by kernel_rfl) cf0 (by simp [Tryd.ntmps93]) fun imm0 w0 => ?_
  have hn : (n : Int) < 10 := by omega
  have e : Lib.decDigits n = [UInt8.ofNat (48 + n)] := by rw [Lib.decDigits, dif_pos h]
  have hw : IntKind.u8.wrap (48 + (n : Int)) = 48 + n := by
    simp only [IntKind.wrap, IntKind.signed, IntKind.bits]; simp; omega
  have ht : (48 + (n : Int)).toNat = 48 + n := by omega
  (simp (maxSteps := 2000000) (disch := first | omega | assumption) [i64_in, tnS, Int.toNat_add, Int.toNat_mul, List.getElem?_cons_zero, List.getElem_cons_zero, hn, hw, ht, Tryd.f93, e])
set_option maxHeartbeats 4000000 in
theorem rdigits_ok : ∀ (m n : Nat), n ≤ m → n ≤ 9223372036854775807 → PC Tryd.prog 93 [.av (.int .i64) (.i .i64 n)] (.av .str (.s (Lib.decDigits n))) := by
  intro m
  induction m using Nat.strongRecOn with
  | ind m ih =>
  intro n hm h1
  by_cases h : n < 10
  · exact rdigits0_ok n h
  refine PC.of <| ACalls.of_vc laid mixed Tryd.func93 rfl (by kernel_rfl) cf0 (by simp [Tryd.ntmps93]) fun imm0 w0 => ?_
  have hn : ¬ (n : Int) < 10 := by omega
  have hd : (n : Int).tdiv 10 = ((n / 10 : Nat) : Int) := by rw [Int.tdiv_eq_ediv_of_nonneg (by omega)]; rfl
  have ht : (n : Int).tmod 10 = ((n % 10 : Nat) : Int) := by rw [Int.tmod_eq_emod_of_nonneg (by omega)]; rfl
  have e : Lib.decDigits (n / 10) ++ Lib.decDigits (n % 10) = Lib.decDigits n := by
    rw [Lib.decDigits.eq_1 n, dif_neg h, Lib.decDigits.eq_1 (n % 10), dif_pos (by omega)]
  have hl1 := decDigits_le (n / 10)
  have hl2 := decDigits_le (n % 10)
  obtain ⟨a, ha⟩ : ∃ a, a = n / 10 := ⟨_, rfl⟩
  obtain ⟨c, hc⟩ : ∃ c, c = n % 10 := ⟨_, rfl⟩
  rw [← ha] at hd e hl1
  rw [← hc] at ht e hl2
  (simp (maxSteps := 2000000) (disch := first | omega | assumption) [i64_in, tnS, Int.toNat_add, Int.toNat_mul, List.getElem?_cons_zero, List.getElem_cons_zero, hn, hd, ht])
  refine callV_pc (ih a (by omega) a (Nat.le_refl _) (by omega)) rfl rfl (by simp) (by simp [argLe, TV.er, AV.er]) ?_
  (simp (maxSteps := 2000000) (disch := first | omega | assumption) [i64_in, tnS, Int.toNat_add, Int.toNat_mul, List.getElem?_cons_zero, List.getElem_cons_zero, ht])
  refine callV_pc (rdigits0_ok c (by omega)) rfl rfl (by simp) (by simp [argLe, TV.er, AV.er]) ?_
  (simp (maxSteps := 2000000) (disch := first | omega | assumption) [i64_in, tnS, Int.toNat_add, Int.toNat_mul, List.getElem?_cons_zero, List.getElem_cons_zero, e, Tryd.f93])
  omega
set_option maxHeartbeats 4000000 in
theorem rrow_ok (l : List (List UInt8)) (hn : l.length ≤ 9223372036854775807) (hl : (rowV l).length ≤ 10000000000) : PC Tryd.prog 71 [.av (.slice 9) (.sl .no (strs' l))] (.av .str (.s (rowV l))) := by
  refine PC.of <| ACalls.of_vc laid mixed Tryd.func71 rfl (by kernel_rfl) cf0 (by simp [Tryd.ntmps71]) fun imm0 w0 => ?_
  (simp (maxSteps := 2000000) (disch := first | omega | assumption) [i64_in, tnS, Int.toNat_add, Int.toNat_mul, List.getElem?_cons_zero, List.getElem_cons_zero])
  refine AT.loop' (α := Nat) (fun k => St.of [(3, .av .str (.s (rowV (l.take k)))), (6, .av (.slice 9) (.sl .no (strs' l))), (7, .av (.int .i64) (.i .i64 l.length)), (8, .av (.int .i64) (.i .i64 k))] [] (fun _ => 0) [])
    (fun k => k ≤ l.length) (fun k => l.length - k) 0 ?_ ?_ ?_
  · refine Le.of ?_ ?_ ?_ ?_ ?_ <;> simp [leTV, locsIn, encDigs, encTraces, encWant, encTrace, encReads, encRead, encMades, encMade, rowV] <;> try omega
  · simp
  rintro k hk KL hN hE
  refine vc_sound (cf := cf0) laid mixed _ _ _ (by kernel_rfl) ?_
  by_cases hlt : k < l.length
  · have hlt' : (k : Int) < l.length := by omega
    have hg := strs'_get l k hlt
    have hst : rowV (l.take (k+1)) = rowV (l.take k) ++ (Lib.decDigits l[k].length ++ 58 :: l[k]) := by
      rw [List.take_succ_eq_append_getElem hlt, rowV_app]
      simp [rowV, itoa_nat]
    have hle := rowV_take_le l (k+1)
    rw [hst] at hle
    simp only [List.length_append, List.length_cons] at hle
    obtain ⟨x, hx⟩ : ∃ x, l[k] = x := ⟨_, rfl⟩
    rw [hx] at hg hst hle
    (simp (maxSteps := 2000000) (disch := first | omega | assumption) [i64_in, tnS, Int.toNat_add, Int.toNat_mul, List.getElem?_cons_zero, List.getElem_cons_zero, hlt', hlt, hg])
    refine callV_pc (rdigits_ok x.length x.length (Nat.le_refl _) (by omega)) rfl rfl (by simp) (by simp [argLe, TV.er, AV.er]) ?_
    (simp (maxSteps := 2000000) (disch := first | omega | assumption) [i64_in, tnS, Int.toNat_add, Int.toNat_mul, List.getElem?_cons_zero, List.getElem_cons_zero])
    refine ⟨by omega, by omega, by omega, ?_⟩
    refine hN _ (k+1) ?_ (by omega) (by omega)
    refine Le.of ?_ ?_ ?_ ?_ ?_ <;> simp [leTV, locsIn, encDigs, encTraces, encWant, encTrace, encReads, encRead, encMades, encMade, hst] <;> try omega
  have hkn : k = l.length := by omega
  have hlt' : ¬ (k : Int) < l.length := by omega
  (simp (maxSteps := 2000000) (disch := first | omega | assumption) [i64_in, tnS, Int.toNat_add, Int.toNat_mul, List.getElem?_cons_zero, List.getElem_cons_zero, hlt'])
  refine hE _ _ (by simp) ?_
  have h1 : l.take k = l := List.take_of_length_le (by omega)
  (simp (maxSteps := 2000000) (disch := first | omega | assumption) [i64_in, tnS, Int.toNat_add, Int.toNat_mul, List.getElem?_cons_zero, List.getElem_cons_zero, h1, Tryd.f71])
end Go.Proofs.YtmkpbigaafemnaaDoor
end
section
set_option maxRecDepth 100000
/-! A trace's bytes: the document. -/
namespace Go.Proofs.YtmkpbigaafemnaaDoor
open Go Go.Ab
open Classical
attribute [local simp] vc_skip vc_label vc_region vc_drawn vc_seq vc_cond vc_block vc_exit vc_goto vc_ret vc_loop vc_scope vcOps_nil vcOps_cons vcPs_nil vcPs_cons vcDs_nil vcDs_cons vcD impB mkd wkOf isCallV rdOK_eq rdO_nil rdO_tmp rdO_const rdO_global rdO_func rdL_nil rdL_cons rdT_av rdT_cst rdT_pel rdT_tup rdT_junk rdT_loc St.app Op.operands Call.operands vcG_eq iteP wkOf isCallV vcOp putK_eq pureV ev co coC asI asB asS isNil nkOf derefV fieldAddrV indexAddrV indexV lowV boundsV sliceV pickV_eq unV convV convB bytesOf capOf lenV minV withSrc slice3V lookupV mapOf mfind mput scalT mapUpdV makeSliceV appendM appendN growM growOK zM binI isConst binV St.put upd KSeq_n KSeq_x KSeq_g KSeq_r KBlock_n KBlock_x KBlock_g KBlock_r KScope_n KScope_x KScope_r KRet_n KRet_r resL retTV TV.er AV.er AV.ers AV.erk AV.erks Tok.k Heap.er_nil Heap.er_cons Heap.er_app HObj.er_var HObj.er_map Heap.keys_nil Heap.keys_cons Heap.keys_app hget hset subT getP setP_nil setP_one setP_two setPo_some storeV buildV buildL partsOf capTV argOK entry St.of lk_nil lk_cons leLoc siterOf_siter gB_undef gB_av gB_cst undef isNE_tmp isSlT nslD nslDs mslOf mstrV copyV copyK unsV ustrV hdel dataV sameP mtbD isSlN slNilV vcDo_nil vcDo_cons isLt sft sftD softV

@[simp] theorem fnok39 : fnOK Tryd.prog 39 = true := by kernel_rfl
@[simp] theorem isne39 : isNE Tryd.prog (.func 39) = false := isNE_func fnok39
def tkX (m : Nat) : Nat → Tok
  | 0 => tkW 51 m
  | k+1 => .own 74 (k+1)
set_option maxHeartbeats 16000000 in
theorem rbytes_ok (t : Trace) (ht : TrP t) (hd : TrD t) (hr2 : ∀ r ∈ t.reads, r.path.length ≤ 1000000000) (ho2 : ∀ r ∈ t.outs, r.path.length ≤ 1000000000) (hb : checkV t = 0 → (rowV (bytesL t)).length ≤ 10000000000) :
    PC Tryd.prog 39 [.av (tyOf Tryd.prog 28) (encTrace t)] (bytesTV t) := by
  refine PC.of <| ACalls.of_vc laid mixed Tryd.func39 rfl (by kernel_rfl) cf0 (by simp [Tryd.ntmps39]) fun imm0 w0 => ?_
  (simp (maxSteps := 2000000) (disch := first | omega | assumption) [i64_in, tnS, Int.toNat_add, Int.toNat_mul, List.getElem?_cons_zero, List.getElem_cons_zero, encTrace])
  refine callV_pc (rcheck_ok t ht hr2 ho2) rfl rfl (by simp) (by simp [argLe, TV.er, AV.er, AV.ers, encTrace]) ?_
  by_cases hc : checkV t = 0
  rotate_left
  · (simp (maxSteps := 2000000) (disch := first | omega | assumption) [i64_in, tnS, Int.toNat_add, Int.toNat_mul, List.getElem?_cons_zero, List.getElem_cons_zero, hc, Tryd.f39, bytesTV])
  obtain ⟨hrl, hol⟩ := checkV_len hc
  obtain ⟨hd1, hd2, hd3⟩ := hd
  have hbl := hb hc
  (simp (maxSteps := 2000000) (disch := first | omega | assumption) [i64_in, tnS, Int.toNat_add, Int.toNat_mul, List.getElem?_cons_zero, List.getElem_cons_zero, hc])
  (repeat ((with_reducible refine And.intro ?_ ?_); (· first | omega | (show barB _ _ = true; kernel_rfl) | (show rdJ _ _ _ _ _ = true; kernel_rfl) | (show tailB _ _ _ = true; kernel_rfl) | (show sftB _ _ _ = true; kernel_rfl))))
  refine callD_pc (raw_ok t.key hd1) rfl rfl (by simp) (by simp [argLe, TV.er]) ?_
  (simp (maxSteps := 2000000) (disch := first | omega | assumption) [i64_in, tnS, Int.toNat_add, Int.toNat_mul, List.getElem?_cons_zero, List.getElem_cons_zero, encReads])
  (repeat ((with_reducible refine And.intro ?_ ?_); (· first | omega | (show barB _ _ = true; kernel_rfl) | (show rdJ _ _ _ _ _ = true; kernel_rfl) | (show tailB _ _ _ = true; kernel_rfl) | (show sftB _ _ _ = true; kernel_rfl))))
  refine callD_pc (rnum_ok t.reads.length t.reads.length (by omega) (by omega) (by omega)) rfl rfl (by simp) (by simp [argLe, TV.er, AV.er]) ?_
  (simp (maxSteps := 2000000) (disch := first | omega | assumption) [i64_in, tnS, Int.toNat_add, Int.toNat_mul, List.getElem?_cons_zero, List.getElem_cons_zero])
  (repeat ((with_reducible refine And.intro ?_ ?_); (· first | omega | (show barB _ _ = true; kernel_rfl) | (show rdJ _ _ _ _ _ = true; kernel_rfl) | (show tailB _ _ _ = true; kernel_rfl) | (show sftB _ _ _ = true; kernel_rfl))))
  refine AT.loop' (α := Nat) (fun k => St.of [(1, .loc 1 []), (3, .cst (.int .i64 0)), (5, .av (.slice 9) (.sl (tkW 51 k) (strs' (t.key :: Lib.itoa t.reads.length :: (t.reads.take k).flatMap readT)))), (6, .av (.int .i64) (.i .i64 k))] [(1, (tyOf Tryd.prog 28, encTrace t))] (fun j => if j = 51 then k else 0) [])
    (fun k => k ≤ t.reads.length) (fun k => t.reads.length - k) 0 ?_ ?_ ?_
  · refine Le.of ?_ ?_ ?_ ?_ ?_ <;> simp [leTV, locsIn, encDigs, encTraces, encWant, encTrace, encReads, encRead, encMades, encMade, encTrace, encReads, strs', tkW] <;> try omega
  · simp
  rintro k hk KL hN hE
  obtain ⟨W, hW⟩ : ∃ W, t.key :: Lib.itoa t.reads.length :: (t.reads.take k).flatMap readT = W := ⟨_, rfl⟩
  have hWl : W.length = 2 + 2 * k := by
    rw [← hW]; simp only [List.length_cons, reads_len, List.length_take]; omega
  rw [hW]
  refine vc_sound (cf := cf0) laid mixed _ _ _ (by kernel_rfl) ?_
  by_cases hlt : k < t.reads.length
  · have hlt' : (k : Int) < t.reads.length := by omega
    have hg := map_get encRead t.reads k hlt
    have hds := hd2 t.reads[k] (List.getElem_mem _)
    have htk : (t.reads.take (k+1)).flatMap readT = (t.reads.take k).flatMap readT ++ readT t.reads[k] := by
      rw [List.take_succ_eq_append_getElem hlt, List.flatMap_append]; simp
    obtain ⟨r, hr⟩ : ∃ r, r = t.reads[k] := ⟨_, rfl⟩
    rw [← hr] at hg hds htk
    have hnew : strs' (t.key :: Lib.itoa t.reads.length :: (t.reads.take (k+1)).flatMap readT) = strs' W ++ [.s r.path, .s (if r.is then r.sum else [])] := by
      rw [htk, ← List.cons_append, ← List.cons_append, hW, strs'_app]; rfl
    cases k with
    | zero =>
      have hlt0 : (0 : Int) < t.reads.length := by omega
      cases his : r.is
      · simp only [his, Bool.false_eq_true, if_false] at hnew
        (simp (maxSteps := 2000000) (disch := first | omega | assumption) [i64_in, tnS, Int.toNat_add, Int.toNat_mul, List.getElem?_cons_zero, List.getElem_cons_zero, hlt0, hlt, hg, encTrace, encReads, encRead, his, tkW])
        (simp (maxSteps := 2000000) (disch := first | omega | assumption) [i64_in, tnS, Int.toNat_add, Int.toNat_mul, List.getElem?_cons_zero, List.getElem_cons_zero, appendV, hWl])
        (repeat ((with_reducible refine And.intro ?_ ?_); (· first | omega | (show barB _ _ = true; kernel_rfl) | (show rdJ _ _ _ _ _ = true; kernel_rfl) | (show tailB _ _ _ = true; kernel_rfl) | (show sftB _ _ _ = true; kernel_rfl))))
        refine hN _ 1 ?_ (by omega) (by omega)
        refine Le.of ?_ ?_ ?_ ?_ ?_ <;> simp [leTV, locsIn, encDigs, encTraces, encWant, encTrace, encReads, encRead, encMades, encMade, encTrace, encReads, tkW, hnew] <;> try omega
      · simp only [his, if_true] at hnew
        (simp (maxSteps := 2000000) (disch := first | omega | assumption) [i64_in, tnS, Int.toNat_add, Int.toNat_mul, List.getElem?_cons_zero, List.getElem_cons_zero, hlt0, hlt, hg, encTrace, encReads, encRead, his, tkW])
        (repeat ((with_reducible refine And.intro ?_ ?_); (· first | omega | (show barB _ _ = true; kernel_rfl) | (show rdJ _ _ _ _ _ = true; kernel_rfl) | (show tailB _ _ _ = true; kernel_rfl) | (show sftB _ _ _ = true; kernel_rfl))))
        refine callV_pc (raw_ok r.sum hds) rfl rfl (by simp) (by simp [argLe, TV.er]) ?_
        (simp (maxSteps := 2000000) (disch := first | omega | assumption) [i64_in, tnS, Int.toNat_add, Int.toNat_mul, List.getElem?_cons_zero, List.getElem_cons_zero, hlt0, hlt, hg, encTrace, encReads, encRead, tkW])
        (simp (maxSteps := 2000000) (disch := first | omega | assumption) [i64_in, tnS, Int.toNat_add, Int.toNat_mul, List.getElem?_cons_zero, List.getElem_cons_zero, appendV, hWl])
        (repeat ((with_reducible refine And.intro ?_ ?_); (· first | omega | (show barB _ _ = true; kernel_rfl) | (show rdJ _ _ _ _ _ = true; kernel_rfl) | (show tailB _ _ _ = true; kernel_rfl) | (show sftB _ _ _ = true; kernel_rfl))))
        refine hN _ 1 ?_ (by omega) (by omega)
        refine Le.of ?_ ?_ ?_ ?_ ?_ <;> simp [leTV, locsIn, encDigs, encTraces, encWant, encTrace, encReads, encRead, encMades, encMade, encTrace, encReads, tkW, hnew] <;> try omega
    | succ k =>
      have hlt' : (k : Int) + 1 < t.reads.length := by omega
      have hge : (0 : Int) ≤ (k : Int) + 1 := by omega
      cases his : r.is
      · simp only [his, Bool.false_eq_true, if_false] at hnew
        (simp (maxSteps := 2000000) (disch := first | omega | assumption) [i64_in, tnS, Int.toNat_add, Int.toNat_mul, List.getElem?_cons_zero, List.getElem_cons_zero, hlt', hlt, hg, encTrace, encReads, encRead, his, tkW])
        (repeat ((with_reducible refine And.intro ?_ ?_); (· first | omega | (show barB _ _ = true; kernel_rfl) | (show rdJ _ _ _ _ _ = true; kernel_rfl) | (show tailB _ _ _ = true; kernel_rfl) | (show sftB _ _ _ = true; kernel_rfl))))
        (simp (maxSteps := 2000000) (disch := first | omega | assumption) [i64_in, tnS, Int.toNat_add, Int.toNat_mul, List.getElem?_cons_zero, List.getElem_cons_zero, appendV, hWl])
        (repeat ((with_reducible refine And.intro ?_ ?_); (· first | omega | (show barB _ _ = true; kernel_rfl) | (show rdJ _ _ _ _ _ = true; kernel_rfl) | (show tailB _ _ _ = true; kernel_rfl) | (show sftB _ _ _ = true; kernel_rfl))))
        refine hN _ (k+2) ?_ (by omega) (by omega)
        refine Le.of ?_ ?_ ?_ ?_ ?_ <;> simp [leTV, locsIn, encDigs, encTraces, encWant, encTrace, encReads, encRead, encMades, encMade, encTrace, encReads, tkW, hnew] <;> try omega
        all_goals (intro j; by_cases hj : j = 51 <;> simp [hj])
      · simp only [his, if_true] at hnew
        (simp (maxSteps := 2000000) (disch := first | omega | assumption) [i64_in, tnS, Int.toNat_add, Int.toNat_mul, List.getElem?_cons_zero, List.getElem_cons_zero, hlt', hlt, hg, encTrace, encReads, encRead, his, tkW])
        (repeat ((with_reducible refine And.intro ?_ ?_); (· first | omega | (show barB _ _ = true; kernel_rfl) | (show rdJ _ _ _ _ _ = true; kernel_rfl) | (show tailB _ _ _ = true; kernel_rfl) | (show sftB _ _ _ = true; kernel_rfl))))
        refine callV_pc (raw_ok r.sum hds) rfl rfl (by simp) (by simp [argLe, TV.er]) ?_
        (simp (maxSteps := 2000000) (disch := first | omega | assumption) [i64_in, tnS, Int.toNat_add, Int.toNat_mul, List.getElem?_cons_zero, List.getElem_cons_zero, hlt', hlt, hg, encTrace, encReads, encRead, tkW])
        (repeat ((with_reducible refine And.intro ?_ ?_); (· first | omega | (show barB _ _ = true; kernel_rfl) | (show rdJ _ _ _ _ _ = true; kernel_rfl) | (show tailB _ _ _ = true; kernel_rfl) | (show sftB _ _ _ = true; kernel_rfl))))
        (simp (maxSteps := 2000000) (disch := first | omega | assumption) [i64_in, tnS, Int.toNat_add, Int.toNat_mul, List.getElem?_cons_zero, List.getElem_cons_zero, appendV, hWl])
        (repeat ((with_reducible refine And.intro ?_ ?_); (· first | omega | (show barB _ _ = true; kernel_rfl) | (show rdJ _ _ _ _ _ = true; kernel_rfl) | (show tailB _ _ _ = true; kernel_rfl) | (show sftB _ _ _ = true; kernel_rfl))))
        refine hN _ (k+2) ?_ (by omega) (by omega)
        refine Le.of ?_ ?_ ?_ ?_ ?_ <;> simp [leTV, locsIn, encDigs, encTraces, encWant, encTrace, encReads, encRead, encMades, encMade, encTrace, encReads, tkW, hnew] <;> try omega
        all_goals (intro j; by_cases hj : j = 51 <;> simp [hj])
  have hkn : k = t.reads.length := by omega
  have hlt' : ¬ (k : Int) < t.reads.length := by omega
  (simp (maxSteps := 2000000) (disch := first | omega | assumption) [i64_in, tnS, Int.toNat_add, Int.toNat_mul, List.getElem?_cons_zero, List.getElem_cons_zero, hlt', encTrace, encReads])
  refine hE _ _ (by simp) ?_
  clear hN hE
  have hWf : W = t.key :: Lib.itoa t.reads.length :: t.reads.flatMap readT := by rw [← hW, List.take_of_length_le (by omega)]
  (simp (maxSteps := 2000000) (disch := first | omega | assumption) [i64_in, tnS, Int.toNat_add, Int.toNat_mul, List.getElem?_cons_zero, List.getElem_cons_zero])
  refine AT.loop' (α := Nat) (fun k2 => St.of [(1, .loc 1 []), (3, .cst (.int .i64 0)), (5, .av (.slice 9) (.sl (tkX k k2) (strs' (W ++ (t.outs.take k2).flatMap madeT)))), (8, .av (.int .i64) (.i .i64 k2))] [(1, (tyOf Tryd.prog 28, encTrace t))] (fun j => if j = 74 then k2 else if j = 51 then (if k2 = 0 then k else k + 1) else 0) [])
    (fun k2 => k2 ≤ t.outs.length) (fun k2 => t.outs.length - k2) 0 ?_ ?_ ?_
  · refine Le.of ?_ ?_ ?_ ?_ ?_ <;> simp [leTV, locsIn, encDigs, encTraces, encWant, encTrace, encReads, encRead, encMades, encMade, encTrace, encReads, tkX] <;> try omega
    all_goals (intro j; by_cases hj : j = 74 <;> by_cases hj2 : j = 51 <;> simp [hj, hj2])
  · simp
  rintro k2 hk2 KL2 hN hE
  obtain ⟨V, hV⟩ : ∃ V, W ++ (t.outs.take k2).flatMap madeT = V := ⟨_, rfl⟩
  have hVl : V.length = 2 + 2 * k + 2 * k2 := by
    rw [← hV, List.length_append, mades_len, List.length_take, hWl]; omega
  rw [hV]
  refine vc_sound (cf := cf0) laid mixed _ _ _ (by kernel_rfl) ?_
  by_cases hlt2 : k2 < t.outs.length
  · have hg := map_get encMade t.outs k2 hlt2
    have hds := hd3 t.outs[k2] (List.getElem_mem _)
    have htk : (t.outs.take (k2+1)).flatMap madeT = (t.outs.take k2).flatMap madeT ++ madeT t.outs[k2] := by
      rw [List.take_succ_eq_append_getElem hlt2, List.flatMap_append]; simp
    obtain ⟨r, hr⟩ : ∃ r, r = t.outs[k2] := ⟨_, rfl⟩
    rw [← hr] at hg hds htk
    have hnew : strs' (W ++ (t.outs.take (k2+1)).flatMap madeT) = strs' V ++ [.s r.path, .s r.sum] := by
      rw [htk, ← List.append_assoc, hV, strs'_app]; rfl
    cases k2 with
    | zero =>
      have hlt0 : (0 : Int) < t.outs.length := by omega
      cases k with
      | zero =>
        (simp (maxSteps := 2000000) (disch := first | omega | assumption) [i64_in, tnS, Int.toNat_add, Int.toNat_mul, List.getElem?_cons_zero, List.getElem_cons_zero, hlt0, hlt2, hg, encTrace, encMades, encMade, tkX, tkW])
        (repeat ((with_reducible refine And.intro ?_ ?_); (· first | omega | (show barB _ _ = true; kernel_rfl) | (show rdJ _ _ _ _ _ = true; kernel_rfl) | (show tailB _ _ _ = true; kernel_rfl) | (show sftB _ _ _ = true; kernel_rfl))))
        refine callD_pc (raw_ok r.sum hds) rfl rfl (by simp) (by simp [argLe, TV.er]) ?_
        (simp (maxSteps := 2000000) (disch := first | omega | assumption) [i64_in, tnS, Int.toNat_add, Int.toNat_mul, List.getElem?_cons_zero, List.getElem_cons_zero, appendV, hVl])
        (repeat ((with_reducible refine And.intro ?_ ?_); (· first | omega | (show barB _ _ = true; kernel_rfl) | (show rdJ _ _ _ _ _ = true; kernel_rfl) | (show tailB _ _ _ = true; kernel_rfl) | (show sftB _ _ _ = true; kernel_rfl))))
        refine hN _ 1 ?_ (by omega) (by omega)
        refine Le.of ?_ ?_ ?_ ?_ ?_ <;> simp [leTV, locsIn, encDigs, encTraces, encWant, encTrace, encReads, encRead, encMades, encMade, encTrace, encMades, tkX, tkW, hnew] <;> try omega
        all_goals (intro j; by_cases hj : j = 74 <;> by_cases hj2 : j = 51 <;> simp [hj, hj2])
      | succ k =>
        (simp (maxSteps := 2000000) (disch := first | omega | assumption) [i64_in, tnS, Int.toNat_add, Int.toNat_mul, List.getElem?_cons_zero, List.getElem_cons_zero, hlt0, hlt2, hg, encTrace, encMades, encMade, tkX, tkW])
        (repeat ((with_reducible refine And.intro ?_ ?_); (· first | omega | (show barB _ _ = true; kernel_rfl) | (show rdJ _ _ _ _ _ = true; kernel_rfl) | (show tailB _ _ _ = true; kernel_rfl) | (show sftB _ _ _ = true; kernel_rfl))))
        refine callD_pc (raw_ok r.sum hds) rfl rfl (by simp) (by simp [argLe, TV.er]) ?_
        (simp (maxSteps := 2000000) (disch := first | omega | assumption) [i64_in, tnS, Int.toNat_add, Int.toNat_mul, List.getElem?_cons_zero, List.getElem_cons_zero, appendV, hVl])
        (repeat ((with_reducible refine And.intro ?_ ?_); (· first | omega | (show barB _ _ = true; kernel_rfl) | (show rdJ _ _ _ _ _ = true; kernel_rfl) | (show tailB _ _ _ = true; kernel_rfl) | (show sftB _ _ _ = true; kernel_rfl))))
        refine hN _ 1 ?_ (by omega) (by omega)
        refine Le.of ?_ ?_ ?_ ?_ ?_ <;> simp [leTV, locsIn, encDigs, encTraces, encWant, encTrace, encReads, encRead, encMades, encMade, encTrace, encMades, tkX, tkW, hnew] <;> try omega
        all_goals (intro j; by_cases hj : j = 74 <;> by_cases hj2 : j = 51 <;> simp [hj, hj2])
    | succ k2 =>
      have hlt2' : (k2 : Int) + 1 < t.outs.length := by omega
      have hge : (0 : Int) ≤ (k2 : Int) + 1 := by omega
      (simp (maxSteps := 2000000) (disch := first | omega | assumption) [i64_in, tnS, Int.toNat_add, Int.toNat_mul, List.getElem?_cons_zero, List.getElem_cons_zero, hlt2', hlt2, hg, encTrace, encMades, encMade, tkX])
      (repeat ((with_reducible refine And.intro ?_ ?_); (· first | omega | (show barB _ _ = true; kernel_rfl) | (show rdJ _ _ _ _ _ = true; kernel_rfl) | (show tailB _ _ _ = true; kernel_rfl) | (show sftB _ _ _ = true; kernel_rfl))))
      refine callD_pc (raw_ok r.sum hds) rfl rfl (by simp) (by simp [argLe, TV.er]) ?_
      (simp (maxSteps := 2000000) (disch := first | omega | assumption) [i64_in, tnS, Int.toNat_add, Int.toNat_mul, List.getElem?_cons_zero, List.getElem_cons_zero, appendV, hVl])
      (repeat ((with_reducible refine And.intro ?_ ?_); (· first | omega | (show barB _ _ = true; kernel_rfl) | (show rdJ _ _ _ _ _ = true; kernel_rfl) | (show tailB _ _ _ = true; kernel_rfl) | (show sftB _ _ _ = true; kernel_rfl))))
      refine hN _ (k2+2) ?_ (by omega) (by omega)
      refine Le.of ?_ ?_ ?_ ?_ ?_ <;> simp [leTV, locsIn, encDigs, encTraces, encWant, encTrace, encReads, encRead, encMades, encMade, encTrace, encMades, tkX, hnew] <;> try omega
      all_goals (intro j; by_cases hj : j = 74 <;> by_cases hj2 : j = 51 <;> simp [hj, hj2])
  have hkn2 : k2 = t.outs.length := by omega
  have hlt2' : ¬ (k2 : Int) < t.outs.length := by omega
  have hVf : V = bytesL t := by rw [← hV, hWf, List.take_of_length_le (by omega)]; rfl
  (simp (maxSteps := 2000000) (disch := first | omega | assumption) [i64_in, tnS, Int.toNat_add, Int.toNat_mul, List.getElem?_cons_zero, List.getElem_cons_zero, hlt2', encTrace, encMades])
  refine hE _ _ (by simp) ?_
  clear hN hE
  (simp (maxSteps := 2000000) (disch := first | omega | assumption) [i64_in, tnS, Int.toNat_add, Int.toNat_mul, List.getElem?_cons_zero, List.getElem_cons_zero, hVf])
  refine callV_pc (rrow_ok (bytesL t) (by rw [← hVf, hVl]; omega) hbl) rfl rfl (by simp) (by simp [argLe, TV.er, AV.er]) ?_
  (simp (maxSteps := 2000000) (disch := first | omega | assumption) [i64_in, tnS, Int.toNat_add, Int.toNat_mul, List.getElem?_cons_zero, List.getElem_cons_zero, Tryd.f39, bytesTV, hc])
end Go.Proofs.YtmkpbigaafemnaaDoor
end
section
set_option maxRecDepth 100000
/-! The law TraceChecks: a trace's bytes are read as it again; the program. -/
namespace Go.Proofs.YtmkpbigaafemnaaDoor
open Go Go.Ab
open Classical
attribute [local simp] vc_skip vc_label vc_region vc_drawn vc_seq vc_cond vc_block vc_exit vc_goto vc_ret vc_loop vc_scope vcOps_nil vcOps_cons vcPs_nil vcPs_cons vcDs_nil vcDs_cons vcD impB mkd wkOf isCallV rdOK_eq rdO_nil rdO_tmp rdO_const rdO_global rdO_func rdL_nil rdL_cons rdT_av rdT_cst rdT_pel rdT_tup rdT_junk rdT_loc St.app Op.operands Call.operands vcG_eq iteP wkOf isCallV vcOp putK_eq pureV ev co coC asI asB asS isNil nkOf derefV fieldAddrV indexAddrV indexV lowV boundsV sliceV pickV_eq unV convV convB bytesOf capOf lenV minV withSrc slice3V lookupV mapOf mfind mput scalT mapUpdV makeSliceV appendM appendN growM growOK zM binI isConst binV St.put upd KSeq_n KSeq_x KSeq_g KSeq_r KBlock_n KBlock_x KBlock_g KBlock_r KScope_n KScope_x KScope_r KRet_n KRet_r resL retTV TV.er AV.er AV.ers AV.erk AV.erks Tok.k Heap.er_nil Heap.er_cons Heap.er_app HObj.er_var HObj.er_map Heap.keys_nil Heap.keys_cons Heap.keys_app hget hset subT getP setP_nil setP_one setP_two setPo_some storeV buildV buildL partsOf capTV argOK entry St.of lk_nil lk_cons leLoc siterOf_siter gB_undef gB_av gB_cst undef isNE_tmp isSlT nslD nslDs mslOf mstrV copyV copyK unsV ustrV hdel dataV sameP mtbD isSlN slNilV vcDo_nil vcDo_cons isLt sft sftD softV

@[simp] theorem fnok11 : fnOK Tryd.prog 11 = true := by kernel_rfl
@[simp] theorem isne11 : isNE Tryd.prog (.func 11) = false := isNE_func fnok11
theorem headV_digits (u : Nat) (x : List UInt8) : (Lib.decDigits u).length ≤ 9 → headV 0 0 (Lib.decDigits u ++ x) = headV (Lib.decDigits u).length u x := by
  induction u using Nat.strongRecOn generalizing x with
  | ind u ih =>
    intro hl
    have key : ∀ d : Nat, d < 10 → (UInt8.ofNat (48 + d)).toNat = 48 + d := fun d hd => by simp; omega
    have h58 : ∀ d : Nat, d < 10 → ¬ UInt8.ofNat (48 + d) = 58 := fun d hd e => by
      have := congrArg UInt8.toNat e
      rw [key d hd] at this
      have h : (58 : UInt8).toNat = 58 := rfl
      omega
    by_cases h : u < 10
    · have e : Lib.decDigits u = [UInt8.ofNat (48 + u)] := by rw [Lib.decDigits, dif_pos h]
      rw [e]
      show headV 0 0 (UInt8.ofNat (48 + u) :: x) = headV 1 u x
      have h1 := key u h
      rw [headV, if_neg (by simp), if_neg (by simp only [digB, h1, Bool.and_eq_false_iff, decide_eq_false_iff_not]; omega), h1]
      congr 1; omega
    · have e : Lib.decDigits u = Lib.decDigits (u / 10) ++ [UInt8.ofNat (48 + u % 10)] := by rw [Lib.decDigits, dif_neg h]
      have hl2 : (Lib.decDigits u).length = (Lib.decDigits (u / 10)).length + 1 := by rw [e]; simp
      have hpos : 0 < (Lib.decDigits (u / 10)).length := List.length_pos_iff.2 (decDigits_nil _)
      have ih1 := ih (u / 10) (by omega) (UInt8.ofNat (48 + u % 10) :: x) (by omega)
      rw [hl2]
      rw [e, List.append_assoc]
      show headV 0 0 (Lib.decDigits (u / 10) ++ (UInt8.ofNat (48 + u % 10) :: x)) = _
      rw [ih1]
      have h1 := key (u % 10) (by omega)
      have h2 := h58 (u % 10) (by omega)
      rw [headV, if_neg (fun e => h2 e.1), if_neg (by simp only [digB, h1, Bool.and_eq_false_iff, decide_eq_false_iff_not]; omega), h1]
      congr 1; omega
theorem nDig9 (u : Nat) (h : u < 1000000000) : (Lib.decDigits u).length ≤ 9 := by
  have key : ∀ (k u : Nat), u < 10 ^ (k+1) → (Lib.decDigits u).length ≤ k + 1 := by
    intro k
    induction k with
    | zero => intro u hu; rw [Lib.decDigits, dif_pos (by omega)]; simp
    | succ k ih =>
      intro u hu
      rw [Lib.decDigits]
      split
      · simp
      · have := ih (u / 10) (by rw [Nat.pow_succ] at hu; omega)
        simp; omega
  exact key 8 u (by omega)
theorem head_row (s : List UInt8) (x : List UInt8) (h : s.length < 1000000000) : headV 0 0 (Lib.itoa s.length ++ 58 :: (s ++ x)) = .ok s.length (s ++ x) := by
  rw [itoa_nat, headV_digits _ _ (nDig9 _ h)]
  have hpos : 0 < (Lib.decDigits s.length).length := List.length_pos_iff.2 (decDigits_nil _)
  rw [headV, if_pos ⟨rfl, hpos⟩]
theorem textsA_of_row : ∀ (l : List (List UInt8)) (f : Nat) (out : List (List UInt8)), (∀ s ∈ l, s.length < 1000000000) → (rowV l).length < f → textsA f out (rowV l) = (out ++ l, 0)
  | [], f, out, _, hf => by
    obtain ⟨f, rfl⟩ : ∃ g, f = g + 1 := ⟨f - 1, by omega⟩
    simp [textsA, rowV]
  | s :: l, f, out, hs, hf => by
    obtain ⟨f, rfl⟩ : ∃ g, f = g + 1 := ⟨f - 1, by omega⟩
    have hne : rowV (s :: l) ≠ [] := by rw [rowV_cons]; simp
    have hlen : (rowV l).length < f := by rw [rowV_cons] at hf; simp at hf; omega
    unfold textsA
    rw [if_neg hne, rowV_cons, head_row s (rowV l) (hs s (by simp))]
    simp only
    rw [if_neg (by simp), List.take_left, List.drop_left, textsA_of_row l f _ (fun x hx => hs x (by simp [hx])) hlen]
    simp
theorem texts_of_row {l : List (List UInt8)} (h : ∀ s ∈ l, s.length < 1000000000) : textsV (rowV l) = (l, 0) := by
  have := textsA_of_row l ((rowV l).length + 1) [] h (by omega)
  simpa [textsV] using this
theorem rG_mades : ∀ (l : List Made), (∀ m ∈ l, m.sum.length = 32) → rG 0 (l.flatMap madeT) = some ([], l)
  | [], _ => rfl
  | m :: l, h => by
    have ih := rG_mades l fun x hx => h x (by simp [hx])
    have h32 := h m (by simp)
    show rG 0 (m.path :: m.sum :: l.flatMap madeT) = _
    rw [rG, if_pos h32, ih]
    rfl
theorem rG_reads : ∀ (l : List Read) (o : List Made), (∀ r ∈ l, okS r) → (∀ m ∈ o, m.sum.length = 32) → rG l.length (l.flatMap readT ++ o.flatMap madeT) = some (l, o)
  | [], o, _, ho => by simpa using rG_mades o ho
  | r :: l, o, h, ho => by
    have ih := rG_reads l o (fun x hx => h x (by simp [hx])) ho
    obtain ⟨h32, hz⟩ := h r (by simp)
    obtain ⟨p, is, s⟩ := r
    simp only at h32 hz
    show rG (l.length + 1) (p :: (if is then s else []) :: (l.flatMap readT ++ o.flatMap madeT)) = _
    cases is with
    | true =>
      have hne : s ≠ [] := by intro e; rw [e] at h32; cases h32
      rw [if_pos rfl, rG, if_neg hne, if_pos h32, ih]; rfl
    | false =>
      rw [if_neg (by simp), rG, if_pos rfl, ih, hz rfl]; rfl
theorem readG_of {t : Trace} (hd : TrD t) (hc : checkV t = 0) : readG (bytesL t) = (t, 0) := by
  have hr := rG_reads t.reads t.outs (okS_of_check hd hc) hd.2.2
  obtain ⟨h1, h2⟩ := checkV_len hc
  have hi : intV (Lib.itoa t.reads.length) = some (t.reads.length : Int) := intV_itoa (by omega) (by omega)
  have hl : (t.reads.flatMap readT ++ t.outs.flatMap madeT).length = 2 * t.reads.length + 2 * t.outs.length := by rw [List.length_append, reads_len, mades_len]
  have hk := hd.1
  have e : bytesL t = t.key :: Lib.itoa t.reads.length :: (t.reads.flatMap readT ++ t.outs.flatMap madeT) := by simp [bytesL]
  rw [e]
  simp only [readG, hi]
  rw [if_neg (by omega), if_neg (by omega), Int.toNat_natCast, hr]
  simp only [chkT]
  rw [if_pos (show checkV ⟨t.key, t.reads, t.outs⟩ = 0 from hc)]
theorem bytes_each {t : Trace} (hd : TrD t) (h : checkV t = 0) : ∀ x ∈ bytesL t, x.length ≤ 1040 := by
  obtain ⟨h1, h2⟩ := checkV_len h
  obtain ⟨h3, h4⟩ := checkV_parts h
  obtain ⟨d1, d2, d3⟩ := hd
  intro x hx
  simp only [bytesL, List.mem_append, List.mem_cons, List.mem_flatMap, List.not_mem_nil, or_false] at hx
  rcases hx with ((rfl | rfl) | ⟨r, hr, hx⟩) | ⟨m, hm, hx⟩
  · omega
  · have := decDigits_le t.reads.length
    rw [itoa_nat]; omega
  · have := mayV_len (readsV_zero h3 r hr).1
    simp only [readT, List.mem_cons, List.not_mem_nil, or_false] at hx
    rcases hx with rfl | rfl
    · exact this
    · split
      · have := d2 r hr; omega
      · simp
  · have hu := outsV_zero h4 m hm
    simp only [underV, Bool.and_eq_true] at hu
    have := mayV_len hu.1
    simp only [madeT, List.mem_cons, List.not_mem_nil, or_false] at hx
    rcases hx with rfl | rfl
    · exact this
    · have := d3 m hm; omega
theorem bytes_len9 {t : Trace} (hd : TrD t) (h : checkV t = 0) : (rowV (bytesL t)).length ≤ 1000000000 := by
  obtain ⟨h1, h2⟩ := checkV_len h
  have := rowV_le (bytes_each hd h)
  have hl : (bytesL t).length ≤ 3002 := by
    simp only [bytesL, List.length_append, reads_len, mades_len, List.length_cons, List.length_nil]; omega
  have : (2 * 1040 + 2) * (bytesL t).length ≤ (2 * 1040 + 2) * 3002 := Nat.mul_le_mul_left _ hl
  omega
theorem readV_of {t : Trace} (hd : TrD t) (hc : checkV t = 0) : readV (rowV (bytesL t)) = (t, 0) := by
  have h := texts_of_row (l := bytesL t) fun s hs => by have := bytes_each hd hc s hs; omega
  unfold readV
  rw [h, if_pos rfl, readP_G, readG_of hd hc]
set_option maxHeartbeats 8000000 in
theorem traceChecks_ok (t : Trace) (ht : okTrace t) (hr2 : ∀ r ∈ t.reads, r.path.length ≤ 1000000000) (ho2 : ∀ r ∈ t.outs, r.path.length ≤ 1000000000) :
    PC Tryd.prog 11 [.av (tyOf Tryd.prog 28) (encTrace t)] (.av .bool (.b true)) := by
  obtain ⟨htp, htd, hto⟩ := okTrace_p ht
  have hby := okTrace_bytes ht
  have hrb := rbytes_ok t htp htd hr2 ho2 (bytes_len htd)
  refine PC.of <| ACalls.of_vc laid mixed Tryd.func11 rfl (by kernel_rfl) cf0 (by simp [Tryd.ntmps11]) fun imm0 w0 => ?_
  (simp (maxSteps := 2000000) (disch := first | omega | assumption) [i64_in, tnS, Int.toNat_add, Int.toNat_mul, List.getElem?_cons_zero, List.getElem_cons_zero])
  refine callV_pc alive_ok rfl rfl (by simp) (by simp [argLe, TV.er, AV.er]) ?_
  (simp (maxSteps := 2000000) (disch := first | omega | assumption) [i64_in, tnS, Int.toNat_add, Int.toNat_mul, List.getElem?_cons_zero, List.getElem_cons_zero])
  refine callV_pc (okTrace_wide ht) rfl rfl (by simp) (by simp [argLe, TV.er]) ?_
  cases hw : wideTV t
  rotate_left
  · (simp (maxSteps := 2000000) (disch := first | omega | assumption) [i64_in, tnS, Int.toNat_add, Int.toNat_mul, List.getElem?_cons_zero, List.getElem_cons_zero, hw, Tryd.f11])
  (simp (maxSteps := 2000000) (disch := first | omega | assumption) [i64_in, tnS, Int.toNat_add, Int.toNat_mul, List.getElem?_cons_zero, List.getElem_cons_zero, hw])
  by_cases hc : checkV t = 0
  rotate_left
  · have e1 : bytesTV t = .tup [(.str, .s []), (.int .i64, .i .i64 (checkV t))] := by simp only [bytesTV, if_neg hc]
    rw [e1] at hby hrb
    refine callV_pc hby rfl rfl (by simp) (by simp [argLe, TV.er]) ?_
    (simp (maxSteps := 2000000) (disch := first | omega | assumption) [i64_in, tnS, Int.toNat_add, Int.toNat_mul, List.getElem?_cons_zero, List.getElem_cons_zero])
    refine callV_pc hrb rfl rfl (by simp) (by simp [argLe, TV.er]) ?_
    (simp (maxSteps := 2000000) (disch := first | omega | assumption) [i64_in, tnS, Int.toNat_add, Int.toNat_mul, List.getElem?_cons_zero, List.getElem_cons_zero])
    (repeat ((with_reducible refine And.intro ?_ ?_); (· first | omega | (show barB _ _ = true; kernel_rfl) | (show rdJ _ _ _ _ _ = true; kernel_rfl) | (show tailB _ _ _ = true; kernel_rfl) | (show sftB _ _ _ = true; kernel_rfl))))
    refine callD_pc (check_ok t htp) rfl rfl (by simp) (by simp [argLe, TV.er]) ?_
    (simp (maxSteps := 2000000) (disch := first | omega | assumption) [i64_in, tnS, Int.toNat_add, Int.toNat_mul, List.getElem?_cons_zero, List.getElem_cons_zero])
    (repeat ((with_reducible refine And.intro ?_ ?_); (· first | omega | (show barB _ _ = true; kernel_rfl) | (show rdJ _ _ _ _ _ = true; kernel_rfl) | (show tailB _ _ _ = true; kernel_rfl) | (show sftB _ _ _ = true; kernel_rfl))))
    refine callD_pc (rcheck_ok t htp hr2 ho2) rfl rfl (by simp) (by simp [argLe, TV.er]) ?_
    (simp (maxSteps := 2000000) (disch := first | omega | assumption) [i64_in, tnS, Int.toNat_add, Int.toNat_mul, List.getElem?_cons_zero, List.getElem_cons_zero, hc, Tryd.f11])
  have e1 : bytesTV t = .tup [(.str, .s (rowV (bytesL t))), (.int .i64, .i .i64 0)] := by simp only [bytesTV, if_pos hc]
  rw [e1] at hby hrb
  have hss : sameV t t = true := sameV_iff.2 rfl
  have hrd := read_ok (rowV (bytesL t)) (bytes_len9 htd hc)
  rw [readV_of htd hc] at hrd
  refine callV_pc hby rfl rfl (by simp) (by simp [argLe, TV.er]) ?_
  (simp (maxSteps := 2000000) (disch := first | omega | assumption) [i64_in, tnS, Int.toNat_add, Int.toNat_mul, List.getElem?_cons_zero, List.getElem_cons_zero])
  refine callV_pc hrb rfl rfl (by simp) (by simp [argLe, TV.er]) ?_
  (simp (maxSteps := 2000000) (disch := first | omega | assumption) [i64_in, tnS, Int.toNat_add, Int.toNat_mul, List.getElem?_cons_zero, List.getElem_cons_zero])
  (repeat ((with_reducible refine And.intro ?_ ?_); (· first | omega | (show barB _ _ = true; kernel_rfl) | (show rdJ _ _ _ _ _ = true; kernel_rfl) | (show tailB _ _ _ = true; kernel_rfl) | (show sftB _ _ _ = true; kernel_rfl))))
  refine callD_pc (check_ok t htp) rfl rfl (by simp) (by simp [argLe, TV.er]) ?_
  (simp (maxSteps := 2000000) (disch := first | omega | assumption) [i64_in, tnS, Int.toNat_add, Int.toNat_mul, List.getElem?_cons_zero, List.getElem_cons_zero])
  (repeat ((with_reducible refine And.intro ?_ ?_); (· first | omega | (show barB _ _ = true; kernel_rfl) | (show rdJ _ _ _ _ _ = true; kernel_rfl) | (show tailB _ _ _ = true; kernel_rfl) | (show sftB _ _ _ = true; kernel_rfl))))
  refine callD_pc (rcheck_ok t htp hr2 ho2) rfl rfl (by simp) (by simp [argLe, TV.er]) ?_
  (simp (maxSteps := 2000000) (disch := first | omega | assumption) [i64_in, tnS, Int.toNat_add, Int.toNat_mul, List.getElem?_cons_zero, List.getElem_cons_zero, hc])
  refine callV_pc hrd rfl rfl (by simp) (by simp [argLe, TV.er, AV.er]) ?_
  (simp (maxSteps := 2000000) (disch := first | omega | assumption) [i64_in, tnS, Int.toNat_add, Int.toNat_mul, List.getElem?_cons_zero, List.getElem_cons_zero, readTV])
  refine callV_pc (same_ok t t hto hto) rfl rfl (by simp) (by simp [argLe, TV.er]) ?_
  (simp (maxSteps := 2000000) (disch := first | omega | assumption) [i64_in, tnS, Int.toNat_add, Int.toNat_mul, List.getElem?_cons_zero, List.getElem_cons_zero, hss, Tryd.f11])
end Go.Proofs.YtmkpbigaafemnaaDoor
end
