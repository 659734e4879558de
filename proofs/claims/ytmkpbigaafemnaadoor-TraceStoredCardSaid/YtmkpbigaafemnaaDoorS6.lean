/- The program's SHA-256: a block is taken. No condition beyond each theorem's own. -/
import Derived.Test.YtmkpbigaafemnaaDoorS5
set_option linter.unusedSimpArgs false
set_option linter.unusedVariables false
set_option linter.unusedSectionVars false
set_option maxRecDepth 100000
/-! The program's SHA-256: a block is taken. -/
namespace Go.Proofs.YtmkpbigaafemnaaDoor
open Go Go.Ab
open Classical
attribute [local simp] vc_skip vc_label vc_region vc_drawn vc_seq vc_cond vc_block vc_exit vc_goto vc_ret vc_loop vc_scope vcOps_nil vcOps_cons vcPs_nil vcPs_cons vcDs_nil vcDs_cons vcD impB mkd wkOf isCallV rdOK_eq rdO_nil rdO_tmp rdO_const rdO_global rdO_func rdL_nil rdL_cons rdT_av rdT_cst rdT_pel rdT_tup rdT_junk rdT_loc St.app Op.operands Call.operands vcG_eq iteP wkOf isCallV vcOp putK_eq pureV ev co coC asI asB asS isNil nkOf derefV fieldAddrV indexAddrV indexV lowV boundsV sliceV pickV_eq unV convV convB bytesOf capOf lenV minV withSrc slice3V lookupV mapOf mfind mput scalT mapUpdV makeSliceV appendM appendN growM growOK zM binI isConst binV St.put upd KSeq_n KSeq_x KSeq_g KSeq_r KBlock_n KBlock_x KBlock_g KBlock_r KScope_n KScope_x KScope_r KRet_n KRet_r resL retTV TV.er AV.er AV.ers AV.erk AV.erks Tok.k Heap.er_nil Heap.er_cons Heap.er_app HObj.er_var HObj.er_map Heap.keys_nil Heap.keys_cons Heap.keys_app hget hset subT getP setP_nil setP_one setP_two setPo_some storeV buildV buildL partsOf capTV argOK entry St.of lk_nil lk_cons leLoc siterOf_siter gB_undef gB_av gB_cst undef isNE_tmp isSlT nslD nslDs mslOf mstrV copyV copyK unsV ustrV hdel dataV sameP mtbD isSlN slNilV vcDo_nil vcDo_cons isLt sft sftD softV

@[simp] theorem fnok89 : fnOK Tryd.prog 89 = true := by kernel_rfl
@[simp] theorem isne89 : isNE Tryd.prog (.func 89) = false := isNE_func fnok89
abbrev cfTk : Cfg := ⟨fun _ => false, fun n => n == 112⟩
theorem take_set {s R C : List UInt32} {i : Nat} {x y : UInt32} (hC : C = List.zipWith (· + ·) s R) (hs : s.length = 8) (hR : R.length = 8) (hi : i < 8) (hx : s[i]? = some x) (hy : R[i]? = some y) :
    ((C.take i ++ s.drop i).map encW).set i (encW (x + y)) = (C.take (i+1) ++ s.drop (i+1)).map encW := by
  have hCl : C.length = 8 := by rw [hC]; simp [hs, hR]
  have hCi : C[i]? = some (x + y) := by rw [hC]; simp [List.getElem?_zipWith, hx, hy]
  have hd : s.drop i = x :: s.drop (i+1) := by
    rw [← List.getElem_cons_drop (show i < s.length by omega)]
    rw [List.getElem?_eq_getElem (by omega)] at hx
    rw [Option.some.inj hx]
  rw [← List.map_set, List.take_add_one, hCi, hd]
  simp [List.set_append_right, hCl, Nat.min_eq_left (Nat.le_of_lt hi)]

set_option maxHeartbeats 4000000 in
theorem take_ok (B : Nat) (s : List UInt32) (b : List UInt8) (hs : s.length = 8) (hb : b.length = 64) :
    ACalls Tryd.prog 89 [.av .ptr (.ptr B (.arr 8 129) []), .av (.slice 5) (encBs b)] [(B, .var (.arr 8 129) (.agg (s.map encW)))] fun r H' => r = .tup [] ∧ H' = [(B, .var (.arr 8 129) (.agg ((compress s b).map encW)))] := by
  refine ACalls.of_vc laid mixed Tryd.func89 rfl (by kernel_rfl) cfTk (by simp [Tryd.ntmps89]) fun imm0 w0 => ?_
  (simp (maxSteps := 2000000) (disch := first | omega | assumption) [i64_in, tnS, Int.toNat_add, Int.toNat_mul, List.getElem?_cons_zero, List.getElem_cons_zero, lk_nil])
  (repeat ((with_reducible refine And.intro ?_ ?_); (· first | omega | (show barB _ _ = true; kernel_rfl) | (show rdJ _ _ _ _ _ = true; kernel_rfl) | (show tailB _ _ _ = true; kernel_rfl) | (show sftB _ _ _ = true; kernel_rfl))))
  refine callD_pc (constants_ok) rfl rfl (by simp) (by simp [argLe, coC, TV.er, AV.er]) ?_; (simp (maxSteps := 2000000) (disch := first | omega | assumption) [i64_in, tnS, Int.toNat_add, Int.toNat_mul, List.getElem?_cons_zero, List.getElem_cons_zero, lk_nil])
  (repeat ((with_reducible refine And.intro ?_ ?_); (· first | omega | (show barB _ _ = true; kernel_rfl) | (show rdJ _ _ _ _ _ = true; kernel_rfl) | (show tailB _ _ _ = true; kernel_rfl) | (show sftB _ _ _ = true; kernel_rfl))))
  refine callV_pc (spread_ok b hb) rfl rfl (by simp) (by simp [argLe, TV.er]) ?_
  (simp (maxSteps := 2000000) (disch := first | omega | assumption) [i64_in, tnS, Int.toNat_add, Int.toNat_mul, List.getElem?_cons_zero, List.getElem_cons_zero, lk_nil])
  refine AT.loopV (α := Nat) (fun k ver => St.of [(0, .av .ptr (.ptr B (.arr 8 129) [])), (4, .loc 4 []), (5, .loc 5 []), (19, .av (.arr 64 129) (.agg ((sched b 64).map encW))), (20, .av (.int .i64) (.i .i64 k))] [(4, (.arr 8 129, .agg ((rnd b s k).map encW))), (5, (.arr 64 129, .agg (k64.map encW)))] ver [(B, .var (.arr 8 129) (.agg (s.map encW)))])
    (fun k => k ≤ 64) (fun k => 64 - k) 0 ?_ ?_ ?_
  · refine Le.of ?_ ?_ ?_ ?_ ?_ <;> simp [leTV, locsIn, encDigs, encTraces, encWant, encTrace, encReads, encRead, encMades, encMade, rnd, lk_nil] <;> try omega
  · simp
  · rintro k ver hk KL hN hE
    refine vc_sound (cf := cfTk) laid mixed _ _ _ (by kernel_rfl) ?_
    by_cases hlt : k < 64
    · have hlt' : (k : Int) < 64 := by omega
      obtain ⟨v0, v1, v2, v3, v4, v5, v6, v7, hv⟩ := eight (rnd_len (b := b) hs k)
      obtain ⟨kk, hkk⟩ : ∃ x, k64[k]? = some x := ⟨_, List.getElem?_eq_getElem (by simp [k64]; omega)⟩
      obtain ⟨ww, hww⟩ : ∃ x, (sched b 64)[k]? = some x := ⟨_, List.getElem?_eq_getElem (by simp; omega)⟩
      have hR : rnd b s (k+1) = roundW [v0, v1, v2, v3, v4, v5, v6, v7] kk ww := by rw [rnd, hv, hkk, hww]; rfl
      have hkl : k64.length = 64 := rfl
      have hwl := sched_len b 64
      generalize k64 = KK at *
      generalize sched b 64 = W at *
      have gk : ∀ h : k < KK.length, KK[k] = kk := fun h => by rw [List.getElem?_eq_getElem h] at hkk; simpa using hkk
      have gw : ∀ h : k < W.length, W[k] = ww := fun h => by rw [List.getElem?_eq_getElem h] at hww; simpa using hww
      (simp (maxSteps := 2000000) (disch := first | omega | assumption) [i64_in, tnS, Int.toNat_add, Int.toNat_mul, List.getElem?_cons_zero, List.getElem_cons_zero, hlt', hv, gw, lk_nil])
      (repeat ((with_reducible refine And.intro ?_ ?_); (· first | omega | (show barB _ _ = true; kernel_rfl) | (show rdJ _ _ _ _ _ = true; kernel_rfl) | (show tailB _ _ _ = true; kernel_rfl) | (show sftB _ _ _ = true; kernel_rfl))))
      refine callD_pc (turned_ok v4 6 (by decide) (by decide)) rfl rfl (by simp) (by simp [argLe, coC, TV.er, AV.er]) ?_; (simp (maxSteps := 2000000) (disch := first | omega | assumption) [i64_in, tnS, Int.toNat_add, Int.toNat_mul, List.getElem?_cons_zero, List.getElem_cons_zero, wadd, wor, wxor, wand, wnot, wshr, -BitVec.toNat_or, -BitVec.toNat_xor, -BitVec.toNat_and])
      refine callD_pc (turned_ok v4 11 (by decide) (by decide)) rfl rfl (by simp) (by simp [argLe, coC, TV.er, AV.er]) ?_; (simp (maxSteps := 2000000) (disch := first | omega | assumption) [i64_in, tnS, Int.toNat_add, Int.toNat_mul, List.getElem?_cons_zero, List.getElem_cons_zero, wadd, wor, wxor, wand, wnot, wshr, -BitVec.toNat_or, -BitVec.toNat_xor, -BitVec.toNat_and])
      refine callD_pc (turned_ok v4 25 (by decide) (by decide)) rfl rfl (by simp) (by simp [argLe, coC, TV.er, AV.er]) ?_; (simp (maxSteps := 2000000) (disch := first | omega | assumption) [i64_in, tnS, Int.toNat_add, Int.toNat_mul, List.getElem?_cons_zero, List.getElem_cons_zero, wadd, wor, wxor, wand, wnot, wshr, -BitVec.toNat_or, -BitVec.toNat_xor, -BitVec.toNat_and, gk, gw])
      (repeat ((with_reducible refine And.intro ?_ ?_); (· first | omega | (show barB _ _ = true; kernel_rfl) | (show rdJ _ _ _ _ _ = true; kernel_rfl) | (show tailB _ _ _ = true; kernel_rfl) | (show sftB _ _ _ = true; kernel_rfl))))
      refine callD_pc (turned_ok v0 2 (by decide) (by decide)) rfl rfl (by simp) (by simp [argLe, coC, TV.er, AV.er]) ?_; (simp (maxSteps := 2000000) (disch := first | omega | assumption) [i64_in, tnS, Int.toNat_add, Int.toNat_mul, List.getElem?_cons_zero, List.getElem_cons_zero, wadd, wor, wxor, wand, wnot, wshr, -BitVec.toNat_or, -BitVec.toNat_xor, -BitVec.toNat_and])
      refine callD_pc (turned_ok v0 13 (by decide) (by decide)) rfl rfl (by simp) (by simp [argLe, coC, TV.er, AV.er]) ?_; (simp (maxSteps := 2000000) (disch := first | omega | assumption) [i64_in, tnS, Int.toNat_add, Int.toNat_mul, List.getElem?_cons_zero, List.getElem_cons_zero, wadd, wor, wxor, wand, wnot, wshr, -BitVec.toNat_or, -BitVec.toNat_xor, -BitVec.toNat_and])
      refine callD_pc (turned_ok v0 22 (by decide) (by decide)) rfl rfl (by simp) (by simp [argLe, coC, TV.er, AV.er]) ?_; (simp (maxSteps := 2000000) (disch := first | omega | assumption) [i64_in, tnS, Int.toNat_add, Int.toNat_mul, List.getElem?_cons_zero, List.getElem_cons_zero, wadd, wor, wxor, wand, wnot, wshr, -BitVec.toNat_or, -BitVec.toNat_xor, -BitVec.toNat_and])
      (repeat ((with_reducible refine And.intro ?_ ?_); (· first | omega | (show barB _ _ = true; kernel_rfl) | (show rdJ _ _ _ _ _ = true; kernel_rfl) | (show tailB _ _ _ = true; kernel_rfl) | (show sftB _ _ _ = true; kernel_rfl))))
      refine hN _ (k+1) ?_ (by omega) (by omega)
      refine Le.of ?_ ?_ ?_ ?_ ?_ <;> simp [leTV, locsIn, encDigs, encTraces, encWant, encTrace, encReads, encRead, encMades, encMade, hR, roundW, lk_nil] <;> try omega
    · obtain rfl : k = 64 := by omega
      (simp (maxSteps := 2000000) (disch := first | omega | assumption) [i64_in, tnS, Int.toNat_add, Int.toNat_mul, List.getElem?_cons_zero, List.getElem_cons_zero, lk_nil])
      refine hE _ _ (by simp) ?_
      (simp (maxSteps := 2000000) (disch := first | omega | assumption) [i64_in, tnS, Int.toNat_add, Int.toNat_mul, List.getElem?_cons_zero, List.getElem_cons_zero, lk_nil])
      refine AT.loopV (α := Nat) (fun k ver => St.of [(0, .av .ptr (.ptr B (.arr 8 129) [])), (99, .av (.arr 8 129) (.agg ((rnd b s 64).map encW))), (100, .av (.int .i64) (.i .i64 k))] [] ver [(B, .var (.arr 8 129) (.agg (((compress s b).take k ++ s.drop k).map encW)))])
        (fun k => k ≤ 8) (fun k => 8 - k) 0 ?_ ?_ ?_
      · refine Le.of ?_ ?_ ?_ ?_ ?_ <;> simp [leTV, locsIn, encDigs, encTraces, encWant, encTrace, encReads, encRead, encMades, encMade, lk_nil] <;> try omega
      · simp
      · rintro k ver2 hk KL2 hN2 hE2
        have hcl := compress_len (b := b) hs
        refine vc_sound (cf := cfTk) laid mixed _ _ _ (by kernel_rfl) ?_
        by_cases hlt : k < 8
        · have hlt' : (k : Int) < 8 := by omega
          have hrl := rnd_len (b := b) hs 64
          obtain ⟨x, hx⟩ : ∃ x, s[k]? = some x := ⟨_, List.getElem?_eq_getElem (by omega)⟩
          obtain ⟨y, hy⟩ : ∃ x, (rnd b s 64)[k]? = some x := ⟨_, List.getElem?_eq_getElem (by omega)⟩
          have hsq := take_set (C := compress s b) rfl hs hrl hlt hx hy
          have hg : (((compress s b).take k ++ s.drop k).map encW)[k]? = some (encW x) := by
            rw [List.getElem?_map, List.getElem?_append_right (by rw [List.length_take]; omega), List.getElem?_drop]
            simp [hcl, Nat.min_eq_left (Nat.le_of_lt hlt), hx]
          have hll : (((compress s b).take k ++ s.drop k).map encW).length = 8 := by simp [hcl, hs]; omega
          generalize ((compress s b).take k ++ s.drop k).map encW = Z at *
          generalize rnd b s 64 = R at *
          have gy : ∀ g : k < R.length, R[k] = y := fun g => by rw [List.getElem?_eq_getElem g] at hy; simpa using hy
          have gz : ∀ g : k < Z.length, Z[k] = encW x := fun g => by rw [List.getElem?_eq_getElem g] at hg; simpa using hg
          (simp (maxSteps := 2000000) (disch := first | omega | assumption) [i64_in, tnS, Int.toNat_add, Int.toNat_mul, List.getElem?_cons_zero, List.getElem_cons_zero, hlt', gy, gz, hll, wadd, lk_nil])
          (repeat ((with_reducible refine And.intro ?_ ?_); (· first | omega | (show barB _ _ = true; kernel_rfl) | (show rdJ _ _ _ _ _ = true; kernel_rfl) | (show tailB _ _ _ = true; kernel_rfl) | (show sftB _ _ _ = true; kernel_rfl))))
          refine hN2 _ (k+1) ?_ (by omega) (by omega)
          rw [List.map_append, List.map_take, List.map_drop] at hsq
          refine Le.of ?_ ?_ ?_ ?_ ?_ <;> simp [leTV, locsIn, encDigs, encTraces, encWant, encTrace, encReads, encRead, encMades, encMade, hsq, lk_nil] <;> try omega
        · obtain rfl : k = 8 := by omega
          have e1 : (compress s b).take 8 ++ s.drop 8 = compress s b := by rw [List.take_of_length_le (by omega), List.drop_of_length_le (by omega), List.append_nil]
          (simp (maxSteps := 2000000) (disch := first | omega | assumption) [i64_in, tnS, Int.toNat_add, Int.toNat_mul, List.getElem?_cons_zero, List.getElem_cons_zero, lk_nil])
          refine hE2 _ _ (by simp) ?_
          (simp (maxSteps := 2000000) (disch := first | omega | assumption) [i64_in, tnS, Int.toNat_add, Int.toNat_mul, List.getElem?_cons_zero, List.getElem_cons_zero, Tryd.f89, lk_nil])
          try (rw [← List.map_take, ← List.map_drop, ← List.map_append, e1])
          try simp [AV.erks_eq, Function.comp_def, AV.erk, lk_nil]

set_option maxHeartbeats 4000000 in
theorem takeH_ok (B : Nat) (s : List UInt32) (b : List UInt8) (hs : s.length = 8) (hb : b.length = 64) {op nn : AV} (hop : op.erk = op) (hnn : nn.erk = nn) :
    ACalls Tryd.prog 89 [.av .ptr (.ptr B (tyOf Tryd.prog 138) [0]), .av (.slice 5) (encBs b)] [(B, .var (tyOf Tryd.prog 138) (.agg [.agg (s.map encW), op, nn]))] fun r H' => r = .tup [] ∧ H' = [(B, .var (tyOf Tryd.prog 138) (.agg [.agg ((compress s b).map encW), op, nn]))] := by
  refine ACalls.of_vc laid mixed Tryd.func89 rfl (by kernel_rfl) cfTk (by simp [Tryd.ntmps89]) fun imm0 w0 => ?_
  (simp (maxSteps := 2000000) (disch := first | omega | assumption) [i64_in, tnS, Int.toNat_add, Int.toNat_mul, List.getElem?_cons_zero, List.getElem_cons_zero, hop, hnn])
  (repeat ((with_reducible refine And.intro ?_ ?_); (· first | omega | (show barB _ _ = true; kernel_rfl) | (show rdJ _ _ _ _ _ = true; kernel_rfl) | (show tailB _ _ _ = true; kernel_rfl) | (show sftB _ _ _ = true; kernel_rfl))))
  refine callD_pc (constants_ok) rfl rfl (by simp) (by simp [argLe, coC, TV.er, AV.er]) ?_; (simp (maxSteps := 2000000) (disch := first | omega | assumption) [i64_in, tnS, Int.toNat_add, Int.toNat_mul, List.getElem?_cons_zero, List.getElem_cons_zero, hop, hnn])
  (repeat ((with_reducible refine And.intro ?_ ?_); (· first | omega | (show barB _ _ = true; kernel_rfl) | (show rdJ _ _ _ _ _ = true; kernel_rfl) | (show tailB _ _ _ = true; kernel_rfl) | (show sftB _ _ _ = true; kernel_rfl))))
  refine callV_pc (spread_ok b hb) rfl rfl (by simp) (by simp [argLe, TV.er]) ?_
  (simp (maxSteps := 2000000) (disch := first | omega | assumption) [i64_in, tnS, Int.toNat_add, Int.toNat_mul, List.getElem?_cons_zero, List.getElem_cons_zero, hop, hnn])
  refine AT.loopV (α := Nat) (fun k ver => St.of [(0, .av .ptr (.ptr B (tyOf Tryd.prog 138) [0])), (4, .loc 4 []), (5, .loc 5 []), (19, .av (.arr 64 129) (.agg ((sched b 64).map encW))), (20, .av (.int .i64) (.i .i64 k))] [(4, (.arr 8 129, .agg ((rnd b s k).map encW))), (5, (.arr 64 129, .agg (k64.map encW)))] ver [(B, .var (tyOf Tryd.prog 138) (.agg [.agg (s.map encW), op, nn]))])
    (fun k => k ≤ 64) (fun k => 64 - k) 0 ?_ ?_ ?_
  · refine Le.of ?_ ?_ ?_ ?_ ?_ <;> simp [leTV, locsIn, encDigs, encTraces, encWant, encTrace, encReads, encRead, encMades, encMade, rnd, hop, hnn] <;> try omega
  · simp
  · rintro k ver hk KL hN hE
    refine vc_sound (cf := cfTk) laid mixed _ _ _ (by kernel_rfl) ?_
    by_cases hlt : k < 64
    · have hlt' : (k : Int) < 64 := by omega
      obtain ⟨v0, v1, v2, v3, v4, v5, v6, v7, hv⟩ := eight (rnd_len (b := b) hs k)
      obtain ⟨kk, hkk⟩ : ∃ x, k64[k]? = some x := ⟨_, List.getElem?_eq_getElem (by simp [k64]; omega)⟩
      obtain ⟨ww, hww⟩ : ∃ x, (sched b 64)[k]? = some x := ⟨_, List.getElem?_eq_getElem (by simp; omega)⟩
      have hR : rnd b s (k+1) = roundW [v0, v1, v2, v3, v4, v5, v6, v7] kk ww := by rw [rnd, hv, hkk, hww]; rfl
      have hkl : k64.length = 64 := rfl
      have hwl := sched_len b 64
      generalize k64 = KK at *
      generalize sched b 64 = W at *
      have gk : ∀ h : k < KK.length, KK[k] = kk := fun h => by rw [List.getElem?_eq_getElem h] at hkk; simpa using hkk
      have gw : ∀ h : k < W.length, W[k] = ww := fun h => by rw [List.getElem?_eq_getElem h] at hww; simpa using hww
      (simp (maxSteps := 2000000) (disch := first | omega | assumption) [i64_in, tnS, Int.toNat_add, Int.toNat_mul, List.getElem?_cons_zero, List.getElem_cons_zero, hlt', hv, gw, hop, hnn])
      (repeat ((with_reducible refine And.intro ?_ ?_); (· first | omega | (show barB _ _ = true; kernel_rfl) | (show rdJ _ _ _ _ _ = true; kernel_rfl) | (show tailB _ _ _ = true; kernel_rfl) | (show sftB _ _ _ = true; kernel_rfl))))
      refine callD_pc (turned_ok v4 6 (by decide) (by decide)) rfl rfl (by simp) (by simp [argLe, coC, TV.er, AV.er]) ?_; (simp (maxSteps := 2000000) (disch := first | omega | assumption) [i64_in, tnS, Int.toNat_add, Int.toNat_mul, List.getElem?_cons_zero, List.getElem_cons_zero, wadd, wor, wxor, wand, wnot, wshr, -BitVec.toNat_or, -BitVec.toNat_xor, -BitVec.toNat_and])
      refine callD_pc (turned_ok v4 11 (by decide) (by decide)) rfl rfl (by simp) (by simp [argLe, coC, TV.er, AV.er]) ?_; (simp (maxSteps := 2000000) (disch := first | omega | assumption) [i64_in, tnS, Int.toNat_add, Int.toNat_mul, List.getElem?_cons_zero, List.getElem_cons_zero, wadd, wor, wxor, wand, wnot, wshr, -BitVec.toNat_or, -BitVec.toNat_xor, -BitVec.toNat_and])
      refine callD_pc (turned_ok v4 25 (by decide) (by decide)) rfl rfl (by simp) (by simp [argLe, coC, TV.er, AV.er]) ?_; (simp (maxSteps := 2000000) (disch := first | omega | assumption) [i64_in, tnS, Int.toNat_add, Int.toNat_mul, List.getElem?_cons_zero, List.getElem_cons_zero, wadd, wor, wxor, wand, wnot, wshr, -BitVec.toNat_or, -BitVec.toNat_xor, -BitVec.toNat_and, gk, gw])
      (repeat ((with_reducible refine And.intro ?_ ?_); (· first | omega | (show barB _ _ = true; kernel_rfl) | (show rdJ _ _ _ _ _ = true; kernel_rfl) | (show tailB _ _ _ = true; kernel_rfl) | (show sftB _ _ _ = true; kernel_rfl))))
      refine callD_pc (turned_ok v0 2 (by decide) (by decide)) rfl rfl (by simp) (by simp [argLe, coC, TV.er, AV.er]) ?_; (simp (maxSteps := 2000000) (disch := first | omega | assumption) [i64_in, tnS, Int.toNat_add, Int.toNat_mul, List.getElem?_cons_zero, List.getElem_cons_zero, wadd, wor, wxor, wand, wnot, wshr, -BitVec.toNat_or, -BitVec.toNat_xor, -BitVec.toNat_and])
      refine callD_pc (turned_ok v0 13 (by decide) (by decide)) rfl rfl (by simp) (by simp [argLe, coC, TV.er, AV.er]) ?_; (simp (maxSteps := 2000000) (disch := first | omega | assumption) [i64_in, tnS, Int.toNat_add, Int.toNat_mul, List.getElem?_cons_zero, List.getElem_cons_zero, wadd, wor, wxor, wand, wnot, wshr, -BitVec.toNat_or, -BitVec.toNat_xor, -BitVec.toNat_and])
      refine callD_pc (turned_ok v0 22 (by decide) (by decide)) rfl rfl (by simp) (by simp [argLe, coC, TV.er, AV.er]) ?_; (simp (maxSteps := 2000000) (disch := first | omega | assumption) [i64_in, tnS, Int.toNat_add, Int.toNat_mul, List.getElem?_cons_zero, List.getElem_cons_zero, wadd, wor, wxor, wand, wnot, wshr, -BitVec.toNat_or, -BitVec.toNat_xor, -BitVec.toNat_and])
      (repeat ((with_reducible refine And.intro ?_ ?_); (· first | omega | (show barB _ _ = true; kernel_rfl) | (show rdJ _ _ _ _ _ = true; kernel_rfl) | (show tailB _ _ _ = true; kernel_rfl) | (show sftB _ _ _ = true; kernel_rfl))))
      refine hN _ (k+1) ?_ (by omega) (by omega)
      refine Le.of ?_ ?_ ?_ ?_ ?_ <;> simp [leTV, locsIn, encDigs, encTraces, encWant, encTrace, encReads, encRead, encMades, encMade, hR, roundW, hop, hnn] <;> try omega
    · obtain rfl : k = 64 := by omega
      (simp (maxSteps := 2000000) (disch := first | omega | assumption) [i64_in, tnS, Int.toNat_add, Int.toNat_mul, List.getElem?_cons_zero, List.getElem_cons_zero, hop, hnn])
      refine hE _ _ (by simp) ?_
      (simp (maxSteps := 2000000) (disch := first | omega | assumption) [i64_in, tnS, Int.toNat_add, Int.toNat_mul, List.getElem?_cons_zero, List.getElem_cons_zero, hop, hnn])
      refine AT.loopV (α := Nat) (fun k ver => St.of [(0, .av .ptr (.ptr B (tyOf Tryd.prog 138) [0])), (99, .av (.arr 8 129) (.agg ((rnd b s 64).map encW))), (100, .av (.int .i64) (.i .i64 k))] [] ver [(B, .var (tyOf Tryd.prog 138) (.agg [.agg (((compress s b).take k ++ s.drop k).map encW), op, nn]))])
        (fun k => k ≤ 8) (fun k => 8 - k) 0 ?_ ?_ ?_
      · refine Le.of ?_ ?_ ?_ ?_ ?_ <;> simp [leTV, locsIn, encDigs, encTraces, encWant, encTrace, encReads, encRead, encMades, encMade, hop, hnn] <;> try omega
      · simp
      · rintro k ver2 hk KL2 hN2 hE2
        have hcl := compress_len (b := b) hs
        refine vc_sound (cf := cfTk) laid mixed _ _ _ (by kernel_rfl) ?_
        by_cases hlt : k < 8
        · have hlt' : (k : Int) < 8 := by omega
          have hrl := rnd_len (b := b) hs 64
          obtain ⟨x, hx⟩ : ∃ x, s[k]? = some x := ⟨_, List.getElem?_eq_getElem (by omega)⟩
          obtain ⟨y, hy⟩ : ∃ x, (rnd b s 64)[k]? = some x := ⟨_, List.getElem?_eq_getElem (by omega)⟩
          have hsq := take_set (C := compress s b) rfl hs hrl hlt hx hy
          have hg : (((compress s b).take k ++ s.drop k).map encW)[k]? = some (encW x) := by
            rw [List.getElem?_map, List.getElem?_append_right (by rw [List.length_take]; omega), List.getElem?_drop]
            simp [hcl, Nat.min_eq_left (Nat.le_of_lt hlt), hx]
          have hll : (((compress s b).take k ++ s.drop k).map encW).length = 8 := by simp [hcl, hs]; omega
          generalize ((compress s b).take k ++ s.drop k).map encW = Z at *
          generalize rnd b s 64 = R at *
          have gy : ∀ g : k < R.length, R[k] = y := fun g => by rw [List.getElem?_eq_getElem g] at hy; simpa using hy
          have gz : ∀ g : k < Z.length, Z[k] = encW x := fun g => by rw [List.getElem?_eq_getElem g] at hg; simpa using hg
          (simp (maxSteps := 2000000) (disch := first | omega | assumption) [i64_in, tnS, Int.toNat_add, Int.toNat_mul, List.getElem?_cons_zero, List.getElem_cons_zero, hlt', gy, gz, hll, wadd, hop, hnn])
          (repeat ((with_reducible refine And.intro ?_ ?_); (· first | omega | (show barB _ _ = true; kernel_rfl) | (show rdJ _ _ _ _ _ = true; kernel_rfl) | (show tailB _ _ _ = true; kernel_rfl) | (show sftB _ _ _ = true; kernel_rfl))))
          refine hN2 _ (k+1) ?_ (by omega) (by omega)
          rw [List.map_append, List.map_take, List.map_drop] at hsq
          refine Le.of ?_ ?_ ?_ ?_ ?_ <;> simp [leTV, locsIn, encDigs, encTraces, encWant, encTrace, encReads, encRead, encMades, encMade, hsq, hop, hnn] <;> try omega
        · obtain rfl : k = 8 := by omega
          have e1 : (compress s b).take 8 ++ s.drop 8 = compress s b := by rw [List.take_of_length_le (by omega), List.drop_of_length_le (by omega), List.append_nil]
          (simp (maxSteps := 2000000) (disch := first | omega | assumption) [i64_in, tnS, Int.toNat_add, Int.toNat_mul, List.getElem?_cons_zero, List.getElem_cons_zero, hop, hnn])
          refine hE2 _ _ (by simp) ?_
          (simp (maxSteps := 2000000) (disch := first | omega | assumption) [i64_in, tnS, Int.toNat_add, Int.toNat_mul, List.getElem?_cons_zero, List.getElem_cons_zero, Tryd.f89, hop, hnn])
          try (rw [← List.map_take, ← List.map_drop, ← List.map_append, e1])
          try simp [AV.erks_eq, Function.comp_def, AV.erk, hop, hnn]
end Go.Proofs.YtmkpbigaafemnaaDoor
