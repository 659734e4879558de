/- The document's SHA-256: a block. No condition beyond each theorem's own. -/
import Derived.Test.YtmkpbigaafemnaaDoorS1
set_option linter.unusedSimpArgs false
set_option linter.unusedVariables false
set_option linter.unusedSectionVars false
set_option maxRecDepth 100000
/-! The document's SHA-256: a block. -/
namespace Go.Proofs.YtmkpbigaafemnaaDoor
open Go Go.Ab
open Classical
attribute [local simp] vc_skip vc_label vc_region vc_drawn vc_seq vc_cond vc_block vc_exit vc_goto vc_ret vc_loop vc_scope vcOps_nil vcOps_cons vcPs_nil vcPs_cons vcDs_nil vcDs_cons vcD impB mkd wkOf isCallV rdOK_eq rdO_nil rdO_tmp rdO_const rdO_global rdO_func rdL_nil rdL_cons rdT_av rdT_cst rdT_pel rdT_tup rdT_junk rdT_loc St.app Op.operands Call.operands vcG_eq iteP wkOf isCallV vcOp putK_eq pureV ev co coC asI asB asS isNil nkOf derefV fieldAddrV indexAddrV indexV lowV boundsV sliceV pickV_eq unV convV convB bytesOf capOf lenV minV withSrc slice3V lookupV mapOf mfind mput scalT mapUpdV makeSliceV appendM appendN growM growOK zM binI isConst binV St.put upd KSeq_n KSeq_x KSeq_g KSeq_r KBlock_n KBlock_x KBlock_g KBlock_r KScope_n KScope_x KScope_r KRet_n KRet_r resL retTV TV.er AV.er AV.ers AV.erk AV.erks Tok.k Heap.er_nil Heap.er_cons Heap.er_app HObj.er_var HObj.er_map Heap.keys_nil Heap.keys_cons Heap.keys_app hget hset subT getP setP_nil setP_one setP_two setPo_some storeV buildV buildL partsOf capTV argOK entry St.of lk_nil lk_cons leLoc siterOf_siter gB_undef gB_av gB_cst undef isNE_tmp isSlT nslD nslDs mslOf mstrV copyV copyK unsV ustrV hdel dataV sameP mtbD isSlN slNilV vcDo_nil vcDo_cons isLt sft sftD softV

@[simp] theorem fnok87 : fnOK Tryd.prog 87 = true := by kernel_rfl
@[simp] theorem isne87 : isNE Tryd.prog (.func 87) = false := isNE_func fnok87
def lo (x : UInt32) : UInt32 := rotr x 7 ^^^ rotr x 18 ^^^ x >>> UInt32.ofNat 3
def hi (x : UInt32) : UInt32 := rotr x 17 ^^^ rotr x 19 ^^^ x >>> UInt32.ofNat 10
def nextW (w : List UInt32) : UInt32 := w[w.length - 16]?.getD 0 + lo (w[w.length - 15]?.getD 0) + w[w.length - 7]?.getD 0 + hi (w[w.length - 2]?.getD 0)
def wordAt (b : List UInt8) (n : Nat) : UInt32 := wordOf (b.getD (4*n) 0) (b.getD (4*n+1) 0) (b.getD (4*n+2) 0) (b.getD (4*n+3) 0)
def sched (b : List UInt8) : Nat → List UInt32
  | 0 => []
  | n+1 => sched b n ++ [if n < 16 then wordAt b n else nextW (sched b n)]
@[simp] theorem sched_len (b : List UInt8) (n : Nat) : (sched b n).length = n := by
  induction n with
  | zero => rfl
  | succ n ih => simp [sched, ih]
def roundW : List UInt32 → UInt32 → UInt32 → List UInt32
  | [v0, v1, v2, v3, v4, v5, v6, v7], k, w =>
    [v7 + (rotr v4 6 ^^^ rotr v4 11 ^^^ rotr v4 25) + (v4 &&& v5 ^^^ ~~~v4 &&& v6) + k + w + ((rotr v0 2 ^^^ rotr v0 13 ^^^ rotr v0 22) + (v0 &&& v1 ^^^ v0 &&& v2 ^^^ v1 &&& v2)), v0, v1, v2,
      v3 + (v7 + (rotr v4 6 ^^^ rotr v4 11 ^^^ rotr v4 25) + (v4 &&& v5 ^^^ ~~~v4 &&& v6) + k + w), v4, v5, v6]
  | _, _, _ => []
def rnd (b : List UInt8) (v : List UInt32) : Nat → List UInt32
  | 0 => v
  | n+1 => roundW (rnd b v n) (k64[n]?.getD 0) ((sched b 64)[n]?.getD 0)
theorem eight {l : List UInt32} (h : l.length = 8) : ∃ v0 v1 v2 v3 v4 v5 v6 v7, l = [v0, v1, v2, v3, v4, v5, v6, v7] := by
  match l, h with
  | [v0, v1, v2, v3, v4, v5, v6, v7], _ => exact ⟨v0, v1, v2, v3, v4, v5, v6, v7, rfl⟩
theorem rnd_len {b : List UInt8} {v : List UInt32} (h : v.length = 8) : ∀ n, (rnd b v n).length = 8
  | 0 => h
  | n+1 => by
    obtain ⟨v0, v1, v2, v3, v4, v5, v6, v7, e⟩ := eight (rnd_len (b := b) h n)
    simp [rnd, e, roundW]
def compress (h : List UInt32) (b : List UInt8) : List UInt32 := List.zipWith (· + ·) h (rnd b h 64)
theorem compress_len {b : List UInt8} {v : List UInt32} (h : v.length = 8) : (compress v b).length = 8 := by
  simp [compress, h, rnd_len h]

theorem ers_W (l : List UInt32) : AV.ers (l.map encW) = l.map encW := by simp [AV.ers_eq, AV.er, Function.comp_def]

theorem four {b : List UInt8} {i : Nat} (h : 4 * i + 4 ≤ b.length) : (b.take (4*i+4)).drop (4*i) = [b.getD (4*i) 0, b.getD (4*i+1) 0, b.getD (4*i+2) 0, b.getD (4*i+3) 0] := by
  apply List.ext_getElem
  · simp; omega
  · intro n h1 h2
    simp at h1 h2
    have : n = 0 ∨ n = 1 ∨ n = 2 ∨ n = 3 := by omega
    rcases this with rfl | rfl | rfl | rfl <;> simp [List.getElem?_eq_getElem, show 4*i < b.length by omega, show 4*i+1 < b.length by omega, show 4*i+2 < b.length by omega, show 4*i+3 < b.length by omega]

set_option maxHeartbeats 4000000 in
theorem rblock_ok (h : List UInt32) (b : List UInt8) (hh : h.length = 8) (hb : b.length = 64) :
    PC Tryd.prog 87 [.av (.slice 129) (.sl .no (h.map encW)), .av (.slice 5) (encBs b)] (.av (.slice 129) (.sl .no ((compress h b).map encW))) := by
  refine PC.of <| ACalls.of_vc laid mixed Tryd.func87 rfl (by kernel_rfl) cf0 (by simp [Tryd.ntmps87]) fun imm0 w0 => ?_
  simp [appendV]
  refine callV_pc rks_ok rfl rfl (by simp) (by simp [argLe]) ?_
  simp [appendV]
  have hbe : encBs b = .sl .no (b.map fun b => .i .u8 b.toNat) := rfl
  refine AT.loop' (α := Nat × Nat × (Nat → Nat)) (fun k => St.of [(0, .av (.slice 129) (.sl .no (h.map encW))), (1, .av (.slice 5) (encBs b)), (5, .av (.slice 129) (.sl .no (k64.map encW))), (6, .av (.slice 129) (.sl (.own k.2.1 (k.2.2 k.2.1)) ((sched b k.1).map encW))), (7, .av (.int .i64) (.i .i64 k.1))] [] k.2.2 [])
    (fun k => k.1 ≤ 64) (fun k => 64 - k.1) (0, 6, fun _ => 0) ?_ ?_ ?_
  · refine Le.of ?_ ?_ ?_ ?_ ?_ <;> simp [leTV, locsIn, encDigs, encTraces, encWant, encTrace, encReads, encRead, encMades, encMade, sched] <;> try omega
  · simp
  · rintro ⟨k, tk, ver⟩ hk KL hN hE
    simp only at hk hN
    refine vc_sound (cf := cf0) laid mixed _ _ _ (by kernel_rfl) ?_
    by_cases hlt : k < 64
    · have hlt' : (k : Int) < 64 := by omega
      by_cases h16 : k < 16
      · have h16' : (k : Int) < 16 := by omega
        obtain ⟨b0, e0⟩ : ∃ x, b.getD (4*k) 0 = x := ⟨_, rfl⟩
        obtain ⟨b1, e1⟩ : ∃ x, b.getD (4*k+1) 0 = x := ⟨_, rfl⟩
        obtain ⟨b2, e2⟩ : ∃ x, b.getD (4*k+2) 0 = x := ⟨_, rfl⟩
        obtain ⟨b3, e3⟩ : ∃ x, b.getD (4*k+3) 0 = x := ⟨_, rfl⟩
        have hwa : wordAt b k = wordOf b0 b1 b2 b3 := by simp only [wordAt, e0, e1, e2, e3]
        have h4 : List.drop (4*k) (List.take (4*k+4) (b.map fun b => AV.i .u8 b.toNat)) = [b0, b1, b2, b3].map fun b => AV.i .u8 b.toNat := by
          rw [← List.map_take, ← List.map_drop, four (by omega), e0, e1, e2, e3]
        (simp (maxSteps := 2000000) (disch := first | omega | assumption) [i64_in, tnS, Int.toNat_add, Int.toNat_mul, List.getElem?_cons_zero, List.getElem_cons_zero, appendV, hlt', h16', hbe, h4])
        (repeat ((with_reducible refine And.intro ?_ ?_); (· first | omega | (show barB _ _ = true; kernel_rfl) | (show rdJ _ _ _ _ _ = true; kernel_rfl) | (show tailB _ _ _ = true; kernel_rfl) | (show sftB _ _ _ = true; kernel_rfl))))
        refine callV_pc (rword_ok b0 b1 b2 b3) rfl rfl (by simp) (by simp [argLe, encBs, TV.er, AV.er, AV.ers]) ?_
        (simp (maxSteps := 2000000) (disch := first | omega | assumption) [i64_in, tnS, Int.toNat_add, Int.toNat_mul, List.getElem?_cons_zero, List.getElem_cons_zero, appendV])
        (repeat ((with_reducible refine And.intro ?_ ?_); (· first | omega | (show barB _ _ = true; kernel_rfl) | (show rdJ _ _ _ _ _ = true; kernel_rfl) | (show tailB _ _ _ = true; kernel_rfl) | (show sftB _ _ _ = true; kernel_rfl))))
        refine hN _ (k+1, 36, upd (upd ver tk (ver tk + 1)) 36 (ver 36 + 1)) ?_ (by simp; omega) (by simp; omega)
        refine Le.of ?_ ?_ ?_ ?_ ?_ <;> simp [leTV, locsIn, encDigs, encTraces, encWant, encTrace, encReads, encRead, encMades, encMade, sched, h16, hwa, hbe] <;> try omega
      · obtain ⟨m, rfl⟩ : ∃ m, k = m + 16 := ⟨k - 16, by omega⟩
        obtain ⟨x16, h16e⟩ : ∃ x, (sched b (m+16))[m]? = some x := ⟨_, List.getElem?_eq_getElem (by simp)⟩
        obtain ⟨x15, h15e⟩ : ∃ x, (sched b (m+16))[m+1]? = some x := ⟨_, List.getElem?_eq_getElem (by simp)⟩
        obtain ⟨x7, h7e⟩ : ∃ x, (sched b (m+16))[m+9]? = some x := ⟨_, List.getElem?_eq_getElem (by simp)⟩
        obtain ⟨x2, h2e⟩ : ∃ x, (sched b (m+16))[m+14]? = some x := ⟨_, List.getElem?_eq_getElem (by simp)⟩
        have hm' : (m : Int) + 16 < 64 := by omega
        have hn' : ¬ (m : Int) + 16 < 16 := by omega
        have hW : sched b (m+16+1) = sched b (m+16) ++ [nextW (sched b (m+16))] := by rw [sched, if_neg (by omega)]
        have hWl := sched_len b (m+16)
        generalize sched b (m + 16) = W at *
        have g16 : ∀ h : m < W.length, W[m] = x16 := fun h => by have := h16e; rw [List.getElem?_eq_getElem h] at this; simpa using this
        have g15 : ∀ h : m+1 < W.length, W[m+1] = x15 := fun h => by have := h15e; rw [List.getElem?_eq_getElem h] at this; simpa using this
        have g7 : ∀ h : m+9 < W.length, W[m+9] = x7 := fun h => by have := h7e; rw [List.getElem?_eq_getElem h] at this; simpa using this
        have g2 : ∀ h : m+14 < W.length, W[m+14] = x2 := fun h => by have := h2e; rw [List.getElem?_eq_getElem h] at this; simpa using this
        have hX : nextW W = x16 + lo x15 + x7 + hi x2 := by simp [nextW, hWl, g16, g15, g7, g2]
        (simp (maxSteps := 2000000) (disch := first | omega | assumption) [i64_in, tnS, Int.toNat_add, Int.toNat_mul, List.getElem?_cons_zero, List.getElem_cons_zero, appendV, hm', hn', g16, g15, g7, g2])
        (repeat ((with_reducible refine And.intro ?_ ?_); (· first | omega | (show barB _ _ = true; kernel_rfl) | (show rdJ _ _ _ _ _ = true; kernel_rfl) | (show tailB _ _ _ = true; kernel_rfl) | (show sftB _ _ _ = true; kernel_rfl))))
        refine callD_pc (rturn_ok x15 7 (by decide) (by decide)) rfl rfl (by simp) (by simp [argLe, coC, TV.er, AV.er]) ?_; (simp (maxSteps := 2000000) (disch := first | omega | assumption) [i64_in, tnS, Int.toNat_add, Int.toNat_mul, List.getElem?_cons_zero, List.getElem_cons_zero, wadd, wor, wxor, wand, wnot, wshr, appendV, -BitVec.toNat_or, -BitVec.toNat_xor, -BitVec.toNat_and])
        (repeat ((with_reducible refine And.intro ?_ ?_); (· first | omega | (show barB _ _ = true; kernel_rfl) | (show rdJ _ _ _ _ _ = true; kernel_rfl) | (show tailB _ _ _ = true; kernel_rfl) | (show sftB _ _ _ = true; kernel_rfl))))
        refine callD_pc (rturn_ok x15 18 (by decide) (by decide)) rfl rfl (by simp) (by simp [argLe, coC, TV.er, AV.er]) ?_; (simp (maxSteps := 2000000) (disch := first | omega | assumption) [i64_in, tnS, Int.toNat_add, Int.toNat_mul, List.getElem?_cons_zero, List.getElem_cons_zero, wadd, wor, wxor, wand, wnot, wshr, appendV, -BitVec.toNat_or, -BitVec.toNat_xor, -BitVec.toNat_and, g7])
        (repeat ((with_reducible refine And.intro ?_ ?_); (· first | omega | (show barB _ _ = true; kernel_rfl) | (show rdJ _ _ _ _ _ = true; kernel_rfl) | (show tailB _ _ _ = true; kernel_rfl) | (show sftB _ _ _ = true; kernel_rfl))))
        refine callD_pc (rturn_ok x2 17 (by decide) (by decide)) rfl rfl (by simp) (by simp [argLe, coC, TV.er, AV.er]) ?_; (simp (maxSteps := 2000000) (disch := first | omega | assumption) [i64_in, tnS, Int.toNat_add, Int.toNat_mul, List.getElem?_cons_zero, List.getElem_cons_zero, wadd, wor, wxor, wand, wnot, wshr, appendV, -BitVec.toNat_or, -BitVec.toNat_xor, -BitVec.toNat_and])
        (repeat ((with_reducible refine And.intro ?_ ?_); (· first | omega | (show barB _ _ = true; kernel_rfl) | (show rdJ _ _ _ _ _ = true; kernel_rfl) | (show tailB _ _ _ = true; kernel_rfl) | (show sftB _ _ _ = true; kernel_rfl))))
        refine callD_pc (rturn_ok x2 19 (by decide) (by decide)) rfl rfl (by simp) (by simp [argLe, coC, TV.er, AV.er]) ?_; (simp (maxSteps := 2000000) (disch := first | omega | assumption) [i64_in, tnS, Int.toNat_add, Int.toNat_mul, List.getElem?_cons_zero, List.getElem_cons_zero, wadd, wor, wxor, wand, wnot, wshr, appendV, -BitVec.toNat_or, -BitVec.toNat_xor, -BitVec.toNat_and])
        (repeat ((with_reducible refine And.intro ?_ ?_); (· first | omega | (show barB _ _ = true; kernel_rfl) | (show rdJ _ _ _ _ _ = true; kernel_rfl) | (show tailB _ _ _ = true; kernel_rfl) | (show sftB _ _ _ = true; kernel_rfl))))
        refine hN _ (m+17, 78, upd (upd ver tk (ver tk + 1)) 78 (ver 78 + 1)) ?_ (by simp; omega) (by simp; omega)
        refine Le.of ?_ ?_ ?_ ?_ ?_ <;> simp [leTV, locsIn, encDigs, encTraces, encWant, encTrace, encReads, encRead, encMades, encMade, hW, hX, lo, hi] <;> try omega
    · obtain rfl : k = 64 := by omega
      (simp (maxSteps := 2000000) (disch := first | omega | assumption) [i64_in, tnS, Int.toNat_add, Int.toNat_mul, List.getElem?_cons_zero, List.getElem_cons_zero])
      refine hE _ _ (by simp) ?_
      (simp (maxSteps := 2000000) (disch := first | omega | assumption) [i64_in, tnS, Int.toNat_add, Int.toNat_mul, List.getElem?_cons_zero, List.getElem_cons_zero, appendV, hh])
      refine AT.loop' (α := Nat × Nat × (Nat → Nat)) (fun k => St.of [(0, .av (.slice 129) (.sl .no (h.map encW))), (5, .av (.slice 129) (.sl .no (k64.map encW))), (6, .av (.slice 129) (.sl .no ((sched b 64).map encW))), (10, .av (.slice 129) (.sl (.own k.2.1 (k.2.2 k.2.1)) ((rnd b h k.1).map encW))), (11, .av (.int .i64) (.i .i64 k.1))] [] k.2.2 [])
        (fun k => k.1 ≤ 64) (fun k => 64 - k.1) (0, 81, upd ver 81 (ver 81 + 1)) ?_ ?_ ?_
      · refine Le.of ?_ ?_ ?_ ?_ ?_ <;> simp [leTV, locsIn, encDigs, encTraces, encWant, encTrace, encReads, encRead, encMades, encMade, rnd] <;> try omega
      · simp
      · rintro ⟨k, tl, ver2⟩ hk KL2 hN2 hE2
        simp only at hk hN2
        refine vc_sound (cf := cf0) laid mixed _ _ _ (by kernel_rfl) ?_
        by_cases hlt : k < 64
        · have hlt' : (k : Int) < 64 := by omega
          obtain ⟨v0, v1, v2, v3, v4, v5, v6, v7, hv⟩ := eight (rnd_len (b := b) hh k)
          obtain ⟨kk, hkk⟩ : ∃ x, k64[k]? = some x := ⟨_, List.getElem?_eq_getElem (by simp [k64]; omega)⟩
          obtain ⟨ww, hww⟩ : ∃ x, (sched b 64)[k]? = some x := ⟨_, List.getElem?_eq_getElem (by simp; omega)⟩
          have hR : rnd b h (k+1) = roundW [v0, v1, v2, v3, v4, v5, v6, v7] kk ww := by rw [rnd, hv, hkk, hww]; rfl
          have hkl : k64.length = 64 := rfl
          have hwl := sched_len b 64
          generalize k64 = KK at *
          generalize sched b 64 = W at *
          have gk : ∀ h : k < KK.length, KK[k] = kk := fun h => by rw [List.getElem?_eq_getElem h] at hkk; simpa using hkk
          have gw : ∀ h : k < W.length, W[k] = ww := fun h => by rw [List.getElem?_eq_getElem h] at hww; simpa using hww
          (simp (maxSteps := 2000000) (disch := first | omega | assumption) [i64_in, tnS, Int.toNat_add, Int.toNat_mul, List.getElem?_cons_zero, List.getElem_cons_zero, hlt', hv])
          refine callD_pc (rturn_ok v4 6 (by decide) (by decide)) rfl rfl (by simp) (by simp [argLe, coC, TV.er, AV.er]) ?_; (simp (maxSteps := 2000000) (disch := first | omega | assumption) [i64_in, tnS, Int.toNat_add, Int.toNat_mul, List.getElem?_cons_zero, List.getElem_cons_zero, wadd, wor, wxor, wand, wnot, wshr, appendV, -BitVec.toNat_or, -BitVec.toNat_xor, -BitVec.toNat_and])
          refine callD_pc (rturn_ok v4 11 (by decide) (by decide)) rfl rfl (by simp) (by simp [argLe, coC, TV.er, AV.er]) ?_; (simp (maxSteps := 2000000) (disch := first | omega | assumption) [i64_in, tnS, Int.toNat_add, Int.toNat_mul, List.getElem?_cons_zero, List.getElem_cons_zero, wadd, wor, wxor, wand, wnot, wshr, appendV, -BitVec.toNat_or, -BitVec.toNat_xor, -BitVec.toNat_and])
          refine callD_pc (rturn_ok v4 25 (by decide) (by decide)) rfl rfl (by simp) (by simp [argLe, coC, TV.er, AV.er]) ?_; (simp (maxSteps := 2000000) (disch := first | omega | assumption) [i64_in, tnS, Int.toNat_add, Int.toNat_mul, List.getElem?_cons_zero, List.getElem_cons_zero, wadd, wor, wxor, wand, wnot, wshr, appendV, -BitVec.toNat_or, -BitVec.toNat_xor, -BitVec.toNat_and, gk, gw])
          (repeat ((with_reducible refine And.intro ?_ ?_); (· first | omega | (show barB _ _ = true; kernel_rfl) | (show rdJ _ _ _ _ _ = true; kernel_rfl) | (show tailB _ _ _ = true; kernel_rfl) | (show sftB _ _ _ = true; kernel_rfl))))
          refine callD_pc (rturn_ok v0 2 (by decide) (by decide)) rfl rfl (by simp) (by simp [argLe, coC, TV.er, AV.er]) ?_; (simp (maxSteps := 2000000) (disch := first | omega | assumption) [i64_in, tnS, Int.toNat_add, Int.toNat_mul, List.getElem?_cons_zero, List.getElem_cons_zero, wadd, wor, wxor, wand, wnot, wshr, appendV, -BitVec.toNat_or, -BitVec.toNat_xor, -BitVec.toNat_and])
          refine callD_pc (rturn_ok v0 13 (by decide) (by decide)) rfl rfl (by simp) (by simp [argLe, coC, TV.er, AV.er]) ?_; (simp (maxSteps := 2000000) (disch := first | omega | assumption) [i64_in, tnS, Int.toNat_add, Int.toNat_mul, List.getElem?_cons_zero, List.getElem_cons_zero, wadd, wor, wxor, wand, wnot, wshr, appendV, -BitVec.toNat_or, -BitVec.toNat_xor, -BitVec.toNat_and])
          refine callD_pc (rturn_ok v0 22 (by decide) (by decide)) rfl rfl (by simp) (by simp [argLe, coC, TV.er, AV.er]) ?_; (simp (maxSteps := 2000000) (disch := first | omega | assumption) [i64_in, tnS, Int.toNat_add, Int.toNat_mul, List.getElem?_cons_zero, List.getElem_cons_zero, wadd, wor, wxor, wand, wnot, wshr, appendV, -BitVec.toNat_or, -BitVec.toNat_xor, -BitVec.toNat_and])
          (repeat ((with_reducible refine And.intro ?_ ?_); (· first | omega | (show barB _ _ = true; kernel_rfl) | (show rdJ _ _ _ _ _ = true; kernel_rfl) | (show tailB _ _ _ = true; kernel_rfl) | (show sftB _ _ _ = true; kernel_rfl))))
          refine hN2 _ (k+1, 10, ver2) ?_ (by simp; omega) (by simp; omega)
          refine Le.of ?_ ?_ ?_ ?_ ?_ <;> simp [leTV, locsIn, encDigs, encTraces, encWant, encTrace, encReads, encRead, encMades, encMade, hR, roundW] <;> try omega
        · obtain rfl : k = 64 := by omega
          (simp (maxSteps := 2000000) (disch := first | omega | assumption) [i64_in, tnS, Int.toNat_add, Int.toNat_mul, List.getElem?_cons_zero, List.getElem_cons_zero])
          refine hE2 _ _ (by simp) ?_
          (simp (maxSteps := 2000000) (disch := first | omega | assumption) [i64_in, tnS, Int.toNat_add, Int.toNat_mul, List.getElem?_cons_zero, List.getElem_cons_zero, appendV, hh])
          refine AT.loop' (α := Nat × Nat × (Nat → Nat)) (fun k => St.of [(0, .av (.slice 129) (.sl .no (h.map encW))), (10, .av (.slice 129) (.sl .no ((rnd b h 64).map encW))), (16, .av (.slice 129) (.sl (.own k.2.1 (k.2.2 k.2.1)) (((compress h b).take k.1).map encW))), (17, .av (.int .i64) (.i .i64 k.1))] [] k.2.2 [])
            (fun k => k.1 ≤ 8) (fun k => 8 - k.1) (0, 16, ver2) ?_ ?_ ?_
          · refine Le.of ?_ ?_ ?_ ?_ ?_ <;> simp [leTV, locsIn, encDigs, encTraces, encWant, encTrace, encReads, encRead, encMades, encMade] <;> try omega
          · simp
          · rintro ⟨k, tm, ver3⟩ hk KL3 hN3 hE3
            simp only at hk hN3
            have hcl := compress_len (b := b) hh
            refine vc_sound (cf := cf0) laid mixed _ _ _ (by kernel_rfl) ?_
            by_cases hlt : k < 8
            · have hlt' : (k : Int) < 8 := by omega
              obtain ⟨x, hx⟩ : ∃ x, h[k]? = some x := ⟨_, List.getElem?_eq_getElem (by omega)⟩
              have hrl := rnd_len (b := b) hh 64
              obtain ⟨y, hy⟩ : ∃ x, (rnd b h 64)[k]? = some x := ⟨_, List.getElem?_eq_getElem (by omega)⟩
              have hC : (compress h b).take (k+1) = (compress h b).take k ++ [x + y] := by
                rw [List.take_add_one]
                congr 1
                simp [compress, List.getElem?_zipWith, hx, hy]
              have hC' : List.take (k+1) (List.map encW (compress h b)) = List.take k (List.map encW (compress h b)) ++ [encW (x + y)] := by
                rw [← List.map_take, hC, List.map_append, List.map_take]; rfl
              have gx : ∀ g : k < h.length, h[k] = x := fun g => by rw [List.getElem?_eq_getElem g] at hx; simpa using hx
              generalize rnd b h 64 = R at *
              have gy : ∀ g : k < R.length, R[k] = y := fun g => by rw [List.getElem?_eq_getElem g] at hy; simpa using hy
              (simp (maxSteps := 2000000) (disch := first | omega | assumption) [i64_in, tnS, Int.toNat_add, Int.toNat_mul, List.getElem?_cons_zero, List.getElem_cons_zero, hlt', gx, gy, wadd, appendV, hcl])
              (repeat ((with_reducible refine And.intro ?_ ?_); (· first | omega | (show barB _ _ = true; kernel_rfl) | (show rdJ _ _ _ _ _ = true; kernel_rfl) | (show tailB _ _ _ = true; kernel_rfl) | (show sftB _ _ _ = true; kernel_rfl))))
              refine hN3 _ (k+1, 194, upd (upd ver3 tm (ver3 tm + 1)) 194 (ver3 194 + 1)) ?_ (by simp; omega) (by simp; omega)
              refine Le.of ?_ ?_ ?_ ?_ ?_ <;> simp [leTV, locsIn, encDigs, encTraces, encWant, encTrace, encReads, encRead, encMades, encMade, hC'] <;> try omega
            · obtain rfl : k = 8 := by omega
              (simp (maxSteps := 2000000) (disch := first | omega | assumption) [i64_in, tnS, Int.toNat_add, Int.toNat_mul, List.getElem?_cons_zero, List.getElem_cons_zero])
              refine hE3 _ _ (by simp) ?_
              (simp (maxSteps := 2000000) (disch := first | omega | assumption) [i64_in, tnS, Int.toNat_add, Int.toNat_mul, List.getElem?_cons_zero, List.getElem_cons_zero, Tryd.f87])
              rw [List.take_of_length_le (by simp [hcl])]
              simp [AV.ers_eq, Function.comp_def, AV.er]
end Go.Proofs.YtmkpbigaafemnaaDoor
