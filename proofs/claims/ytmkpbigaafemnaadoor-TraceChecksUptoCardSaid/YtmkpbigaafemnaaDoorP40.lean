/- Rows of texts taken apart; numbers of texts: plain. No condition beyond each theorem's own. -/
import Derived.Test.YtmkpbigaafemnaaDoorP25
set_option linter.unusedSimpArgs false
set_option linter.unusedVariables false
set_option linter.unusedSectionVars false
set_option maxRecDepth 100000
/-! Rows of texts taken apart; numbers of texts: plain. -/
namespace Go.Proofs.YtmkpbigaafemnaaDoor
open Go Go.Ab
open Classical
attribute [local simp] vc_skip vc_label vc_region vc_drawn vc_seq vc_cond vc_block vc_exit vc_goto vc_ret vc_loop vc_scope vcOps_nil vcOps_cons vcPs_nil vcPs_cons vcDs_nil vcDs_cons vcD impB mkd wkOf isCallV rdOK_eq rdO_nil rdO_tmp rdO_const rdO_global rdO_func rdL_nil rdL_cons rdT_av rdT_cst rdT_pel rdT_tup rdT_junk rdT_loc St.app Op.operands Call.operands vcG_eq iteP wkOf isCallV vcOp putK_eq pureV ev co coC asI asB asS isNil nkOf derefV fieldAddrV indexAddrV indexV lowV boundsV sliceV pickV_eq unV convV convB bytesOf capOf lenV minV withSrc slice3V lookupV mapOf mfind mput scalT mapUpdV makeSliceV appendM appendN growM growOK zM binI isConst binV St.put upd KSeq_n KSeq_x KSeq_g KSeq_r KBlock_n KBlock_x KBlock_g KBlock_r KScope_n KScope_x KScope_r KRet_n KRet_r resL retTV TV.er AV.er AV.ers AV.erk AV.erks Tok.k Heap.er_nil Heap.er_cons Heap.er_app HObj.er_var HObj.er_map Heap.keys_nil Heap.keys_cons Heap.keys_app hget hset subT getP setP_nil setP_one setP_two setPo_some storeV buildV buildL partsOf capTV argOK entry St.of lk_nil lk_cons leLoc siterOf_siter gB_undef gB_av gB_cst undef isNE_tmp isSlT nslD nslDs mslOf mstrV copyV copyK unsV ustrV hdel dataV sameP mtbD isSlN slNilV vcDo_nil vcDo_cons isLt sft sftD softV

inductive HeadR
  | ok (n : Nat) (rest : List UInt8)
  | err (e : Int)
abbrev digB (c : UInt8) : Bool := decide (48 ≤ c.toNat) && decide (c.toNat ≤ 57)
/-- how many bytes the first text has, behind some digits -/
def headV : Nat → Nat → List UInt8 → HeadR
  | _, _, [] => .err 4
  | k, n, c :: r => if c = 58 ∧ 0 < k then .ok n r else if digB c = false ∨ k = 9 ∨ (0 < k ∧ n = 0) then .err 3 else headV (k + 1) (10 * n + (c.toNat - 48)) r
def textsA : Nat → List (List UInt8) → List UInt8 → List (List UInt8) × Int
  | 0, out, _ => (out, 0)
  | f + 1, out, b => if b = [] then (out, 0) else match headV 0 0 b with
    | .err e => ([], e)
    | .ok n rest => if rest.length < n then ([], 4) else textsA f (out ++ [rest.take n]) (rest.drop n)
def textsV (b : List UInt8) : List (List UInt8) × Int := textsA (b.length + 1) [] b
theorem headV_len : ∀ {b : List UInt8} {k n m : Nat} {rest : List UInt8}, headV k n b = .ok m rest → rest.length < b.length
  | [], _, _, _, _, h => by simp [headV] at h
  | c :: r, k, n, m, rest, h => by
    unfold headV at h
    split at h
    · cases h; simp
    · split at h
      · cases h
      · have := headV_len h; simp; omega
theorem headV_lt : ∀ {b : List UInt8} {k n m : Nat} {rest : List UInt8}, k ≤ 9 → n < 10 ^ k → headV k n b = .ok m rest → m < 1000000000
  | [], _, _, _, _, _, _, h => by simp [headV] at h
  | c :: r, k, n, m, rest, hk, hn, h => by
    unfold headV at h
    split at h
    · cases h
      exact Nat.lt_of_lt_of_le hn (Nat.pow_le_pow_right (by decide) hk)
    · split at h
      · cases h
      · rename_i h2
        simp only [not_or, digB, Bool.and_eq_false_iff, decide_eq_false_iff_not, not_not] at h2
        exact headV_lt (k := k + 1) (by omega) (by rw [Nat.pow_succ]; omega) h
/-- the digits ahead of a colon are the number's own -/
theorem headV_own : ∀ {b : List UInt8} {k n m : Nat} {rest : List UInt8}, (0 < k → ∃ ds : List UInt8, ds.length = k ∧ ds = Lib.decDigits n) → (k = 0 → n = 0) → headV k n b = .ok m rest →
    (if k = 0 then [] else Lib.decDigits n) ++ b = Lib.decDigits m ++ 58 :: rest
  | [], _, _, _, _, _, _, h => by simp [headV] at h
  | c :: r, k, n, m, rest, h1, h0, h => by
    unfold headV at h
    split at h
    · rename_i hc
      cases h
      rw [if_neg (by omega), hc.1]
    · split at h
      · cases h
      · rename_i h2
        simp only [not_or, digB, Bool.and_eq_false_iff, decide_eq_false_iff_not, not_not] at h2
        obtain ⟨h3, h4, h5⟩ := h2
        have hlast : Lib.decDigits (10 * n + (c.toNat - 48)) = (if k = 0 then [] else Lib.decDigits n) ++ [c] := by
          have hcc : UInt8.ofNat (48 + (c.toNat - 48)) = c := by
            rw [show 48 + (c.toNat - 48) = c.toNat by omega]; simp
          by_cases hk : k = 0
          · rw [if_pos hk, h0 hk, Lib.decDigits, dif_pos (by omega)]
            simp only [Nat.mul_zero, Nat.zero_add, List.nil_append, hcc]
          · have hn : n ≠ 0 := fun e => h5 ⟨by omega, e⟩
            rw [if_neg hk, Lib.decDigits, dif_neg (by omega)]
            rw [show (10 * n + (c.toNat - 48)) / 10 = n by omega, show (10 * n + (c.toNat - 48)) % 10 = c.toNat - 48 by omega, hcc]
        have ih := headV_own (k := k + 1) (n := 10 * n + (c.toNat - 48)) (fun _ => ⟨_, by
            rw [hlast, List.length_append]
            by_cases hk : k = 0
            · rw [if_pos hk, hk]; rfl
            · rw [if_neg hk]
              obtain ⟨ds, d1, d2⟩ := h1 (by omega)
              rw [← d2, d1]; rfl, rfl⟩) (by omega) h
        rw [if_neg (by omega), hlast] at ih
        rw [← ih]; simp
theorem rowV_head {b rest : List UInt8} {n : Nat} (h : headV 0 0 b = .ok n rest) : b = Lib.decDigits n ++ 58 :: rest := by
  have := headV_own (by omega) (by simp) h
  simpa using this
theorem textsA_row : ∀ {f : Nat} {out : List (List UInt8)} {b : List UInt8} {l : List (List UInt8)}, b.length < f → textsA f out b = (l, 0) → rowV l = rowV out ++ b
  | 0, _, _, _, h, _ => by omega
  | f + 1, out, b, l, h, e => by
    unfold textsA at e
    split at e
    · rename_i hb; simp only [Prod.mk.injEq, and_true] at e; rw [hb, e]; simp
    · cases hh : headV 0 0 b with
      | err er =>
        rw [hh] at e
        simp only [Prod.mk.injEq] at e
        obtain ⟨rfl, rfl⟩ := e
        exfalso
        have : ∀ {b : List UInt8} {k n : Nat}, headV k n b ≠ .err 0 := by
          intro b
          induction b with
          | nil => intro k n h; simp [headV] at h
          | cons c r ih =>
            intro k n h
            unfold headV at h
            split at h
            · cases h
            · split at h
              · simp at h
              · exact ih h
        exact this hh
      | ok n rest =>
        rw [hh] at e
        simp only at e
        have hl := headV_len hh
        split at e
        · simp at e
        · rename_i hn
          have ih := textsA_row (f := f) (by simp; omega) e
          rw [ih, rowV_app, rowV_head hh]
          have htl : (rest.take n).length = n := by rw [List.length_take]; omega
          simp only [rowV, htl, itoa_nat, List.append_nil, List.append_assoc, List.cons_append, List.take_append_drop]
theorem texts_row {b : List UInt8} {l : List (List UInt8)} (h : textsV b = (l, 0)) : rowV l = b := by
  have := textsA_row (f := b.length + 1) (by omega) h
  simpa [rowV] using this
/-! ### numbers -/
noncomputable def intV (c : List UInt8) : Option Int := match Lib.parseIntB 64 c with
  | .ok v => if Lib.itoa v = c then some v else none
  | _ => none
def valA (a : Nat) (l : List UInt8) : Nat := l.foldl (fun a b => a * 10 + (b.toNat - 48)) a
theorem valA_le : ∀ (l : List UInt8) (a : Nat), a ≤ valA a l
  | [], a => Nat.le_refl _
  | c :: l, a => Nat.le_trans (by omega) (valA_le l (a * 10 + (c.toNat - 48)))
theorem parseUintM_val (M : Nat) (hM : M ≤ 18446744073709551615) : ∀ (l : List UInt8) (a : Nat), (∀ c ∈ l, digB c = true) → valA a l ≤ M → Lib.parseUintM M a l = .ok (valA a l)
  | [], a, _, _ => rfl
  | c :: l, a, h, hv => by
    have h1 := h c (by simp)
    simp only [digB, Bool.and_eq_true, decide_eq_true_eq] at h1
    have h2 : a * 10 + (c.toNat - 48) ≤ valA a (c :: l) := valA_le l _
    unfold Lib.parseUintM
    rw [if_pos h1, if_neg (by omega), if_neg (by omega)]
    exact parseUintM_val M hM l _ (fun x hx => h x (by simp [hx])) hv
theorem decDigits_dig (u : Nat) : ∀ c ∈ Lib.decDigits u, digB c = true := by
  induction u using Nat.strongRecOn with
  | ind u ih =>
    rw [Lib.decDigits]
    have key : ∀ d : Nat, d < 10 → digB (UInt8.ofNat (48 + d)) = true := fun d hd => by
      have : (UInt8.ofNat (48 + d)).toNat = 48 + d := by simp; omega
      simp only [digB, this, Bool.and_eq_true, decide_eq_true_eq]; omega
    split
    · rename_i h
      intro b hb
      rw [List.mem_singleton] at hb
      subst hb
      exact key u h
    · rename_i h
      intro b hb
      rcases List.mem_append.1 hb with hb | hb
      · exact ih (u / 10) (by omega) b hb
      · rw [List.mem_singleton] at hb
        subst hb
        exact key (u % 10) (by omega)
theorem decDigits_nil (u : Nat) : Lib.decDigits u ≠ [] := by
  rw [Lib.decDigits]; split <;> simp
theorem parse_itoa (v : Int) (h0 : -9223372036854775808 ≤ v) (h1 : v ≤ 9223372036854775807) : Lib.parseIntB 64 (Lib.itoa v) = .ok v := by
  have key : ∀ u : Nat, u ≤ 9223372036854775808 → Lib.parseUintB 64 (Lib.decDigits u) = .ok u := fun u hu => by
    have hv : valA 0 (Lib.decDigits u) = u := valD_decDigits u
    unfold Lib.parseUintB
    rw [if_neg (decDigits_nil u)]
    have := parseUintM_val (2 ^ 64 - 1) (by decide) (Lib.decDigits u) 0 (decDigits_dig u) (by rw [hv]; omega)
    rw [hv] at this; exact this
  by_cases hv : v < 0
  · obtain ⟨u, rfl⟩ : ∃ u : Nat, v = -(u : Int) := ⟨v.natAbs, by omega⟩
    have e : Lib.itoa (-(u : Int)) = 45 :: Lib.decDigits u := by unfold Lib.itoa; rw [if_pos hv]; simp
    rw [e, Lib.parseIntB_minus, key u (by omega)]
    simp only [Lib.signedC]
    rw [if_neg (by omega)]
  · obtain ⟨u, rfl⟩ : ∃ u : Nat, v = (u : Int) := ⟨v.toNat, by omega⟩
    have e : Lib.itoa (u : Int) = Lib.decDigits u := itoa_nat u
    rw [e]
    have hd := decDigits_dig u
    cases hc : Lib.decDigits u with
    | nil => exact absurd hc (decDigits_nil u)
    | cons c r =>
      have h2 := hd c (by rw [hc]; simp)
      simp only [digB, Bool.and_eq_true, decide_eq_true_eq] at h2
      rw [Lib.parseIntB_plain 64 c r (by omega) (by omega), ← hc, key u (by omega)]
      simp only [Lib.signlessC]
      rw [if_neg (by omega)]
theorem intV_itoa {v : Int} (h0 : -9223372036854775808 ≤ v) (h1 : v ≤ 9223372036854775807) : intV (Lib.itoa v) = some v := by
  unfold intV
  rw [parse_itoa v h0 h1]
  simp
theorem parseUintM_le2 (M : Nat) : ∀ (l : List UInt8) (a u : Nat), a ≤ M → Lib.parseUintM M a l = .ok u → u ≤ M := Lib.parseUintM_le M
theorem intV_some {c : List UInt8} {v : Int} (h : intV c = some v) : Lib.parseIntB 64 c = .ok v ∧ Lib.itoa v = c ∧ -9223372036854775808 ≤ v ∧ v ≤ 9223372036854775807 := by
  unfold intV at h
  split at h
  · rename_i w hw
    split at h
    · rename_i hi
      cases h
      refine ⟨hw, hi, ?_⟩
      unfold Lib.parseIntB at hw
      split at hw
      · cases hw
      · rename_i ch r
        simp only at hw
        split at hw
        · cases hw
        · cases hw
        · split at hw
          · cases hw
          · split at hw
            · cases hw
            · rename_i h1 h2
              cases hw
              split
              · rename_i h3
                have : ¬ 2 ^ (64 - 1) < _ := fun h => h2 ⟨h3, h⟩
                simp at this
                omega
              · rename_i h3
                have : ¬ 2 ^ (64 - 1) ≤ _ := fun h => h1 ⟨h3, h⟩
                simp at this
                omega
    · cases h
  · cases h
end Go.Proofs.YtmkpbigaafemnaaDoor
