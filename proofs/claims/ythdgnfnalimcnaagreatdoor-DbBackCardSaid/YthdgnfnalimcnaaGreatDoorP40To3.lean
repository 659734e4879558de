/- Rows of texts taken apart; numbers of texts: plain. No condition beyond each theorem's own. -/
import Derived.Test.YthdgnfnalimcnaaGreatDoorP25ToPW
import Derived.Lib.ParseIntBCases
import Derived.Test.YthdgnfnalimcnaaGreatDoorP20
import Derived.Test.YthdgnfnalimcnaaGreatDoorP17ToPD
set_option linter.unusedSimpArgs false
set_option linter.unusedVariables false
set_option linter.unusedSectionVars false
section
set_option maxRecDepth 100000
/-! Rows of texts taken apart; numbers of texts: plain. -/
namespace Go.Proofs.YthdgnfnalimcnaaGreatDoor
open Go Go.Ab
open Classical
variable [Sel] [SelPow]

inductive HeadR
  | ok (n : Nat) (rest : List UInt8)
  | err (e : Int)
abbrev digB (c : UInt8) : Bool := decide (48 ≤ c.toNat) && decide (c.toNat ≤ 57)
def headV : Nat → Nat → List UInt8 → HeadR
  | _, _, [] => .err 4
  | k, n, c :: r => if c = 58 ∧ 0 < k then .ok n r else if digB c = false ∨ k = 9 ∨ (0 < k ∧ n = 0) then .err 3 else headV (k + 1) (10 * n + (c.toNat - 48)) r
def textsA : Nat → List (List UInt8) → List UInt8 → List (List UInt8) × Int
  | 0, out, _ => (out, 0)
  | f + 1, out, b => if b = [] then (out, 0) else match headV 0 0 b with
    | .err e => ([], e)
    | .ok n rest => if rest.length < n then ([], 4) else textsA f (out ++ [rest.take n]) (rest.drop n)
def textsV (b : List UInt8) : List (List UInt8) × Int := textsA (b.length + 1) [] b
theorem headV_len : ∀ {b : List UInt8} {k n m : Nat} {rest : List UInt8}, headV k n b = .ok m rest → rest.length < b.length
  | [], _, _, _, _, h => by simp [headV] at h
  | c :: r, k, n, m, rest, h => by
    unfold headV at h
    split at h
    · cases h; simp
    · split at h
      · cases h
      · have := headV_len h; simp; omega
theorem headV_own : ∀ {b : List UInt8} {k n m : Nat} {rest : List UInt8}, (0 < k → ∃ ds : List UInt8, ds.length = k ∧ ds = Lib.decDigits n) → (k = 0 → n = 0) → headV k n b = .ok m rest →
    (if k = 0 then [] else Lib.decDigits n) ++ b = Lib.decDigits m ++ 58 :: rest
  | [], _, _, _, _, _, _, h => by simp [headV] at h
  | c :: r, k, n, m, rest, h1, h0, h => by
    unfold headV at h
    split at h
    · rename_i hc
      cases h
      rw [if_neg (by omega), hc.1]
    · split at h
      · cases h
      · rename_i h2
        simp only [not_or, digB, Bool.and_eq_false_iff, decide_eq_false_iff_not, not_not] at h2
        obtain ⟨h3, h4, h5⟩ := h2
        have hlast : Lib.decDigits (10 * n + (c.toNat - 48)) = (if k = 0 then [] else Lib.decDigits n) ++ [c] := by
          have hcc : UInt8.ofNat (48 + (c.toNat - 48)) = c := by
            rw [show 48 + (c.toNat - 48) = c.toNat by omega]; simp
          by_cases hk : k = 0
          · rw [if_pos hk, h0 hk, Lib.decDigits, dif_pos (by omega)]
            simp only [Nat.mul_zero, Nat.zero_add, List.nil_append, hcc]
          · have hn : n ≠ 0 := fun e => h5 ⟨by omega, e⟩
            rw [if_neg hk, Lib.decDigits, dif_neg (by omega)]
            rw [show (10 * n + (c.toNat - 48)) / 10 = n by omega, show (10 * n + (c.toNat - 48)) % 10 = c.toNat - 48 by omega, hcc]
        have ih := headV_own (k := k + 1) (n := 10 * n + (c.toNat - 48)) (fun _ => ⟨_, by
            rw [hlast, List.length_append]
            by_cases hk : k = 0
            · rw [if_pos hk, hk]; rfl
            · rw [if_neg hk]
              obtain ⟨ds, d1, d2⟩ := h1 (by omega)
              rw [← d2, d1]; rfl, rfl⟩) (by omega) h
        rw [if_neg (by omega), hlast] at ih
        rw [← ih]; simp
theorem rowV_head {b rest : List UInt8} {n : Nat} (h : headV 0 0 b = .ok n rest) : b = Lib.decDigits n ++ 58 :: rest := by
  have := headV_own (by omega) (by simp) h
  simpa using this
theorem textsA_row : ∀ {f : Nat} {out : List (List UInt8)} {b : List UInt8} {l : List (List UInt8)}, b.length < f → textsA f out b = (l, 0) → rowV l = rowV out ++ b
  | 0, _, _, _, h, _ => by omega
  | f + 1, out, b, l, h, e => by
    unfold textsA at e
    split at e
    · rename_i hb; simp only [Prod.mk.injEq, and_true] at e; rw [hb, e]; simp
    · cases hh : headV 0 0 b with
      | err er =>
        rw [hh] at e
        simp only [Prod.mk.injEq] at e
        obtain ⟨rfl, rfl⟩ := e
        exfalso
        have : ∀ {b : List UInt8} {k n : Nat}, headV k n b ≠ .err 0 := by
          intro b
          induction b with
          | nil => intro k n h; simp [headV] at h
          | cons c r ih =>
            intro k n h
            unfold headV at h
            split at h
            · cases h
            · split at h
              · simp at h
              · exact ih h
        exact this hh
      | ok n rest =>
        rw [hh] at e
        simp only at e
        have hl := headV_len hh
        split at e
        · simp at e
        · rename_i hn
          have ih := textsA_row (f := f) (by simp; omega) e
          rw [ih, rowV_app, rowV_head hh]
          have htl : (rest.take n).length = n := by rw [List.length_take]; omega
          simp only [rowV, htl, itoa_nat, List.append_nil, List.append_assoc, List.cons_append, List.take_append_drop]
theorem texts_row {b : List UInt8} {l : List (List UInt8)} (h : textsV b = (l, 0)) : rowV l = b := by
  have := textsA_row (f := b.length + 1) (by omega) h
  simpa [rowV] using this
/-! ### numbers -/
noncomputable def intV (c : List UInt8) : Option Int := match Lib.parseIntB 64 c with
  | .ok v => if Lib.itoa v = c then some v else none
  | _ => none
def valA (a : Nat) (l : List UInt8) : Nat := l.foldl (fun a b => a * 10 + (b.toNat - 48)) a
theorem valA_le : ∀ (l : List UInt8) (a : Nat), a ≤ valA a l
  | [], a => Nat.le_refl _
  | c :: l, a => Nat.le_trans (by omega) (valA_le l (a * 10 + (c.toNat - 48)))
theorem parseUintM_val (M : Nat) (hM : M ≤ 18446744073709551615) : ∀ (l : List UInt8) (a : Nat), (∀ c ∈ l, digB c = true) → valA a l ≤ M → Lib.parseUintM M a l = .ok (valA a l)
  | [], a, _, _ => rfl
  | c :: l, a, h, hv => by
    have h1 := h c (by simp)
    simp only [digB, Bool.and_eq_true, decide_eq_true_eq] at h1
    have h2 : a * 10 + (c.toNat - 48) ≤ valA a (c :: l) := valA_le l _
    unfold Lib.parseUintM
    rw [if_pos h1, if_neg (by omega), if_neg (by omega)]
    exact parseUintM_val M hM l _ (fun x hx => h x (by simp [hx])) hv
theorem decDigits_dig (u : Nat) : ∀ c ∈ Lib.decDigits u, digB c = true := by
  induction u using Nat.strongRecOn with
  | ind u ih =>
    rw [Lib.decDigits]
    have key : ∀ d : Nat, d < 10 → digB (UInt8.ofNat (48 + d)) = true := fun d hd => by
      have : (UInt8.ofNat (48 + d)).toNat = 48 + d := by simp; omega
      simp only [digB, this, Bool.and_eq_true, decide_eq_true_eq]; omega
    split
    · rename_i h
      intro b hb
      rw [List.mem_singleton] at hb
      subst hb
      exact key u h
    · rename_i h
      intro b hb
      rcases List.mem_append.1 hb with hb | hb
      · exact ih (u / 10) (by omega) b hb
      · rw [List.mem_singleton] at hb
        subst hb
        exact key (u % 10) (by omega)
theorem decDigits_nil (u : Nat) : Lib.decDigits u ≠ [] := by
  rw [Lib.decDigits]; split <;> simp
theorem parse_itoa (v : Int) (h0 : -9223372036854775808 ≤ v) (h1 : v ≤ 9223372036854775807) : Lib.parseIntB 64 (Lib.itoa v) = .ok v := by
  have key : ∀ u : Nat, u ≤ 9223372036854775808 → Lib.parseUintB 64 (Lib.decDigits u) = .ok u := fun u hu => by
    have hv : valA 0 (Lib.decDigits u) = u := valD_decDigits u
    unfold Lib.parseUintB
    rw [if_neg (decDigits_nil u)]
    have := parseUintM_val (2 ^ 64 - 1) (by decide) (Lib.decDigits u) 0 (decDigits_dig u) (by rw [hv]; omega)
    rw [hv] at this; exact this
  by_cases hv : v < 0
  · obtain ⟨u, rfl⟩ : ∃ u : Nat, v = -(u : Int) := ⟨v.natAbs, by omega⟩
    have e : Lib.itoa (-(u : Int)) = 45 :: Lib.decDigits u := by unfold Lib.itoa; rw [if_pos hv]; simp
    rw [e, Lib.parseIntB_minus, key u (by omega)]
    simp only [Lib.signedC]
    rw [if_neg (by omega)]
  · obtain ⟨u, rfl⟩ : ∃ u : Nat, v = (u : Int) := ⟨v.toNat, by omega⟩
    have e : Lib.itoa (u : Int) = Lib.decDigits u := itoa_nat u
    rw [e]
    have hd := decDigits_dig u
    cases hc : Lib.decDigits u with
    | nil => exact absurd hc (decDigits_nil u)
    | cons c r =>
      have h2 := hd c (by rw [hc]; simp)
      simp only [digB, Bool.and_eq_true, decide_eq_true_eq] at h2
      rw [Lib.parseIntB_plain 64 c r (by omega) (by omega), ← hc, key u (by omega)]
      simp only [Lib.signlessC]
      rw [if_neg (by omega)]
theorem intV_itoa {v : Int} (h0 : -9223372036854775808 ≤ v) (h1 : v ≤ 9223372036854775807) : intV (Lib.itoa v) = some v := by
  unfold intV
  rw [parse_itoa v h0 h1]
  simp
theorem intV_some {c : List UInt8} {v : Int} (h : intV c = some v) : Lib.parseIntB 64 c = .ok v ∧ Lib.itoa v = c ∧ -9223372036854775808 ≤ v ∧ v ≤ 9223372036854775807 := by
  unfold intV at h
  split at h
  · rename_i w hw
    split at h
    · rename_i hi
      cases h
      refine ⟨hw, hi, ?_⟩
      unfold Lib.parseIntB at hw
      split at hw
      · cases hw
      · rename_i ch r
        simp only at hw
        split at hw
        · cases hw
        · cases hw
        · split at hw
          · cases hw
          · split at hw
            · cases hw
            · rename_i h1 h2
              cases hw
              split
              · rename_i h3
                have : ¬ 2 ^ (64 - 1) < _ := fun h => h2 ⟨h3, h⟩
                simp at this
                omega
              · rename_i h3
                have : ¬ 2 ^ (64 - 1) ≤ _ := fun h => h1 ⟨h3, h⟩
                simp at this
                omega
    · cases h
  · cases h
end Go.Proofs.YthdgnfnalimcnaaGreatDoor
end
section
set_option maxRecDepth 100000
/-! Numbers of texts: the document. -/
namespace Go.Proofs.YthdgnfnalimcnaaGreatDoor
open Go Go.Ab
open Classical
variable [Sel] [SelPow]

@[simp] theorem fnok86 : fnOK Tryz.prog 86 = true := by kernel_rfl
@[simp] theorem isne86 : isNE Tryz.prog (.func 86) = false := isNE_func fnok86
@[simp] theorem fnok72 : fnOK Tryz.prog 72 = true := by kernel_rfl
@[simp] theorem isne72 : isNE Tryz.prog (.func 72) = false := isNE_func fnok72
theorem itoa_small {n : Int} (h0 : 0 ≤ n) (h1 : n < 10) : Lib.itoa n = [UInt8.ofNat (48 + n.toNat)] := by
  unfold Lib.itoa
  rw [if_neg (by omega), Lib.decDigits, dif_pos (by omega)]
theorem itoa_big {n : Int} (h : 10 ≤ n) : Lib.itoa n = Lib.itoa (n / 10) ++ Lib.itoa (n % 10) := by
  obtain ⟨u, rfl⟩ : ∃ u : Nat, n = (u : Int) := ⟨n.toNat, by omega⟩
  have e1 : ((u : Int) / 10) = ((u / 10 : Nat) : Int) := by omega
  have e2 : ((u : Int) % 10) = ((u % 10 : Nat) : Int) := by omega
  rw [e1, e2, itoa_nat, itoa_nat, itoa_nat, Lib.decDigits, dif_neg (by omega), Lib.decDigits.eq_1 (u % 10), dif_pos (by omega)]
theorem itoa_neg {n : Int} (h : n < 0) : Lib.itoa n = 45 :: Lib.itoa (-n) := by
  unfold Lib.itoa
  rw [if_pos h, if_neg (by omega)]
  congr 2; omega
theorem itoa_len (n : Int) : (Lib.itoa n).length ≤ n.natAbs + 2 := by
  unfold Lib.itoa
  split
  · have := decDigits_le n.natAbs
    simp; omega
  · have := decDigits_le n.toNat
    omega
set_option maxHeartbeats 4000000 in
theorem rnum0_ok (n : Int) (h0 : 0 ≤ n) (h1 : n < 10) : PC Tryz.prog 72 [.av (.int .i64) (.i .i64 n)] (.av .str (.s (Lib.itoa n))) := by
  refine PC.of <| ACalls.of_vc laid mixed Tryz.func72 rfl (by kernel_rfl) cf0 (by simp [Tryz.ntmps72]) fun imm0 w0 => ?_
  have e := itoa_small h0 h1
  have hw : IntKind.u8.wrap (48 + n) = 48 + n := by
    simp only [IntKind.wrap, IntKind.signed, IntKind.bits]; simp; omega
  have ht : (48 + n).toNat = 48 + n.toNat := by omega
  (simp (maxSteps := 2000000) (disch := first | omega | assumption) [zz, h0, h1, hw, ht, Tryz.f72, e])
set_option maxHeartbeats 4000000 in
theorem rnum_ok : ∀ (m : Nat) (n : Int), n.natAbs ≤ m → -9223372036854775808 ≤ n → n ≤ 9223372036854775807 → PC Tryz.prog 72 [.av (.int .i64) (.i .i64 n)] (.av .str (.s (Lib.itoa n))) := by
  intro m
  induction m using Nat.strongRecOn with
  | ind m ih =>
  intro n hm h0 h1
  by_cases ha : 0 ≤ n ∧ n < 10
  · exact rnum0_ok n ha.1 ha.2
  refine PC.of <| ACalls.of_vc laid mixed Tryz.func72 rfl (by kernel_rfl) cf0 (by simp [Tryz.ntmps72]) fun imm0 w0 => ?_
  by_cases hb : n < 0
  · have hnn : ¬ 0 ≤ n := by omega
    by_cases hc : -10 < n
    · have hi := itoa_neg hb
      (simp (maxSteps := 2000000) (disch := first | omega | assumption) [zz, hnn, hb, hc])
      refine callV_pc (rnum0_ok (-n) (by omega) (by omega)) rfl rfl (by simp) (by simp [argLe, TV.er, AV.er]) ?_
      have e := itoa_small (n := -n) (by omega) (by omega)
      (simp (maxSteps := 2000000) (disch := first | omega | assumption) [zz, e, Tryz.f72, hi])
    · obtain ⟨p, hp⟩ : ∃ p, p = -n := ⟨_, rfl⟩
      have hd : n.tdiv 10 = -(p / 10) := by
        have : n = -p := by omega
        rw [this, Int.neg_tdiv, Int.tdiv_eq_ediv_of_nonneg (by omega)]
      have ht : n.tmod 10 = -(p % 10) := by
        have : n = -p := by omega
        rw [this, Int.neg_tmod, Int.tmod_eq_emod_of_nonneg (by omega)]
      have hi : Lib.itoa (-(p / 10)) ++ Lib.itoa (p % 10) = Lib.itoa n := by
        rw [itoa_neg hb, itoa_neg (n := -(p / 10)) (by omega), ← hp, itoa_big (n := p) (by omega)]
        simp
      have hlen := itoa_len (-(p / 10))
      have hlen2 := itoa_len (p % 10)
      by_cases hz : p % 10 = 0
      · rw [hz] at ht hi hlen2
        (simp (maxSteps := 2000000) (disch := first | omega | assumption) [zz, hnn, hb, hc, ht, hd])
        refine callV_pc (ih (-(p / 10)).natAbs (by omega) (-(p / 10)) (Nat.le_refl _) (by omega) (by omega)) rfl rfl (by simp) (by simp [argLe, TV.er, AV.er]) ?_
        (simp (maxSteps := 2000000) (disch := first | omega | assumption) [zz])
        refine callV_pc (rnum0_ok 0 (by omega) (by omega)) rfl rfl (by simp) (by simp [argLe, TV.er, AV.er]) ?_
        (simp (maxSteps := 2000000) (disch := first | omega | assumption) [zz, hi, Tryz.f72])
        omega
      · have hz' : -(p % 10) < 0 := by omega
        have hz2 : 0 < p % 10 := by omega
        (simp (maxSteps := 2000000) (disch := first | omega | assumption) [zz, hnn, hb, hc, ht, hd, hz', hz2])
        refine callV_pc (ih (-(p / 10)).natAbs (by omega) (-(p / 10)) (Nat.le_refl _) (by omega) (by omega)) rfl rfl (by simp) (by simp [argLe, TV.er, AV.er]) ?_
        (simp (maxSteps := 2000000) (disch := first | omega | assumption) [zz])
        refine callV_pc (rnum0_ok (p % 10) (by omega) (by omega)) rfl rfl (by simp) (by simp [argLe, TV.er, AV.er]) ?_
        (simp (maxSteps := 2000000) (disch := first | omega | assumption) [zz, hi, Tryz.f72])
        omega
  · have hnn : 0 ≤ n := by omega
    have hc : ¬ n < 10 := by omega
    have hd : n.tdiv 10 = n / 10 := Int.tdiv_eq_ediv_of_nonneg hnn
    have ht : n.tmod 10 = n % 10 := Int.tmod_eq_emod_of_nonneg hnn
    have hz : ¬ n % 10 < 0 := by omega
    have hi : Lib.itoa (n / 10) ++ Lib.itoa (n % 10) = Lib.itoa n := (itoa_big (by omega)).symm
    have hlen := itoa_len (n / 10)
    have hlen2 := itoa_len (n % 10)
    (simp (maxSteps := 2000000) (disch := first | omega | assumption) [zz, hnn, hb, hc, hd, ht, hz])
    refine callV_pc (ih (n / 10).natAbs (by omega) (n / 10) (Nat.le_refl _) (by omega) (by omega)) rfl rfl (by simp) (by simp [argLe, TV.er, AV.er]) ?_
    (simp (maxSteps := 2000000) (disch := first | omega | assumption) [zz])
    refine callV_pc (rnum0_ok (n % 10) (by omega) (by omega)) rfl rfl (by simp) (by simp [argLe, TV.er, AV.er]) ?_
    (simp (maxSteps := 2000000) (disch := first | omega | assumption) [zz, hi, Tryz.f72])
    omega
end Go.Proofs.YthdgnfnalimcnaaGreatDoor
end
section
set_option maxRecDepth 100000
/-! A row's text, a digest's bytes: the document. -/
namespace Go.Proofs.YthdgnfnalimcnaaGreatDoor
open Go Go.Ab
open Classical
variable [Sel] [SelPow]

@[simp] theorem fnok94 : fnOK Tryz.prog 94 = true := by kernel_rfl
@[simp] theorem isne94 : isNE Tryz.prog (.func 94) = false := isNE_func fnok94
@[simp] theorem fnok95 : fnOK Tryz.prog 95 = true := by kernel_rfl
@[simp] theorem isne95 : isNE Tryz.prog (.func 95) = false := isNE_func fnok95
@[simp] theorem fnok74 : fnOK Tryz.prog 74 = true := by kernel_rfl
@[simp] theorem isne74 : isNE Tryz.prog (.func 74) = false := isNE_func fnok74
def tkW (d : Nat) : Nat → Tok
  | 0 => .full
  | k+1 => .own d (k+1)
set_option maxHeartbeats 4000000 in
theorem raw_ok (d : Dig) (hd : d.length = 32) : PC Tryz.prog 94 [.av (tyOf Tryz.prog 30) (encD d)] (.av .str (.s d)) := by
  refine PC.of <| ACalls.of_vc laid mixed Tryz.func94 rfl (by kernel_rfl) cf0 (by simp [Tryz.ntmps94]) fun imm0 w0 => ?_
  (simp (maxSteps := 2000000) (disch := first | omega | assumption) [zz])
  refine AT.loop' (α := Nat) (fun k => St.of [(1, .loc 1 []), (3, .av (.slice 5) (.sl (tkW 14 k) ((bys d).take k))), (4, .av (.int .i64) (.i .i64 k))] [(1, (tyOf Tryz.prog 30, encD d))] (fun j => if j = 14 then k else 0) [])
    (fun k => k ≤ 32) (fun k => 32 - k) 0 ?_ ?_ ?_
  · refine Le.of ?_ ?_ ?_ ?_ ?_ <;> simp [leTV, locsIn, encDigs, encTraces, encWant, encTrace, encReads, encRead, encMades, encMade, tkW] <;> try omega
  · simp
  rintro k hk KL hN hE
  refine vc_sound (cf := cf0) laid mixed _ _ _ (by kernel_rfl) ?_
  by_cases hlt : k < 32
  · have hkd : k < d.length := by omega
    have hbl : (bys d).length = 32 := by simp [hd]
    have hst : (bys d).take (k+1) = (bys d).take k ++ [.i .u8 d[k].toNat] := by
      rw [List.take_succ_eq_append_getElem (by omega)]
      simp [bys]
    have hgk : (bys d)[k]? = some (.i .u8 d[k].toNat) := by simp [bys, hkd]
    have hg2 : (bys d)[k]'(by omega) = .i .u8 d[k].toNat := by simp [bys]
    have htl : ((bys d).take k).length = k := by rw [List.length_take]; omega
    cases k with
    | zero =>
      (simp (maxSteps := 2000000) (disch := first | omega | assumption) [zz, encD_bys, hgk, hg2, hbl, tkW])
      (simp (maxSteps := 2000000) (disch := first | omega | assumption) [zz, appendV])
      refine hN _ 1 ?_ (by omega) (by omega)
      refine Le.of ?_ ?_ ?_ ?_ ?_ <;> simp [leTV, locsIn, encDigs, encTraces, encWant, encTrace, encReads, encRead, encMades, encMade, tkW, hst, encD_bys] <;> try omega
    | succ k =>
      have hlt' : (k : Int) + 1 < 32 := by omega
      have hge : (0 : Int) ≤ (k : Int) + 1 := by omega
      (simp (maxSteps := 2000000) (disch := first | omega | assumption) [zz, hlt', hlt, encD_bys, hgk, hg2, hbl, tkW])
      refine ⟨by omega, ?_⟩
      (simp (maxSteps := 2000000) (disch := first | omega | assumption) [zz, appendV, htl])
      (repeat ((with_reducible refine And.intro ?_ ?_); (· first | omega | (show barB _ _ = true; kernel_rfl) | (show rdJ _ _ _ _ _ = true; kernel_rfl) | (show tailB _ _ _ = true; kernel_rfl) | (show sftB _ _ _ = true; kernel_rfl))))
      refine hN _ (k+2) ?_ (by omega) (by omega)
      refine Le.of ?_ ?_ ?_ ?_ ?_ <;> simp [leTV, locsIn, encDigs, encTraces, encWant, encTrace, encReads, encRead, encMades, encMade, tkW, hst, encD_bys] <;> try omega
      all_goals (intro j; by_cases hj : j = 14 <;> simp [hj])
  have hk32 : k = 32 := by omega
  subst hk32
  (simp (maxSteps := 2000000) (disch := first | omega | assumption) [zz])
  refine hE _ _ (by simp) ?_
  have h1 : (bys d).take 32 = bys d := List.take_of_length_le (by simp [hd])
  have h2 := bytesOf_bys d
  (simp (maxSteps := 2000000) (disch := first | omega | assumption) [zz, h1, h2, Tryz.f94])
set_option maxHeartbeats 4000000 in
theorem rdigits0_ok (n : Nat) (h : n < 10) : PC Tryz.prog 95 [.av (.int .i64) (.i .i64 n)] (.av .str (.s (Lib.decDigits n))) := by
  refine PC.of <| ACalls.of_vc laid mixed Tryz.func95 rfl (by kernel_rfl) cf0 (by simp [Tryz.ntmps95]) fun imm0 w0 => ?_
  have hn : (n : Int) < 10 := by omega
  have e : Lib.decDigits n = [UInt8.ofNat (48 + n)] := by rw [Lib.decDigits, dif_pos h]
  have hw : IntKind.u8.wrap (48 + (n : Int)) = 48 + n := by
    simp only [IntKind.wrap, IntKind.signed, IntKind.bits]; simp; omega
  have ht : (48 + (n : Int)).toNat = 48 + n := by omega
  (simp (maxSteps := 2000000) (disch := first | omega | assumption) [zz, hn, hw, ht, Tryz.f95, e])
set_option maxHeartbeats 4000000 in
theorem rdigits_ok : ∀ (m n : Nat), n ≤ m → n ≤ 9223372036854775807 → PC Tryz.prog 95 [.av (.int .i64) (.i .i64 n)] (.av .str (.s (Lib.decDigits n))) := by
  intro m
  induction m using Nat.strongRecOn with
  | ind m ih =>
  intro n hm h1
  by_cases h : n < 10
  · exact rdigits0_ok n h
  refine PC.of <| ACalls.of_vc laid mixed Tryz.func95 rfl (by kernel_rfl) cf0 (by simp [Tryz.ntmps95]) fun imm0 w0 => ?_
  have hn : ¬ (n : Int) < 10 := by omega
  have hd : (n : Int).tdiv 10 = ((n / 10 : Nat) : Int) := by rw [Int.tdiv_eq_ediv_of_nonneg (by omega)]; rfl
  have ht : (n : Int).tmod 10 = ((n % 10 : Nat) : Int) := by rw [Int.tmod_eq_emod_of_nonneg (by omega)]; rfl
  have e : Lib.decDigits (n / 10) ++ Lib.decDigits (n % 10) = Lib.decDigits n := by
    rw [Lib.decDigits.eq_1 n, dif_neg h, Lib.decDigits.eq_1 (n % 10), dif_pos (by omega)]
  have hl1 := decDigits_le (n / 10)
  have hl2 := decDigits_le (n % 10)
  obtain ⟨a, ha⟩ : ∃ a, a = n / 10 := ⟨_, rfl⟩
  obtain ⟨c, hc⟩ : ∃ c, c = n % 10 := ⟨_, rfl⟩
  rw [← ha] at hd e hl1
  rw [← hc] at ht e hl2
  (simp (maxSteps := 2000000) (disch := first | omega | assumption) [zz, hn, hd, ht])
  refine callV_pc (ih a (by omega) a (Nat.le_refl _) (by omega)) rfl rfl (by simp) (by simp [argLe, TV.er, AV.er]) ?_
  (simp (maxSteps := 2000000) (disch := first | omega | assumption) [zz, ht])
  refine callV_pc (rdigits0_ok c (by omega)) rfl rfl (by simp) (by simp [argLe, TV.er, AV.er]) ?_
  (simp (maxSteps := 2000000) (disch := first | omega | assumption) [zz, e, Tryz.f95])
  omega
set_option maxHeartbeats 4000000 in
theorem rrow_ok (l : List (List UInt8)) (hn : l.length ≤ 9223372036854775807) (hl : (rowV l).length ≤ 10000000000) : PC Tryz.prog 74 [.av (.slice 9) (.sl .no (strs' l))] (.av .str (.s (rowV l))) := by
  refine PC.of <| ACalls.of_vc laid mixed Tryz.func74 rfl (by kernel_rfl) cf0 (by simp [Tryz.ntmps74]) fun imm0 w0 => ?_
  (simp (maxSteps := 2000000) (disch := first | omega | assumption) [zz])
  refine AT.loop' (α := Nat) (fun k => St.of [(3, .av .str (.s (rowV (l.take k)))), (6, .av (.slice 9) (.sl .no (strs' l))), (7, .av (.int .i64) (.i .i64 l.length)), (8, .av (.int .i64) (.i .i64 k))] [] (fun _ => 0) [])
    (fun k => k ≤ l.length) (fun k => l.length - k) 0 ?_ ?_ ?_
  · refine Le.of ?_ ?_ ?_ ?_ ?_ <;> simp [leTV, locsIn, encDigs, encTraces, encWant, encTrace, encReads, encRead, encMades, encMade, rowV] <;> try omega
  · simp
  rintro k hk KL hN hE
  refine vc_sound (cf := cf0) laid mixed _ _ _ (by kernel_rfl) ?_
  by_cases hlt : k < l.length
  · have hlt' : (k : Int) < l.length := by omega
    have hg := strs'_get l k hlt
    have hst : rowV (l.take (k+1)) = rowV (l.take k) ++ (Lib.decDigits l[k].length ++ 58 :: l[k]) := by
      rw [List.take_succ_eq_append_getElem hlt, rowV_app]
      simp [rowV, itoa_nat]
    have hle := rowV_take_le l (k+1)
    rw [hst] at hle
    simp only [List.length_append, List.length_cons] at hle
    obtain ⟨x, hx⟩ : ∃ x, l[k] = x := ⟨_, rfl⟩
    rw [hx] at hg hst hle
    (simp (maxSteps := 2000000) (disch := first | omega | assumption) [zz, hlt', hlt, hg])
    refine callV_pc (rdigits_ok x.length x.length (Nat.le_refl _) (by omega)) rfl rfl (by simp) (by simp [argLe, TV.er, AV.er]) ?_
    (simp (maxSteps := 2000000) (disch := first | omega | assumption) [zz])
    refine ⟨by omega, by omega, by omega, ?_⟩
    refine hN _ (k+1) ?_ (by omega) (by omega)
    refine Le.of ?_ ?_ ?_ ?_ ?_ <;> simp [leTV, locsIn, encDigs, encTraces, encWant, encTrace, encReads, encRead, encMades, encMade, hst] <;> try omega
  have hkn : k = l.length := by omega
  have hlt' : ¬ (k : Int) < l.length := by omega
  (simp (maxSteps := 2000000) (disch := first | omega | assumption) [zz, hlt'])
  refine hE _ _ (by simp) ?_
  have h1 : l.take k = l := List.take_of_length_le (by omega)
  (simp (maxSteps := 2000000) (disch := first | omega | assumption) [zz, h1, Tryz.f74])
end Go.Proofs.YthdgnfnalimcnaaGreatDoor
end
section
set_option maxRecDepth 100000
/-! A trace's bytes: the document. -/
namespace Go.Proofs.YthdgnfnalimcnaaGreatDoor
open Go Go.Ab
open Classical
variable [Sel] [SelPow]

@[simp] theorem fnok73 : fnOK Tryz.prog 73 = true := by kernel_rfl
@[simp] theorem isne73 : isNE Tryz.prog (.func 73) = false := isNE_func fnok73
def tkX (m : Nat) : Nat → Tok
  | 0 => tkW 51 m
  | k+1 => .own 74 (k+1)
set_option maxHeartbeats 16000000 in
theorem rbytes_ok (t : Trace) (ht : TrP t) (hd : TrD t) (hr2 : ∀ r ∈ t.reads, r.path.length ≤ 1000000000) (ho2 : ∀ r ∈ t.outs, r.path.length ≤ 1000000000) (hb : checkV t = 0 → (rowV (bytesL t)).length ≤ 10000000000) :
    PC Tryz.prog 73 [.av (tyOf Tryz.prog 34) (encTrace t)] (bytesTV t) := by
  refine PC.of <| ACalls.of_vc laid mixed Tryz.func73 rfl (by kernel_rfl) cf0 (by simp [Tryz.ntmps73]) fun imm0 w0 => ?_
  (simp (maxSteps := 2000000) (disch := first | omega | assumption) [zz, encTrace])
  refine callV_pc (rcheck_ok t ht hr2 ho2) rfl rfl (by simp) (by simp [argLe, TV.er, AV.er, AV.ers, encTrace]) ?_
  by_cases hc : checkV t = 0
  rotate_left
  · (simp (maxSteps := 2000000) (disch := first | omega | assumption) [zz, hc, Tryz.f73, bytesTV])
  obtain ⟨hrl, hol⟩ := checkV_len hc
  obtain ⟨hd1, hd2, hd3⟩ := hd
  have hbl := hb hc
  (simp (maxSteps := 2000000) (disch := first | omega | assumption) [zz, hc])
  (repeat ((with_reducible refine And.intro ?_ ?_); (· first | omega | (show barB _ _ = true; kernel_rfl) | (show rdJ _ _ _ _ _ = true; kernel_rfl) | (show tailB _ _ _ = true; kernel_rfl) | (show sftB _ _ _ = true; kernel_rfl))))
  refine callD_pc (raw_ok t.key hd1) rfl rfl (by simp) (by simp [argLe, TV.er]) ?_
  (simp (maxSteps := 2000000) (disch := first | omega | assumption) [zz, encReads])
  (repeat ((with_reducible refine And.intro ?_ ?_); (· first | omega | (show barB _ _ = true; kernel_rfl) | (show rdJ _ _ _ _ _ = true; kernel_rfl) | (show tailB _ _ _ = true; kernel_rfl) | (show sftB _ _ _ = true; kernel_rfl))))
  refine callD_pc (rnum_ok t.reads.length t.reads.length (by omega) (by omega) (by omega)) rfl rfl (by simp) (by simp [argLe, TV.er, AV.er]) ?_
  (simp (maxSteps := 2000000) (disch := first | omega | assumption) [zz])
  (repeat ((with_reducible refine And.intro ?_ ?_); (· first | omega | (show barB _ _ = true; kernel_rfl) | (show rdJ _ _ _ _ _ = true; kernel_rfl) | (show tailB _ _ _ = true; kernel_rfl) | (show sftB _ _ _ = true; kernel_rfl))))
  refine AT.loop' (α := Nat) (fun k => St.of [(1, .loc 1 []), (3, .cst (.int .i64 0)), (5, .av (.slice 9) (.sl (tkW 51 k) (strs' (t.key :: Lib.itoa t.reads.length :: (t.reads.take k).flatMap readT)))), (6, .av (.int .i64) (.i .i64 k))] [(1, (tyOf Tryz.prog 34, encTrace t))] (fun j => if j = 51 then k else 0) [])
    (fun k => k ≤ t.reads.length) (fun k => t.reads.length - k) 0 ?_ ?_ ?_
  · refine Le.of ?_ ?_ ?_ ?_ ?_ <;> simp [leTV, locsIn, encDigs, encTraces, encWant, encTrace, encReads, encRead, encMades, encMade, encTrace, encReads, strs', tkW] <;> try omega
  · simp
  rintro k hk KL hN hE
  obtain ⟨W, hW⟩ : ∃ W, t.key :: Lib.itoa t.reads.length :: (t.reads.take k).flatMap readT = W := ⟨_, rfl⟩
  have hWl : W.length = 2 + 2 * k := by
    rw [← hW]; simp only [List.length_cons, reads_len, List.length_take]; omega
  rw [hW]
  refine vc_sound (cf := cf0) laid mixed _ _ _ (by kernel_rfl) ?_
  by_cases hlt : k < t.reads.length
  · have hlt' : (k : Int) < t.reads.length := by omega
    have hg := map_get encRead t.reads k hlt
    have hds := hd2 t.reads[k] (List.getElem_mem _)
    have htk : (t.reads.take (k+1)).flatMap readT = (t.reads.take k).flatMap readT ++ readT t.reads[k] := by
      rw [List.take_succ_eq_append_getElem hlt, List.flatMap_append]; simp
    obtain ⟨r, hr⟩ : ∃ r, r = t.reads[k] := ⟨_, rfl⟩
    rw [← hr] at hg hds htk
    have hnew : strs' (t.key :: Lib.itoa t.reads.length :: (t.reads.take (k+1)).flatMap readT) = strs' W ++ [.s r.path, .s (if r.is then r.sum else [])] := by
      rw [htk, ← List.cons_append, ← List.cons_append, hW, strs'_app]; rfl
    cases k with
    | zero =>
      have hlt0 : (0 : Int) < t.reads.length := by omega
      cases his : r.is
      · simp only [his, Bool.false_eq_true, if_false] at hnew
        (simp (maxSteps := 2000000) (disch := first | omega | assumption) [zz, hlt0, hlt, hg, encTrace, encReads, encRead, his, tkW])
        (simp (maxSteps := 2000000) (disch := first | omega | assumption) [zz, appendV, hWl])
        (repeat ((with_reducible refine And.intro ?_ ?_); (· first | omega | (show barB _ _ = true; kernel_rfl) | (show rdJ _ _ _ _ _ = true; kernel_rfl) | (show tailB _ _ _ = true; kernel_rfl) | (show sftB _ _ _ = true; kernel_rfl))))
        refine hN _ 1 ?_ (by omega) (by omega)
        refine Le.of ?_ ?_ ?_ ?_ ?_ <;> simp [leTV, locsIn, encDigs, encTraces, encWant, encTrace, encReads, encRead, encMades, encMade, encTrace, encReads, tkW, hnew] <;> try omega
      · simp only [his, if_true] at hnew
        (simp (maxSteps := 2000000) (disch := first | omega | assumption) [zz, hlt0, hlt, hg, encTrace, encReads, encRead, his, tkW])
        (repeat ((with_reducible refine And.intro ?_ ?_); (· first | omega | (show barB _ _ = true; kernel_rfl) | (show rdJ _ _ _ _ _ = true; kernel_rfl) | (show tailB _ _ _ = true; kernel_rfl) | (show sftB _ _ _ = true; kernel_rfl))))
        refine callV_pc (raw_ok r.sum hds) rfl rfl (by simp) (by simp [argLe, TV.er]) ?_
        (simp (maxSteps := 2000000) (disch := first | omega | assumption) [zz, hlt0, hlt, hg, encTrace, encReads, encRead, tkW])
        (simp (maxSteps := 2000000) (disch := first | omega | assumption) [zz, appendV, hWl])
        (repeat ((with_reducible refine And.intro ?_ ?_); (· first | omega | (show barB _ _ = true; kernel_rfl) | (show rdJ _ _ _ _ _ = true; kernel_rfl) | (show tailB _ _ _ = true; kernel_rfl) | (show sftB _ _ _ = true; kernel_rfl))))
        refine hN _ 1 ?_ (by omega) (by omega)
        refine Le.of ?_ ?_ ?_ ?_ ?_ <;> simp [leTV, locsIn, encDigs, encTraces, encWant, encTrace, encReads, encRead, encMades, encMade, encTrace, encReads, tkW, hnew] <;> try omega
    | succ k =>
      have hlt' : (k : Int) + 1 < t.reads.length := by omega
      have hge : (0 : Int) ≤ (k : Int) + 1 := by omega
      cases his : r.is
      · simp only [his, Bool.false_eq_true, if_false] at hnew
        (simp (maxSteps := 2000000) (disch := first | omega | assumption) [zz, hlt', hlt, hg, encTrace, encReads, encRead, his, tkW])
        (repeat ((with_reducible refine And.intro ?_ ?_); (· first | omega | (show barB _ _ = true; kernel_rfl) | (show rdJ _ _ _ _ _ = true; kernel_rfl) | (show tailB _ _ _ = true; kernel_rfl) | (show sftB _ _ _ = true; kernel_rfl))))
        (simp (maxSteps := 2000000) (disch := first | omega | assumption) [zz, appendV, hWl])
        (repeat ((with_reducible refine And.intro ?_ ?_); (· first | omega | (show barB _ _ = true; kernel_rfl) | (show rdJ _ _ _ _ _ = true; kernel_rfl) | (show tailB _ _ _ = true; kernel_rfl) | (show sftB _ _ _ = true; kernel_rfl))))
        refine hN _ (k+2) ?_ (by omega) (by omega)
        refine Le.of ?_ ?_ ?_ ?_ ?_ <;> simp [leTV, locsIn, encDigs, encTraces, encWant, encTrace, encReads, encRead, encMades, encMade, encTrace, encReads, tkW, hnew] <;> try omega
        all_goals (intro j; by_cases hj : j = 51 <;> simp [hj])
      · simp only [his, if_true] at hnew
        (simp (maxSteps := 2000000) (disch := first | omega | assumption) [zz, hlt', hlt, hg, encTrace, encReads, encRead, his, tkW])
        (repeat ((with_reducible refine And.intro ?_ ?_); (· first | omega | (show barB _ _ = true; kernel_rfl) | (show rdJ _ _ _ _ _ = true; kernel_rfl) | (show tailB _ _ _ = true; kernel_rfl) | (show sftB _ _ _ = true; kernel_rfl))))
        refine callV_pc (raw_ok r.sum hds) rfl rfl (by simp) (by simp [argLe, TV.er]) ?_
        (simp (maxSteps := 2000000) (disch := first | omega | assumption) [zz, hlt', hlt, hg, encTrace, encReads, encRead, tkW])
        (repeat ((with_reducible refine And.intro ?_ ?_); (· first | omega | (show barB _ _ = true; kernel_rfl) | (show rdJ _ _ _ _ _ = true; kernel_rfl) | (show tailB _ _ _ = true; kernel_rfl) | (show sftB _ _ _ = true; kernel_rfl))))
        (simp (maxSteps := 2000000) (disch := first | omega | assumption) [zz, appendV, hWl])
        (repeat ((with_reducible refine And.intro ?_ ?_); (· first | omega | (show barB _ _ = true; kernel_rfl) | (show rdJ _ _ _ _ _ = true; kernel_rfl) | (show tailB _ _ _ = true; kernel_rfl) | (show sftB _ _ _ = true; kernel_rfl))))
        refine hN _ (k+2) ?_ (by omega) (by omega)
        refine Le.of ?_ ?_ ?_ ?_ ?_ <;> simp [leTV, locsIn, encDigs, encTraces, encWant, encTrace, encReads, encRead, encMades, encMade, encTrace, encReads, tkW, hnew] <;> try omega
        all_goals (intro j; by_cases hj : j = 51 <;> simp [hj])
  have hkn : k = t.reads.length := by omega
  have hlt' : ¬ (k : Int) < t.reads.length := by omega
  (simp (maxSteps := 2000000) (disch := first | omega | assumption) [zz, hlt', encTrace, encReads])
  refine hE _ _ (by simp) ?_
  clear hN hE
  have hWf : W = t.key :: Lib.itoa t.reads.length :: t.reads.flatMap readT := by rw [← hW, List.take_of_length_le (by omega)]
  (simp (maxSteps := 2000000) (disch := first | omega | assumption) [zz])
  refine AT.loop' (α := Nat) (fun k2 => St.of [(1, .loc 1 []), (3, .cst (.int .i64 0)), (5, .av (.slice 9) (.sl (tkX k k2) (strs' (W ++ (t.outs.take k2).flatMap madeT)))), (8, .av (.int .i64) (.i .i64 k2))] [(1, (tyOf Tryz.prog 34, encTrace t))] (fun j => if j = 74 then k2 else if j = 51 then (if k2 = 0 then k else k + 1) else 0) [])
    (fun k2 => k2 ≤ t.outs.length) (fun k2 => t.outs.length - k2) 0 ?_ ?_ ?_
  · refine Le.of ?_ ?_ ?_ ?_ ?_ <;> simp [leTV, locsIn, encDigs, encTraces, encWant, encTrace, encReads, encRead, encMades, encMade, encTrace, encReads, tkX] <;> try omega
    all_goals (intro j; by_cases hj : j = 74 <;> by_cases hj2 : j = 51 <;> simp [hj, hj2])
  · simp
  rintro k2 hk2 KL2 hN hE
  obtain ⟨V, hV⟩ : ∃ V, W ++ (t.outs.take k2).flatMap madeT = V := ⟨_, rfl⟩
  have hVl : V.length = 2 + 2 * k + 2 * k2 := by
    rw [← hV, List.length_append, mades_len, List.length_take, hWl]; omega
  rw [hV]
  refine vc_sound (cf := cf0) laid mixed _ _ _ (by kernel_rfl) ?_
  by_cases hlt2 : k2 < t.outs.length
  · have hg := map_get encMade t.outs k2 hlt2
    have hds := hd3 t.outs[k2] (List.getElem_mem _)
    have htk : (t.outs.take (k2+1)).flatMap madeT = (t.outs.take k2).flatMap madeT ++ madeT t.outs[k2] := by
      rw [List.take_succ_eq_append_getElem hlt2, List.flatMap_append]; simp
    obtain ⟨r, hr⟩ : ∃ r, r = t.outs[k2] := ⟨_, rfl⟩
    rw [← hr] at hg hds htk
    have hnew : strs' (W ++ (t.outs.take (k2+1)).flatMap madeT) = strs' V ++ [.s r.path, .s r.sum] := by
      rw [htk, ← List.append_assoc, hV, strs'_app]; rfl
    cases k2 with
    | zero =>
      have hlt0 : (0 : Int) < t.outs.length := by omega
      cases k with
      | zero =>
        (simp (maxSteps := 2000000) (disch := first | omega | assumption) [zz, hlt0, hlt2, hg, encTrace, encMades, encMade, tkX, tkW])
        (repeat ((with_reducible refine And.intro ?_ ?_); (· first | omega | (show barB _ _ = true; kernel_rfl) | (show rdJ _ _ _ _ _ = true; kernel_rfl) | (show tailB _ _ _ = true; kernel_rfl) | (show sftB _ _ _ = true; kernel_rfl))))
        refine callD_pc (raw_ok r.sum hds) rfl rfl (by simp) (by simp [argLe, TV.er]) ?_
        (simp (maxSteps := 2000000) (disch := first | omega | assumption) [zz, appendV, hVl])
        (repeat ((with_reducible refine And.intro ?_ ?_); (· first | omega | (show barB _ _ = true; kernel_rfl) | (show rdJ _ _ _ _ _ = true; kernel_rfl) | (show tailB _ _ _ = true; kernel_rfl) | (show sftB _ _ _ = true; kernel_rfl))))
        refine hN _ 1 ?_ (by omega) (by omega)
        refine Le.of ?_ ?_ ?_ ?_ ?_ <;> simp [leTV, locsIn, encDigs, encTraces, encWant, encTrace, encReads, encRead, encMades, encMade, encTrace, encMades, tkX, tkW, hnew] <;> try omega
        all_goals (intro j; by_cases hj : j = 74 <;> by_cases hj2 : j = 51 <;> simp [hj, hj2])
      | succ k =>
        (simp (maxSteps := 2000000) (disch := first | omega | assumption) [zz, hlt0, hlt2, hg, encTrace, encMades, encMade, tkX, tkW])
        (repeat ((with_reducible refine And.intro ?_ ?_); (· first | omega | (show barB _ _ = true; kernel_rfl) | (show rdJ _ _ _ _ _ = true; kernel_rfl) | (show tailB _ _ _ = true; kernel_rfl) | (show sftB _ _ _ = true; kernel_rfl))))
        refine callD_pc (raw_ok r.sum hds) rfl rfl (by simp) (by simp [argLe, TV.er]) ?_
        (simp (maxSteps := 2000000) (disch := first | omega | assumption) [zz, appendV, hVl])
        (repeat ((with_reducible refine And.intro ?_ ?_); (· first | omega | (show barB _ _ = true; kernel_rfl) | (show rdJ _ _ _ _ _ = true; kernel_rfl) | (show tailB _ _ _ = true; kernel_rfl) | (show sftB _ _ _ = true; kernel_rfl))))
        refine hN _ 1 ?_ (by omega) (by omega)
        refine Le.of ?_ ?_ ?_ ?_ ?_ <;> simp [leTV, locsIn, encDigs, encTraces, encWant, encTrace, encReads, encRead, encMades, encMade, encTrace, encMades, tkX, tkW, hnew] <;> try omega
        all_goals (intro j; by_cases hj : j = 74 <;> by_cases hj2 : j = 51 <;> simp [hj, hj2])
    | succ k2 =>
      have hlt2' : (k2 : Int) + 1 < t.outs.length := by omega
      have hge : (0 : Int) ≤ (k2 : Int) + 1 := by omega
      (simp (maxSteps := 2000000) (disch := first | omega | assumption) [zz, hlt2', hlt2, hg, encTrace, encMades, encMade, tkX])
      (repeat ((with_reducible refine And.intro ?_ ?_); (· first | omega | (show barB _ _ = true; kernel_rfl) | (show rdJ _ _ _ _ _ = true; kernel_rfl) | (show tailB _ _ _ = true; kernel_rfl) | (show sftB _ _ _ = true; kernel_rfl))))
      refine callD_pc (raw_ok r.sum hds) rfl rfl (by simp) (by simp [argLe, TV.er]) ?_
      (simp (maxSteps := 2000000) (disch := first | omega | assumption) [zz, appendV, hVl])
      (repeat ((with_reducible refine And.intro ?_ ?_); (· first | omega | (show barB _ _ = true; kernel_rfl) | (show rdJ _ _ _ _ _ = true; kernel_rfl) | (show tailB _ _ _ = true; kernel_rfl) | (show sftB _ _ _ = true; kernel_rfl))))
      refine hN _ (k2+2) ?_ (by omega) (by omega)
      refine Le.of ?_ ?_ ?_ ?_ ?_ <;> simp [leTV, locsIn, encDigs, encTraces, encWant, encTrace, encReads, encRead, encMades, encMade, encTrace, encMades, tkX, hnew] <;> try omega
      all_goals (intro j; by_cases hj : j = 74 <;> by_cases hj2 : j = 51 <;> simp [hj, hj2])
  have hkn2 : k2 = t.outs.length := by omega
  have hlt2' : ¬ (k2 : Int) < t.outs.length := by omega
  have hVf : V = bytesL t := by rw [← hV, hWf, List.take_of_length_le (by omega)]; rfl
  (simp (maxSteps := 2000000) (disch := first | omega | assumption) [zz, hlt2', encTrace, encMades])
  refine hE _ _ (by simp) ?_
  clear hN hE
  (simp (maxSteps := 2000000) (disch := first | omega | assumption) [zz, hVf])
  refine callV_pc (rrow_ok (bytesL t) (by rw [← hVf, hVl]; omega) hbl) rfl rfl (by simp) (by simp [argLe, TV.er, AV.er]) ?_
  (simp (maxSteps := 2000000) (disch := first | omega | assumption) [zz, Tryz.f73, bytesTV, hc])
end Go.Proofs.YthdgnfnalimcnaaGreatDoor
end
