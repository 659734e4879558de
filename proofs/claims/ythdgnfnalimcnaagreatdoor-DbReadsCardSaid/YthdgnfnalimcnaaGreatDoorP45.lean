/- Numbers of texts: the document takes one apart. No condition beyond each theorem's own. -/
import Derived.Test.YthdgnfnalimcnaaGreatDoorP40To3
set_option linter.unusedSimpArgs false
set_option linter.unusedVariables false
set_option linter.unusedSectionVars false
set_option maxRecDepth 100000
/-! Numbers of texts: the document takes one apart. -/
namespace Go.Proofs.YthdgnfnalimcnaaGreatDoor
open Go Go.Ab
open Classical
variable [Sel] [SelPow]

@[simp] theorem fnok52 : fnOK Tryz.prog 52 = true := by kernel_rfl
@[simp] theorem isne52 : isNE Tryz.prog (.func 52) = false := isNE_func fnok52
noncomputable def intTV : Option Int → TV
  | some v => .tup [(.int .i64, .i .i64 v), (.bool, .b true)]
  | none => .tup [(.int .i64, .i .i64 0), (.bool, .b false)]
theorem wrap_step (a d : Int) : IntKind.i64.wrap (IntKind.i64.wrap (IntKind.i64.wrap a * 10) + d) = IntKind.i64.wrap (a * 10 + d) := by
  simp only [IntKind.wrap, IntKind.signed, IntKind.bits]
  simp
  omega
theorem wrap_i64 (a : Int) : -9223372036854775808 ≤ IntKind.i64.wrap a ∧ IntKind.i64.wrap a ≤ 9223372036854775807 := by
  simp only [IntKind.wrap, IntKind.signed, IntKind.bits]
  simp
  omega
theorem valA_snoc (a : Nat) (l : List UInt8) (c : UInt8) : valA a (l ++ [c]) = valA a l * 10 + (c.toNat - 48) := by
  simp [valA, List.foldl_append]
def accV (neg : Bool) (l : List UInt8) : Int := IntKind.i64.wrap (if neg then -(valA 0 l : Int) else valA 0 l)
theorem accV_snoc_neg (l : List UInt8) {c : UInt8} : accV true (l ++ [c]) = IntKind.i64.wrap (IntKind.i64.wrap (accV true l * 10) - ((c.toNat - 48 : Nat) : Int)) := by
  have := wrap_step (-(valA 0 l : Int)) (-((c.toNat - 48 : Nat) : Int))
  simp only [accV, if_true, valA_snoc]
  rw [show IntKind.i64.wrap (IntKind.i64.wrap (-(valA 0 l : Int)) * 10) - ((c.toNat - 48 : Nat) : Int) = IntKind.i64.wrap (IntKind.i64.wrap (-(valA 0 l : Int)) * 10) + -((c.toNat - 48 : Nat) : Int) by omega, this]
  congr 1; omega
theorem accV_snoc_pos (l : List UInt8) {c : UInt8} : accV false (l ++ [c]) = IntKind.i64.wrap (IntKind.i64.wrap (accV false l * 10) + ((c.toNat - 48 : Nat) : Int)) := by
  have := wrap_step (valA 0 l : Int) ((c.toNat - 48 : Nat) : Int)
  simp only [accV, valA_snoc]
  simp only [Bool.false_eq_true, if_false]
  rw [this]
  congr 1
theorem nDig_le (u : Nat) (h : u ≤ 9999999999999999999) : (Lib.decDigits u).length ≤ 19 := by
  have key : ∀ (k u : Nat), u < 10 ^ (k+1) → (Lib.decDigits u).length ≤ k + 1 := by
    intro k
    induction k with
    | zero => intro u hu; rw [Lib.decDigits, dif_pos (by omega)]; simp
    | succ k ih =>
      intro u hu
      rw [Lib.decDigits]
      split
      · simp
      · have := ih (u / 10) (by rw [Nat.pow_succ] at hu; omega)
        simp; omega
  exact key 18 u (by omega)
theorem int_parts {s : List UInt8} {v : Int} (h : intV s = some v) : ∃ u : Nat, (v < 0 ∧ v = -(u : Int) ∧ s = 45 :: Lib.decDigits u ∨ 0 ≤ v ∧ v = u ∧ s = Lib.decDigits u) ∧ u ≤ 9223372036854775808 := by
  obtain ⟨_, h2, h3, h4⟩ := intV_some h
  by_cases hv : v < 0
  · refine ⟨v.natAbs, .inl ⟨hv, by omega, ?_⟩, by omega⟩
    rw [← h2]; unfold Lib.itoa; rw [if_pos hv]
  · refine ⟨v.toNat, .inr ⟨by omega, by omega, ?_⟩, by omega⟩
    rw [← h2]; unfold Lib.itoa; rw [if_neg hv]
theorem decDigits_head (u : Nat) : ∀ r, Lib.decDigits u ≠ 45 :: r := by
  intro r h
  have := decDigits_dig u 45 (by rw [h]; simp)
  simp [digB] at this
set_option maxHeartbeats 8000000 in
theorem rint_ok (s : List UInt8) (hs : s.length ≤ 1000000000) : PC Tryz.prog 52 [.av .str (.s s)] (intTV (intV s)) := by
  obtain ⟨R, hR⟩ : ∃ R, intV s = R := ⟨_, rfl⟩
  rw [hR]
  /- the sign, and what stands behind it -/
  have main : ∀ (neg : Bool) (l : List UInt8), l.length ≤ s.length → (∀ v, intV s = some v → (l ≠ [] ∧ l.length ≤ 19 ∧ (∀ c ∈ l, digB c = true) ∧ accV neg l = v)) → 
      (l = [] ∨ 19 < l.length ∨ (∃ c ∈ l, digB c = false) → R = none) ∧ (R = if Lib.itoa (accV neg l) = s then some (accV neg l) else none) := by
    intro neg l hl hv
    refine ⟨fun hbad => ?_, ?_⟩
    · cases hR2 : R with
      | none => rfl
      | some v =>
        obtain ⟨h1, h2, h3, _⟩ := hv v (hR.trans hR2)
        rcases hbad with h | h | ⟨c, hc, hd⟩
        · exact absurd h h1
        · omega
        · rw [h3 c hc] at hd; cases hd
    · split
      · rename_i hi
        rw [← hR, ← hi]
        exact intV_itoa (wrap_i64 _).1 (wrap_i64 _).2
      · rename_i hi
        cases hR2 : R with
        | none => rfl
        | some v =>
          obtain ⟨_, _, _, h4⟩ := hv v (hR.trans hR2)
          obtain ⟨_, h5, _⟩ := intV_some (hR.trans hR2)
          rw [h4] at hi
          exact absurd h5 hi
  have acc_pos : ∀ u : Nat, u ≤ 9223372036854775807 → accV false (Lib.decDigits u) = u := fun u hu => by
    have : valA 0 (Lib.decDigits u) = u := valD_decDigits u
    simp only [accV, this, Bool.false_eq_true, if_false]
    exact i64_in (by omega) (by omega)
  have acc_neg : ∀ u : Nat, u ≤ 9223372036854775808 → accV true (Lib.decDigits u) = -(u : Int) := fun u hu => by
    have : valA 0 (Lib.decDigits u) = u := valD_decDigits u
    simp only [accV, this, if_true]
    exact i64_in (by omega) (by omega)
  refine PC.of <| ACalls.of_vc laid mixed Tryz.func52 rfl (by kernel_rfl) cf0 (by simp [Tryz.ntmps52]) fun imm0 w0 => ?_
  by_cases hs45 : ∃ l, s = 45 :: l
  · obtain ⟨l, hsl⟩ := hs45
    have hs0 : ¬ (45 :: l : List UInt8) = [] := by simp

    have hv0 : ∀ v, intV s = some v → (l ≠ [] ∧ l.length ≤ 19 ∧ (∀ c ∈ l, digB c = true) ∧ accV true l = v) := by
      intro v hv
      obtain ⟨u, hu | hu, hu2⟩ := int_parts hv
      · obtain ⟨_, hu1, hu3⟩ := hu
        rw [hsl, List.cons.injEq] at hu3
        rw [hu3.2]
        exact ⟨decDigits_nil u, nDig_le u (by omega), decDigits_dig u, (acc_neg u hu2).trans hu1.symm⟩
      · exact absurd (hu.2.2.symm.trans hsl) (decDigits_head u l)
    obtain ⟨hm1, hm2⟩ := main true l (by rw [hsl]; simp) hv0
    by_cases hl0 : l = []
    · have hR0 := hm1 (.inl hl0)
      subst hl0
      (simp (maxSteps := 2000000) (disch := first | omega | assumption) [zz, hsl, hs0])
      (simp (maxSteps := 2000000) (disch := first | omega | assumption) [zz, Tryz.f52, hR0, intTV])
    have hl0' : ¬ (l.length : Int) = 0 := by
      intro e; exact hl0 (List.length_eq_zero_iff.1 (by omega))
    by_cases hl19 : 19 < l.length
    · have hR0 := hm1 (.inr (.inl hl19))
      have hl19' : (19 : Int) < l.length := by omega
      (simp (maxSteps := 2000000) (disch := first | omega | assumption) [zz, hsl, hs0, hl0, hl0', hl19'])
      (simp (maxSteps := 2000000) (disch := first | omega | assumption) [zz, Tryz.f52, hR0, intTV])
      omega
    have hl19' : ¬ (19 : Int) < l.length := by omega
    (simp (maxSteps := 2000000) (disch := first | omega | assumption) [zz, hsl, hs0, hl0, hl0', hl19'])
    refine ⟨by omega, ?_⟩
    refine AT.loop' (α := Nat) (fun k => St.of [(0, .av .str (.s s)), (4, .av .bool (.b true)), (5, .av .str (.s l)), (6, .av (.int .i64) (.i .i64 (accV true (l.take k)))), (7, .av (.int .i64) (.i .i64 k))] [] (fun _ => 0) [])
      (fun k => k ≤ l.length) (fun k => l.length - k) 0 ?_ ?_ ?_
    · refine Le.of ?_ ?_ ?_ ?_ ?_ <;> simp [leTV, locsIn, encDigs, encTraces, encWant, encTrace, encReads, encRead, encMades, encMade, hsl, accV, valA] <;> try omega
      exact i64_in (by omega) (by omega)
    · simp
    rintro k hk KL hN hE
    obtain ⟨hw1, hw2⟩ := wrap_i64 (if true = true then -(valA 0 (l.take k) : Int) else valA 0 (l.take k))
    refine vc_sound (cf := cf0) laid mixed _ _ _ (by kernel_rfl) ?_
    by_cases hlt : k < l.length
    · have hlt' : (k : Int) < l.length := by omega
      obtain ⟨c, hc⟩ : ∃ c, l[k] = c := ⟨_, rfl⟩
      have hsn := accV_snoc_neg (l.take k) (c := c)
      rw [← hc, ← List.take_succ_eq_append_getElem hlt, hc] at hsn
      have hc256 : c.toNat < 256 := c.toNat_lt
      by_cases hdg : digB c = true
      · have hd48 : 48 ≤ c.toNat := by simp only [digB, Bool.and_eq_true, decide_eq_true_eq] at hdg; exact hdg.1
        have hsub : IntKind.i64.wrap ((c.toNat : Int) - 48) = ((c.toNat - 48 : Nat) : Int) := by rw [i64_in (by omega) (by omega)]; omega
        have hsub2 : ((c.toNat : Int) - 48) = ((c.toNat - 48 : Nat) : Int) := by omega
        (simp (maxSteps := 2000000) (disch := first | omega | assumption) [zz, hlt', hc])
        refine callV_pc (digit_ok c) rfl rfl (by simp) (by simp [argLe, TV.er, AV.er]) ?_
        (simp (maxSteps := 2000000) (disch := first | omega | assumption) [zz, hdg, hlt, hc, hsub, hsub2])
        refine hN _ (k+1) ?_ (by omega) (by omega)
        refine Le.of ?_ ?_ ?_ ?_ ?_ <;> simp [leTV, locsIn, encDigs, encTraces, encWant, encTrace, encReads, encRead, encMades, encMade, hsn] <;> try omega
      · have hR0 := hm1 (.inr (.inr ⟨c, by rw [← hc]; exact List.getElem_mem hlt, by simpa using hdg⟩))
        (simp (maxSteps := 2000000) (disch := first | omega | assumption) [zz, hlt', hc])
        refine callV_pc (digit_ok c) rfl rfl (by simp) (by simp [argLe, TV.er, AV.er]) ?_
        (simp (maxSteps := 2000000) (disch := first | omega | assumption) [zz, hdg])
        refine hE _ _ (by simp) ?_
        (simp (maxSteps := 2000000) (disch := first | omega | assumption) [zz, Tryz.f52, hR0, intTV])
    have hlt' : ¬ (k : Int) < l.length := by omega
    rw [show l.take k = l from List.take_of_length_le (by omega)] at *
    (simp (maxSteps := 2000000) (disch := first | omega | assumption) [zz, hlt'])
    refine hE _ _ (by simp) ?_
    clear hN hE
    have hw := wrap_i64 (if true = true then -(valA 0 l : Int) else valA 0 l)
    (simp (maxSteps := 2000000) (disch := first | omega | assumption) [zz])
    refine callV_pc (rnum_ok _ (accV true l) (Nat.le_refl _) hw.1 hw.2) rfl rfl (by simp) (by simp [argLe, TV.er, AV.er]) ?_
    by_cases hi : Lib.itoa (accV true l) = s
    · rw [if_pos hi] at hm2
      (simp (maxSteps := 2000000) (disch := first | omega | assumption) [zz, hi, hm2, Tryz.f52, intTV])
    · rw [if_neg hi] at hm2
      (simp (maxSteps := 2000000) (disch := first | omega | assumption) [zz, hi, hm2, Tryz.f52, intTV])
  · replace hs45 : ∀ l, s ≠ 45 :: l := fun l h => hs45 ⟨l, h⟩
    have hv0 : ∀ v, intV s = some v → (s ≠ [] ∧ s.length ≤ 19 ∧ (∀ c ∈ s, digB c = true) ∧ accV false s = v) := by
      intro v hv
      obtain ⟨u, hu | hu, hu2⟩ := int_parts hv
      · exact absurd hu.2.2 (hs45 _)
      · obtain ⟨_, hu1, hu3⟩ := hu
        have hv63 := (intV_some hv).2.2.2
        rw [hu3]
        exact ⟨decDigits_nil u, nDig_le u (by omega), decDigits_dig u, (acc_pos u (by omega)).trans hu1.symm⟩
    obtain ⟨hm1, hm2⟩ := main false s (Nat.le_refl _) hv0
    by_cases hl0 : s = []
    · have hR0 := hm1 (.inl hl0)
      subst hl0
      (simp (maxSteps := 2000000) (disch := first | omega | assumption) [zz])
      (simp (maxSteps := 2000000) (disch := first | omega | assumption) [zz, Tryz.f52, hR0, intTV])
    have hpos : 0 < s.length := List.length_pos_iff.2 hl0
    have hpos' : (0 : Int) < s.length := by omega
    obtain ⟨c0, hc0⟩ : ∃ c, s[0] = c := ⟨_, rfl⟩
    have h45 : ¬ c0 = 45 := by
      rintro rfl
      exact hs45 (s.drop 1) (by rw [← hc0, List.getElem_cons_drop]; simp)
    have h45' : ¬ (c0.toNat : Int) = 45 := by have := u8_ne (n := 45) (by omega) h45; simpa using this
    have hl0' : ¬ (s.length : Int) = 0 := by
      intro e; exact hl0 (List.length_eq_zero_iff.1 (by omega))
    by_cases hl19 : 19 < s.length
    · have hR0 := hm1 (.inr (.inl hl19))
      have hl19' : (19 : Int) < s.length := by omega
      (simp (maxSteps := 2000000) (disch := first | omega | assumption) [zz, hpos, hpos', hc0, h45', hl0, hl0', hl19'])
      (simp (maxSteps := 2000000) (disch := first | omega | assumption) [zz, Tryz.f52, hR0, intTV])
    have hl19' : ¬ (19 : Int) < s.length := by omega
    (simp (maxSteps := 2000000) (disch := first | omega | assumption) [zz, hpos, hpos', hc0, h45', hl0, hl0', hl19'])
    refine AT.loop' (α := Nat) (fun k => St.of [(0, .av .str (.s s)), (4, .av .bool (.b false)), (5, .av .str (.s s)), (6, .av (.int .i64) (.i .i64 (accV false (s.take k)))), (7, .av (.int .i64) (.i .i64 k))] [] (fun _ => 0) [])
      (fun k => k ≤ s.length) (fun k => s.length - k) 0 ?_ ?_ ?_
    · refine Le.of ?_ ?_ ?_ ?_ ?_ <;> simp [leTV, locsIn, encDigs, encTraces, encWant, encTrace, encReads, encRead, encMades, encMade, accV, valA] <;> try omega
      exact i64_in (by omega) (by omega)
    · simp
    rintro k hk KL hN hE
    obtain ⟨hw1, hw2⟩ := wrap_i64 (if false = true then -(valA 0 (s.take k) : Int) else valA 0 (s.take k))
    refine vc_sound (cf := cf0) laid mixed _ _ _ (by kernel_rfl) ?_
    by_cases hlt : k < s.length
    · have hlt' : (k : Int) < s.length := by omega
      obtain ⟨c, hc⟩ : ∃ c, s[k] = c := ⟨_, rfl⟩
      have hsn := accV_snoc_pos (s.take k) (c := c)
      rw [← hc, ← List.take_succ_eq_append_getElem hlt, hc] at hsn
      have hc256 : c.toNat < 256 := c.toNat_lt
      by_cases hdg : digB c = true
      · have hd48 : 48 ≤ c.toNat := by simp only [digB, Bool.and_eq_true, decide_eq_true_eq] at hdg; exact hdg.1
        have hsub : IntKind.i64.wrap ((c.toNat : Int) - 48) = ((c.toNat - 48 : Nat) : Int) := by rw [i64_in (by omega) (by omega)]; omega
        have hsub2 : ((c.toNat : Int) - 48) = ((c.toNat - 48 : Nat) : Int) := by omega
        (simp (maxSteps := 2000000) (disch := first | omega | assumption) [zz, hlt', hc])
        refine callV_pc (digit_ok c) rfl rfl (by simp) (by simp [argLe, TV.er, AV.er]) ?_
        (simp (maxSteps := 2000000) (disch := first | omega | assumption) [zz, hdg, hlt, hc, hsub, hsub2])
        refine hN _ (k+1) ?_ (by omega) (by omega)
        refine Le.of ?_ ?_ ?_ ?_ ?_ <;> simp [leTV, locsIn, encDigs, encTraces, encWant, encTrace, encReads, encRead, encMades, encMade, hsn] <;> try omega
      · have hR0 := hm1 (.inr (.inr ⟨c, by rw [← hc]; exact List.getElem_mem hlt, by simpa using hdg⟩))
        (simp (maxSteps := 2000000) (disch := first | omega | assumption) [zz, hlt', hc])
        refine callV_pc (digit_ok c) rfl rfl (by simp) (by simp [argLe, TV.er, AV.er]) ?_
        (simp (maxSteps := 2000000) (disch := first | omega | assumption) [zz, hdg])
        refine hE _ _ (by simp) ?_
        (simp (maxSteps := 2000000) (disch := first | omega | assumption) [zz, Tryz.f52, hR0, intTV])
    have hlt' : ¬ (k : Int) < s.length := by omega
    rw [show s.take k = s from List.take_of_length_le (by omega)] at *
    (simp (maxSteps := 2000000) (disch := first | omega | assumption) [zz, hlt'])
    refine hE _ _ (by simp) ?_
    clear hN hE
    have hw := wrap_i64 (if false = true then -(valA 0 s : Int) else valA 0 s)
    (simp (maxSteps := 2000000) (disch := first | omega | assumption) [zz])
    refine callV_pc (rnum_ok _ (accV false s) (Nat.le_refl _) hw.1 hw.2) rfl rfl (by simp) (by simp [argLe, TV.er, AV.er]) ?_
    by_cases hi : Lib.itoa (accV false s) = s
    · rw [if_pos hi] at hm2
      (simp (maxSteps := 2000000) (disch := first | omega | assumption) [zz, hi, hm2, Tryz.f52, intTV])
    · rw [if_neg hi] at hm2
      (simp (maxSteps := 2000000) (disch := first | omega | assumption) [zz, hi, hm2, Tryz.f52, intTV])
end Go.Proofs.YthdgnfnalimcnaaGreatDoor
