/- Rows of texts taken apart: the program. No condition beyond each theorem's own. -/
import Derived.Test.YthdgnfnalimcnaaGreatDoorP40To3
import Derived.Test.YthdgnfnalimcnaaGreatDoorP25ToPW
set_option linter.unusedSimpArgs false
set_option linter.unusedVariables false
set_option linter.unusedSectionVars false
section
set_option maxRecDepth 100000
/-! Rows of texts taken apart: the program. -/
namespace Go.Proofs.YthdgnfnalimcnaaGreatDoor
open Go Go.Ab
open Classical
variable [Sel] [SelPow]

@[simp] theorem fnok79 : fnOK Tryz.prog 79 = true := by kernel_rfl
@[simp] theorem isne79 : isNE Tryz.prog (.func 79) = false := isNE_func fnok79
@[simp] theorem fnok47 : fnOK Tryz.prog 47 = true := by kernel_rfl
@[simp] theorem isne47 : isNE Tryz.prog (.func 47) = false := isNE_func fnok47
noncomputable def headTV : HeadR → TV
  | .ok n rest => .tup [(.int .i64, .i .i64 n), (.str, .s rest), (.int .i64, .i .i64 0)]
  | .err e => .tup [(.int .i64, .i .i64 0), (.str, .s []), (.int .i64, .i .i64 e)]
theorem u8_sub48 {c : UInt8} (h : 48 ≤ c.toNat) : IntKind.u8.wrap ((c.toNat : Int) - 48) = ((c.toNat - 48 : Nat) : Int) := by
  have := c.toNat_lt
  have e : ((c.toNat : Int) - 48) = ((c.toNat - 48 : Nat) : Int) := by omega
  rw [e]
  simp only [IntKind.wrap, IntKind.signed, IntKind.bits]
  simp; omega
set_option maxHeartbeats 8000000 in
theorem head_ok (b : List UInt8) (hb : b.length ≤ 1000000000) : PC Tryz.prog 79 [.av .str (.s b)] (headTV (headV 0 0 b)) := by
  obtain ⟨R, hR⟩ : ∃ R, headV 0 0 b = R := ⟨_, rfl⟩
  rw [hR]
  refine PC.of <| ACalls.of_vc laid mixed Tryz.func79 rfl (by kernel_rfl) cf0 (by simp [Tryz.ntmps79]) fun imm0 w0 => ?_
  (simp (maxSteps := 2000000) (disch := first | omega | assumption) [zz])
  refine AT.loop' (α := Nat × Nat) (fun k => St.of [(0, .av .str (.s b)), (5, .av (.int .i64) (.i .i64 k.2)), (9, .av (.int .i64) (.i .i64 b.length)), (10, .av (.int .i64) (.i .i64 k.1))] [] (fun _ => 0) [])
    (fun k => k.1 ≤ b.length ∧ headV k.1 k.2 (b.drop k.1) = R ∧ k.1 ≤ 9 ∧ k.2 < 10 ^ k.1) (fun k => b.length - k.1) (0, 0) ?_ ?_ ?_
  · refine Le.of ?_ ?_ ?_ ?_ ?_ <;> simp [leTV, locsIn, encDigs, encTraces, encWant, encTrace, encReads, encRead, encMades, encMade, ] <;> try omega
  · simp [hR]
  rintro ⟨k, n⟩ ⟨hk, hh, h9, hn⟩ KL hN hE
  simp only at hk hh h9 hn hN
  have hn9 : n < 1000000000 := Nat.lt_of_lt_of_le hn (Nat.pow_le_pow_right (by decide) h9)
  refine vc_sound (cf := cf0) laid mixed _ _ _ (by kernel_rfl) ?_
  by_cases hlt : k < b.length
  · have hlt' : (k : Int) < b.length := by omega
    have hd : b.drop k = b[k] :: b.drop (k+1) := (List.getElem_cons_drop (h := hlt)).symm
    obtain ⟨c, hc⟩ : ∃ c, b[k] = c := ⟨_, rfl⟩
    rw [hc] at hd
    have hc256 : c.toNat < 256 := c.toNat_lt
    rw [hd] at hh
    unfold headV at hh
    rcases Nat.eq_zero_or_pos k with rfl | hk0
    · have hn00 : n = 0 := by simpa using hn
      subst hn00
      have hlt0 : (0 : Int) < b.length := by omega
      by_cases h58 : c = 58
      · subst h58
        rw [if_neg (by simp), if_pos (.inl (by decide))] at hh
        (simp (maxSteps := 2000000) (disch := first | omega | assumption) [zz, hlt0, hlt, hc])
        refine hE _ _ (by simp) ?_
        (simp (maxSteps := 2000000) (disch := first | omega | assumption) [zz, Tryz.f79, ← hh, headTV])
      have h58' : ¬ (c.toNat : Int) = 58 := by have := u8_ne (n := 58) (by omega) h58; simpa using this
      rw [if_neg (by simp [h58])] at hh
      by_cases hlo : c.toNat < 48
      · have hlo' : (c.toNat : Int) < 48 := by omega
        rw [if_pos (.inl (by simp [digB]; omega))] at hh
        (simp (maxSteps := 2000000) (disch := first | omega | assumption) [zz, hlt0, hlt, hc, h58', hlo'])
        refine hE _ _ (by simp) ?_
        (simp (maxSteps := 2000000) (disch := first | omega | assumption) [zz, Tryz.f79, ← hh, headTV])
      have hlo' : ¬ (c.toNat : Int) < 48 := by omega
      by_cases hhi : 57 < c.toNat
      · have hhi' : (57 : Int) < c.toNat := by omega
        rw [if_pos (.inl (by simp [digB]; omega))] at hh
        (simp (maxSteps := 2000000) (disch := first | omega | assumption) [zz, hlt0, hlt, hc, h58', hlo', hhi'])
        refine hE _ _ (by simp) ?_
        (simp (maxSteps := 2000000) (disch := first | omega | assumption) [zz, Tryz.f79, ← hh, headTV])
      have hhi' : ¬ (57 : Int) < c.toNat := by omega
      have hsub := u8_sub48 (c := c) (by omega)
      rw [if_neg (by simp only [digB, Bool.and_eq_false_iff, decide_eq_false_iff_not]; omega)] at hh
      (simp (maxSteps := 2000000) (disch := first | omega | assumption) [zz, hlt0, hlt, hc, h58', hlo', hhi', hsub])
      refine hN _ (1, c.toNat - 48) ?_ ⟨by omega, by simpa using hh, by omega, by simp only [Nat.pow_one]; omega⟩ (by simp only; omega)
      refine Le.of ?_ ?_ ?_ ?_ ?_ <;> simp [leTV, locsIn, encDigs, encTraces, encWant, encTrace, encReads, encRead, encMades, encMade, ] <;> try omega
    have hk0' : (0 : Int) < k := by omega
    by_cases h58 : c = 58
    · subst h58
      rw [if_pos ⟨rfl, hk0⟩] at hh
      (simp (maxSteps := 2000000) (disch := first | omega | assumption) [zz, hlt', hc, hk0', hk0])
      (repeat ((with_reducible refine And.intro ?_ ?_); (· first | omega | (show barB _ _ = true; kernel_rfl) | (show rdJ _ _ _ _ _ = true; kernel_rfl) | (show tailB _ _ _ = true; kernel_rfl) | (show sftB _ _ _ = true; kernel_rfl))))
      refine hE _ _ (by simp) ?_
      (simp (maxSteps := 2000000) (disch := first | omega | assumption) [zz, Tryz.f79, ← hh, headTV])
    have h58' : ¬ (c.toNat : Int) = 58 := by have := u8_ne (n := 58) (by omega) h58; simpa using this
    rw [if_neg (by simp [h58])] at hh
    by_cases hlo : c.toNat < 48
    · have hlo' : (c.toNat : Int) < 48 := by omega
      rw [if_pos (.inl (by simp [digB]; omega))] at hh
      (simp (maxSteps := 2000000) (disch := first | omega | assumption) [zz, hlt', hc, h58', hlo'])
      refine hE _ _ (by simp) ?_
      (simp (maxSteps := 2000000) (disch := first | omega | assumption) [zz, Tryz.f79, ← hh, headTV])
    have hlo' : ¬ (c.toNat : Int) < 48 := by omega
    by_cases hhi : 57 < c.toNat
    · have hhi' : (57 : Int) < c.toNat := by omega
      rw [if_pos (.inl (by simp [digB]; omega))] at hh
      (simp (maxSteps := 2000000) (disch := first | omega | assumption) [zz, hlt', hc, h58', hlo', hhi'])
      refine hE _ _ (by simp) ?_
      (simp (maxSteps := 2000000) (disch := first | omega | assumption) [zz, Tryz.f79, ← hh, headTV])
    have hhi' : ¬ (57 : Int) < c.toNat := by omega
    by_cases hk9 : k = 9
    · rw [if_pos (.inr (.inl hk9))] at hh
      subst hk9
      have hlt9 : (9 : Int) < b.length := by omega
      (simp (maxSteps := 2000000) (disch := first | omega | assumption) [zz, hlt9, hlt, hc, h58', hlo', hhi'])
      refine hE _ _ (by simp) ?_
      (simp (maxSteps := 2000000) (disch := first | omega | assumption) [zz, Tryz.f79, ← hh, headTV])
    have hk9' : ¬ (k : Int) = 9 := by omega
    have hsub := u8_sub48 (c := c) (by omega)
    by_cases hn0 : n = 0
    · subst hn0
      rw [if_pos (.inr (.inr ⟨hk0, rfl⟩))] at hh
      (simp (maxSteps := 2000000) (disch := first | omega | assumption) [zz, hlt', hc, h58', hlo', hhi', hk9', hk0', hk0])
      refine hE _ _ (by simp) ?_
      (simp (maxSteps := 2000000) (disch := first | omega | assumption) [zz, Tryz.f79, ← hh, headTV])
    · have hn0' : ¬ (n : Int) = 0 := by omega
      rw [if_neg (by simp only [digB, Bool.and_eq_false_iff, decide_eq_false_iff_not]; omega)] at hh
      (simp (maxSteps := 2000000) (disch := first | omega | assumption) [zz, hlt', hc, h58', hlo', hhi', hk9', hk0', hk0, hn0', hn0, hsub])
      refine hN _ (k + 1, 10 * n + (c.toNat - 48)) ?_ ⟨by omega, hh, by omega, by simp only [Nat.pow_succ]; omega⟩ (by simp only; omega)
      refine Le.of ?_ ?_ ?_ ?_ ?_ <;> simp [leTV, locsIn, encDigs, encTraces, encWant, encTrace, encReads, encRead, encMades, encMade, ] <;> try omega
  · have hlt' : ¬ (k : Int) < b.length := by omega
    rw [List.drop_eq_nil_of_le (by omega)] at hh
    simp only [headV] at hh
    (simp (maxSteps := 2000000) (disch := first | omega | assumption) [zz, hlt'])
    refine hE _ _ (by simp) ?_
    (simp (maxSteps := 2000000) (disch := first | omega | assumption) [zz, Tryz.f79, ← hh, headTV])
end Go.Proofs.YthdgnfnalimcnaaGreatDoor
end
section
set_option maxRecDepth 100000
/-! Rows of texts taken apart: the program, all of a row. -/
namespace Go.Proofs.YthdgnfnalimcnaaGreatDoor
open Go Go.Ab
open Classical
variable [Sel] [SelPow]

theorem headV_err : ∀ {b : List UInt8} {k n : Nat} {e : Int}, headV k n b = .err e → e = 3 ∨ e = 4
  | [], _, _, _, h => by simp [headV] at h; omega
  | c :: r, k, n, e, h => by
    unfold headV at h
    split at h
    · cases h
    · split at h
      · simp only [HeadR.err.injEq] at h; omega
      · exact headV_err h
noncomputable def textsTV (x : List (List UInt8) × Int) : TV := .tup [(.slice 9, .sl .no (strs' x.1)), (.int .i64, .i .i64 x.2)]
set_option maxHeartbeats 8000000 in
theorem texts_ok (b : List UInt8) (hb : b.length ≤ 1000000000) : PC Tryz.prog 47 [.av .str (.s b)] (textsTV (textsV b)) := by
  obtain ⟨R, hR⟩ : ∃ R, textsV b = R := ⟨_, rfl⟩
  rw [hR]
  unfold textsV at hR
  refine PC.of <| ACalls.of_vc laid mixed Tryz.func47 rfl (by kernel_rfl) cf0 (by simp [Tryz.ntmps47]) fun imm0 w0 => ?_
  (simp (maxSteps := 2000000) (disch := first | omega | assumption) [zz])
  refine AT.loop' (α := Nat × Nat × List (List UInt8) × List UInt8) (fun x => St.of [(0, .av .str (.s x.2.2.2)), (4, .av (.slice 9) (.sl (if x.1 = 0 then .full else .own 30 x.1) (strs' x.2.2.1)))] [] (fun j => if j = 30 then x.1 else 0) [])
    (fun x => textsA x.2.1 x.2.2.1 x.2.2.2 = R ∧ x.2.2.2.length < x.2.1 ∧ x.2.2.2.length + x.2.2.1.length ≤ b.length ∧ (x.1 = 0 → x.2.2.1 = [])) (fun x => x.2.1) (0, b.length + 1, [], b) ?_ ?_ ?_
  · refine Le.of ?_ ?_ ?_ ?_ ?_ <;> simp [leTV, locsIn, encDigs, encTraces, encWant, encTrace, encReads, encRead, encMades, encMade, strs'] <;> try omega
  · exact ⟨hR, by simp, by simp, fun _ => rfl⟩
  rintro ⟨tk, f, out, r⟩ ⟨hr, hf, hlen, h0⟩ KL hN hE
  simp only at hr hf hlen h0 hN
  refine vc_sound (cf := cf0) laid mixed _ _ _ (by kernel_rfl) ?_
  cases f with
  | zero => omega
  | succ f =>
  unfold textsA at hr
  by_cases hre : r = []
  · rw [if_pos hre] at hr
    subst hre
    (simp (maxSteps := 2000000) (disch := first | omega | assumption) [zz])
    refine hE _ _ (by simp) ?_
    (simp (maxSteps := 2000000) (disch := first | omega | assumption) [zz, Tryz.f47, ← hr, textsTV])
  rw [if_neg hre] at hr
  (simp (maxSteps := 2000000) (disch := first | omega | assumption) [zz, hre])
  refine callV_pc (head_ok r (by omega)) rfl rfl (by simp) (by simp [argLe, TV.er, AV.er]) ?_
  cases hh : headV 0 0 r with
  | err e =>
    rw [hh] at hr
    have he : ¬ e = 0 := by rcases headV_err hh with h | h <;> omega
    (simp (maxSteps := 2000000) (disch := first | omega | assumption) [zz, headTV, he])
    refine hE _ _ (by simp) ?_
    (simp (maxSteps := 2000000) (disch := first | omega | assumption) [zz, Tryz.f47, ← hr, textsTV, strs'])
  | ok n rest =>
    rw [hh] at hr
    simp only at hr
    have hl := headV_len hh
    by_cases hn : rest.length < n
    · have hn' : (rest.length : Int) < n := by omega
      rw [if_pos hn] at hr
      (simp (maxSteps := 2000000) (disch := first | omega | assumption) [zz, headTV, hn'])
      refine hE _ _ (by simp) ?_
      (simp (maxSteps := 2000000) (disch := first | omega | assumption) [zz, Tryz.f47, ← hr, textsTV, strs'])
    · have hn' : ¬ (rest.length : Int) < n := by omega
      have hn2 : (n : Int) ≤ rest.length := by omega
      rw [if_neg hn] at hr
      cases tk with
      | zero =>
        obtain rfl := h0 rfl
        (simp (maxSteps := 2000000) (disch := first | omega | assumption) [zz, headTV, hn', hn2, appendV, strs'])
        refine hN _ (1, f, [rest.take n], rest.drop n) ?_ ⟨by simpa using hr, by simp; omega, by simp at hlen ⊢; omega, by simp⟩ (by simp only; omega)
        refine Le.of ?_ ?_ ?_ ?_ ?_ <;> simp [leTV, locsIn, encDigs, encTraces, encWant, encTrace, encReads, encRead, encMades, encMade, strs'] <;> try omega
      | succ tk =>
        (simp (maxSteps := 2000000) (disch := first | omega | assumption) [zz, headTV, hn', hn2, appendV])
        refine ⟨by omega, by omega, ?_⟩
        refine hN _ (tk + 2, f, out ++ [rest.take n], rest.drop n) ?_ ⟨hr, by simp; omega, by simp; omega, by simp⟩ (by simp only; omega)
        refine Le.of ?_ ?_ ?_ ?_ ?_ <;> simp [leTV, locsIn, encDigs, encTraces, encWant, encTrace, encReads, encRead, encMades, encMade, strs'] <;> try omega
        all_goals (intro j; by_cases hj : j = 30 <;> simp [hj])
end Go.Proofs.YthdgnfnalimcnaaGreatDoor
end
