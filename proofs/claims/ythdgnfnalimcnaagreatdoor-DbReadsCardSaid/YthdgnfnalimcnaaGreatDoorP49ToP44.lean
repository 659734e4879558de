/- A trace of bytes: what both programs come to. No condition beyond each theorem's own. -/
import Derived.Test.YthdgnfnalimcnaaGreatDoorP48
import Derived.Test.YthdgnfnalimcnaaGreatDoorP41ToP42
import Derived.Test.YthdgnfnalimcnaaGreatDoorP40To3
set_option linter.unusedSimpArgs false
set_option linter.unusedVariables false
set_option linter.unusedSectionVars false
section
set_option maxRecDepth 100000
/-! A trace of bytes: what both programs come to. -/
namespace Go.Proofs.YthdgnfnalimcnaaGreatDoor
open Go Go.Ab
open Classical
variable [Sel] [SelPow] [SelErr]

def rG : Nat → List (List UInt8) → Option (List Read × List Made)
  | n + 1, p :: s :: r => if s = [] then (rG n r).map fun x => (⟨p, false, zero32⟩ :: x.1, x.2)
      else if s.length = 32 then (rG n r).map fun x => (⟨p, true, s⟩ :: x.1, x.2) else none
  | 0, p :: s :: r => if s.length = 32 then (rG 0 r).map fun x => (x.1, ⟨p, s⟩ :: x.2) else none
  | _, _ => some ([], [])
noncomputable def readG (l : List (List UInt8)) : Trace × Int :=
  match l with
  | k :: c :: r => if r.length % 2 = 1 ∨ k.length ≠ 32 then (tr0, 3) else match intV c with
    | none => (tr0, 3)
    | some n => if n < 0 ∨ (r.length : Int) < 2 * n then (tr0, 3) else match rG n.toNat r with
      | none => (tr0, 3)
      | some x => chkT ⟨k, x.1, x.2⟩
  | _ => (tr0, 3)
theorem cR_bad (l : List (List UInt8)) : (cR l true).2.2 = true := by
  unfold cR
  have h : ∀ l, (cT l true).2.2 = true := fun l => by cases l <;> rfl
  split
  · exact h l
  · simp only [cD, h, Bool.true_or]
theorem pR_bad : ∀ (n : Nat) (l : List (List UInt8)), (pR n l true).2.2 = true
  | 0, l => rfl
  | n + 1, l => by simp only [pR, cR_bad]; exact pR_bad n _
theorem pM_bad (f : Nat) (l : List (List UInt8)) : (pM f l true).2 = true := by cases f <;> simp [pM]
theorem pM_spec : ∀ (m : Nat) (f : Nat) (l : List (List UInt8)), l.length ≤ m → l.length < f →
    (l.length % 2 = 1 → (pM f l false).2 = true) ∧ (l.length % 2 = 0 → match rG 0 l with
      | some x => x.1 = [] ∧ pM f l false = (x.2, false)
      | none => (pM f l false).2 = true)
  | m, f, [], _, hf => by
    obtain ⟨f, rfl⟩ : ∃ g, f = g + 1 := ⟨f - 1, by omega⟩
    exact ⟨by simp, fun _ => by simp [rG, pM]⟩
  | m, f, [p], _, hf => by
    obtain ⟨f, rfl⟩ : ∃ g, f = g + 1 := ⟨f - 1, by simp at hf; omega⟩
    refine ⟨fun _ => ?_, by simp⟩
    simp only [pM, cT, cD, Bool.true_or]
    simp only [List.cons_ne_nil, Bool.false_eq_true, or_self, if_false]
    exact pM_bad f []
  | 0, f, p :: s :: r, hm, hf => by simp at hm
  | m + 1, f, p :: s :: r, hm, hf => by
    obtain ⟨f, rfl⟩ : ∃ g, f = g + 1 := ⟨f - 1, by simp at hf; omega⟩
    have ih := pM_spec m f r (by simp at hm; omega) (by simp at hf; omega)
    have e : pM (f + 1) (p :: s :: r) false = (⟨p, digV s⟩ :: (pM f r (decide (s.length ≠ 32))).1, (pM f r (decide (s.length ≠ 32))).2) := by
      rw [pM, if_neg (by simp)]
      rfl
    rw [e]
    by_cases h32 : s.length = 32
    · have hd : decide (s.length ≠ 32) = false := by simp [h32]
      rw [hd]
      refine ⟨fun ho => ih.1 (by simp at ho; omega), fun he => ?_⟩
      have h2 := ih.2 (by simp at he; omega)
      unfold rG
      rw [if_pos h32]
      cases hg : rG 0 r with
      | none => rw [hg] at h2; simpa using h2
      | some x =>
        rw [hg] at h2
        simp only [Option.map_some]
        refine ⟨h2.1, ?_⟩
        rw [h2.2, digV_eq h32]
    · have hd : decide (s.length ≠ 32) = true := by simp [h32]
      rw [hd]
      refine ⟨fun _ => pM_bad f r, fun he => ?_⟩
      unfold rG
      rw [if_neg h32]
      exact pM_bad f r
theorem pR_spec : ∀ (n : Nat) (l : List (List UInt8)) (f : Nat), 2 * n ≤ l.length → l.length < f →
    (l.length % 2 = 1 → (pM f (pR n l false).2.1 (pR n l false).2.2).2 = true) ∧ (l.length % 2 = 0 → match rG n l with
      | some x => (pR n l false).1 = x.1 ∧ pM f (pR n l false).2.1 (pR n l false).2.2 = (x.2, false)
      | none => (pM f (pR n l false).2.1 (pR n l false).2.2).2 = true)
  | 0, l, f, _, hf => by
    have := pM_spec l.length f l (Nat.le_refl _) hf
    refine ⟨this.1, fun he => ?_⟩
    have h2 := this.2 he
    simp only [pR]
    cases hg : rG 0 l with
    | none => rw [hg] at h2; exact h2
    | some x => rw [hg] at h2; exact ⟨h2.1.symm, h2.2⟩
  | n + 1, [], f, h, _ => by simp at h
  | n + 1, [p], f, h, _ => by simp at h; omega
  | n + 1, p :: s :: r, f, h, hf => by
    have ih := pR_spec n r f (by simp at h; omega) (by simp at hf; omega)
    unfold rG
    by_cases hs : s = []
    · subst hs
      have hc : cR (p :: [] :: r) false = (⟨p, false, zero32⟩, r, false) := by simp [cR, cT]
      simp only [pR, hc, if_true]
      refine ⟨fun ho => ih.1 (by simp at ho; omega), fun he => ?_⟩
      have h2 := ih.2 (by simp at he; omega)
      cases hg : rG n r with
      | none => rw [hg] at h2; exact h2
      | some x => rw [hg] at h2; simp only [Option.map_some]; exact ⟨by rw [h2.1], h2.2⟩
    · have hc : cR (p :: s :: r) false = (⟨p, true, digV s⟩, r, decide (s.length ≠ 32)) := by
        unfold cR
        rw [if_neg (by simpa [cT] using hs)]
        rfl
      simp only [pR, hc, if_neg hs]
      by_cases h32 : s.length = 32
      · have hd : decide (s.length ≠ 32) = false := by simp [h32]
        rw [hd, if_pos h32]
        refine ⟨fun ho => ih.1 (by simp at ho; omega), fun he => ?_⟩
        have h2 := ih.2 (by simp at he; omega)
        cases hg : rG n r with
        | none => rw [hg] at h2; exact h2
        | some x => rw [hg] at h2; simp only [Option.map_some]; exact ⟨by rw [h2.1, digV_eq h32], h2.2⟩
      · have hd : decide (s.length ≠ 32) = true := by simp [h32]
        rw [hd, if_neg h32]
        have hb : (pM f (pR n r true).2.1 (pR n r true).2.2).2 = true := by rw [pR_bad]; exact pM_bad _ _
        exact ⟨fun _ => hb, fun _ => hb⟩
theorem readP_G (l : List (List UInt8)) : readP l = readG l := by
  have bad : ∀ (n : Nat) (l2 : List (List UInt8)) (f : Nat), (pM f (pR n l2 true).2.1 (pR n l2 true).2.2).2 = true := fun n l2 f => by rw [pR_bad]; exact pM_bad _ _
  unfold readP
  simp only
  cases l with
  | nil =>
    have h1 : cD [] false = (digV [], [], true) := by simp [cD, cT]
    have h2 : (cN [] true).2.2 = true := by unfold cN; split <;> (try split) <;> rfl
    rw [h1, h2, if_pos (bad _ _ _)]; rfl
  | cons k l =>
    cases l with
    | nil =>
      have h2 : ∀ b, (cN [] b).2.2 = true := fun b => by unfold cN; split <;> (try split) <;> rfl
      have h1 : (cD [k] false).2.1 = [] := rfl
      rw [h1, h2, if_pos (bad _ _ _)]; rfl
    | cons c r =>
      have h1 : cD (k :: c :: r) false = (digV k, c :: r, decide (k.length ≠ 32)) := rfl
      rw [h1]
      simp only [readG]
      by_cases hk : k.length = 32
      rotate_left
      · have hd : decide (k.length ≠ 32) = true := by simp [hk]
        have h2 : (cN (c :: r) true).2.2 = true := by unfold cN; split <;> (try split) <;> rfl
        rw [hd, h2, if_pos (bad _ _ _), if_pos (.inr hk)]
      have hd : decide (k.length ≠ 32) = false := by simp [hk]
      rw [hd, digV_eq hk]
      cases hi : intV c with
      | none =>
        have h2 : cN (c :: r) false = (0, r, true) := by simp only [cN, cT, hi]
        rw [h2, if_pos (bad _ _ _)]
        split <;> rfl
      | some n =>
        by_cases hn : 0 ≤ n ∧ n ≤ ((r.length / 2 : Nat) : Int)
        rotate_left
        · have h2 : cN (c :: r) false = (0, r, true) := by
            simp only [cN, cT, hi]
            exact if_neg hn
          rw [h2, if_pos (bad _ _ _)]
          split
          · rfl
          · simp only; rw [if_pos (by omega)]
        have h2 : cN (c :: r) false = (n, r, false) := by
          simp only [cN, cT, hi]
          exact if_pos hn
        have hsp := pR_spec n.toNat r ((k :: c :: r).length + 1) (by omega) (by simp; omega)
        rw [h2]
        simp only
        by_cases ho : r.length % 2 = 1
        · rw [if_pos (hsp.1 ho), if_pos (.inl ho)]
        · have h3 := hsp.2 (by omega)
          have c1 : ¬ (r.length % 2 = 1 ∨ k.length ≠ 32) := by omega
          have c2 : ¬ (n < 0 ∨ (r.length : Int) < 2 * n) := by omega
          rw [if_neg c1, if_neg c2]
          cases hg : rG n.toNat r with
          | none => rw [hg] at h3; simp only at h3; rw [if_pos h3]
          | some x =>
            rw [hg] at h3
            simp only at h3 ⊢
            rw [h3.2, if_neg (by simp), h3.1]
end Go.Proofs.YthdgnfnalimcnaaGreatDoor
end
section
set_option maxRecDepth 100000
/-! Rows of texts taken apart: the document. -/
namespace Go.Proofs.YthdgnfnalimcnaaGreatDoor
open Go Go.Ab
open Classical
variable [Sel] [SelPow]

@[simp] theorem fnok51 : fnOK Tryz.prog 51 = true := by kernel_rfl
@[simp] theorem isne51 : isNE Tryz.prog (.func 51) = false := isNE_func fnok51
set_option maxHeartbeats 16000000 in
theorem rtexts_ok (b : List UInt8) (hb : b.length ≤ 1000000000) : PC Tryz.prog 51 [.av .str (.s b)] (textsTV (textsV b)) := by
  obtain ⟨R, hR⟩ : ∃ R, textsV b = R := ⟨_, rfl⟩
  rw [hR]
  unfold textsV at hR
  refine PC.of <| ACalls.of_vc laid mixed Tryz.func51 rfl (by kernel_rfl) cf0 (by simp [Tryz.ntmps51]) fun imm0 w0 => ?_
  (simp (maxSteps := 2000000) (disch := first | omega | assumption) [zz])
  refine AT.loop' (α := Nat × Nat × List (List UInt8) × Nat) (fun x => St.of [(0, .av .str (.s b)), (4, .av (.slice 9) (.sl (if x.1 = 0 then .full else .own 73 x.1) (strs' x.2.2.1))), (5, .av (.int .i64) (.i .i64 x.2.2.2))] [] (fun j => if j = 73 then x.1 else 0) [])
    (fun x => textsA x.2.1 x.2.2.1 (b.drop x.2.2.2) = R ∧ x.2.2.2 ≤ b.length ∧ b.length - x.2.2.2 < x.2.1 ∧ x.2.2.1.length ≤ x.2.2.2 ∧ (x.1 = 0 → x.2.2.1 = [])) (fun x => x.2.1) (0, b.length + 1, [], 0) ?_ ?_ ?_
  · refine Le.of ?_ ?_ ?_ ?_ ?_ <;> simp [leTV, locsIn, encDigs, encTraces, encWant, encTrace, encReads, encRead, encMades, encMade, strs'] <;> try omega
  · exact ⟨by simpa using hR, by simp, by simp, by simp, fun _ => rfl⟩
  rintro ⟨tk, f, out, p⟩ ⟨hr, hp, hf, hlen, h0⟩ KL hN hE
  simp only at hr hp hf hlen h0 hN
  refine vc_sound (cf := cf0) laid mixed _ _ _ (by kernel_rfl) ?_
  cases f with
  | zero => omega
  | succ f =>
  unfold textsA at hr
  by_cases hlt : p < b.length
  rotate_left
  · have hlt' : ¬ (p : Int) < b.length := by omega
    rw [if_pos (List.drop_eq_nil_of_le (by omega))] at hr
    (simp (maxSteps := 2000000) (disch := first | omega | assumption) [zz, hlt'])
    refine hE _ _ (by simp) ?_
    (simp (maxSteps := 2000000) (disch := first | omega | assumption) [zz, Tryz.f51, ← hr, textsTV])
  have hlt' : (p : Int) < b.length := by omega
  rw [if_neg (by intro e; have := congrArg List.length e; simp at this; omega)] at hr
  obtain ⟨Hd, hHd⟩ : ∃ Hd, headV 0 0 (b.drop p) = Hd := ⟨_, rfl⟩
  rw [hHd] at hr
  (simp (maxSteps := 2000000) (disch := first | omega | assumption) [zz, hlt'])
  refine AT.loop' (α := Nat × Nat) (fun x => St.of [(0, .av .str (.s b)), (4, .av (.slice 9) (.sl (if tk = 0 then .full else .own 73 tk) (strs' out))), (5, .av (.int .i64) (.i .i64 (p + x.1 : Nat))), (6, .av (.int .i64) (.i .i64 x.2)), (7, .av (.int .i64) (.i .i64 x.1))] [] (fun j => if j = 73 then tk else 0) [])
    (fun x => headV x.1 x.2 (b.drop (p + x.1)) = Hd ∧ p + x.1 ≤ b.length ∧ x.1 ≤ 9 ∧ x.2 < 10 ^ x.1) (fun x => b.length - x.1) (0, 0) ?_ ?_ ?_
  · refine Le.of ?_ ?_ ?_ ?_ ?_ <;> simp [leTV, locsIn, encDigs, encTraces, encWant, encTrace, encReads, encRead, encMades, encMade, ] <;> try omega
  · exact ⟨hHd, by simp; omega, by simp, by simp⟩
  rintro ⟨k, n⟩ ⟨hh, hk, h9, hn⟩ KL2 hN2 hE2
  simp only at hh hk h9 hn hN2
  have hn9 : n < 1000000000 := Nat.lt_of_lt_of_le hn (Nat.pow_le_pow_right (by decide) h9)
  obtain ⟨q, hq⟩ : ∃ q, q = p + k := ⟨_, rfl⟩
  rw [← hq] at hh hk
  have hpk : (p : Int) + k = q := by omega
  refine vc_sound (cf := cf0) laid mixed _ _ _ (by kernel_rfl) ?_
  by_cases hqe : q = b.length
  · have hq' : ¬ (q : Int) < b.length := by omega
    have hq2 : (q : Int) = b.length := by omega
    rw [List.drop_eq_nil_of_le (by omega)] at hh
    simp only [headV] at hh
    rw [← hh] at hr
    simp only at hr
    (simp (maxSteps := 2000000) (disch := first | omega | assumption) [zz, hpk, hq', hqe])
    refine hE2 _ _ (by simp) ?_
    (simp (maxSteps := 2000000) (disch := first | omega | assumption) [zz, hpk, hqe])
    refine hE _ _ (by simp) ?_
    (simp (maxSteps := 2000000) (disch := first | omega | assumption) [zz, Tryz.f51, ← hr, textsTV, strs'])
  have hql : q < b.length := by omega
  have hq' : (q : Int) < b.length := by omega
  have hd : b.drop q = b[q] :: b.drop (q+1) := (List.getElem_cons_drop (h := hql)).symm
  obtain ⟨c, hc⟩ : ∃ c, b[q] = c := ⟨_, rfl⟩
  rw [hc] at hd
  have hc256 : c.toNat < 256 := c.toNat_lt
  rw [hd] at hh
  unfold headV at hh
  (simp (maxSteps := 2000000) (disch := first | omega | assumption) [zz, hpk, hq', hql, hc])
  refine callV_pc (digit_ok c) rfl rfl (by simp) (by simp [argLe, TV.er, AV.er]) ?_
  by_cases hdg : digB c = true
  · have hd48 : 48 ≤ c.toNat := by simp only [digB, Bool.and_eq_true, decide_eq_true_eq] at hdg; exact hdg.1
    have h58 : ¬ c = 58 := by rintro rfl; simp [digB] at hdg
    rw [if_neg (by simp [h58])] at hh
    rcases Nat.eq_zero_or_pos k with rfl | hk0
    · have hn00 : n = 0 := by simpa using hn
      subst hn00
      rw [if_neg (by simp [hdg])] at hh
      (simp (maxSteps := 2000000) (disch := first | omega | assumption) [zz, hdg, hql, hc])
      refine hN2 _ (1, c.toNat - 48) ?_ ⟨by simp only; rw [show p + 1 = q + 1 by omega]; simpa using hh, by simp only; omega, by simp, by simp only [Nat.pow_one]; have : c.toNat ≤ 57 := by { simp only [digB, Bool.and_eq_true, decide_eq_true_eq] at hdg; exact hdg.2 }; omega⟩ (by simp only; omega)
      refine Le.of ?_ ?_ ?_ ?_ ?_ <;> simp [leTV, locsIn, encDigs, encTraces, encWant, encTrace, encReads, encRead, encMades, encMade, ] <;> try omega
    have hk0' : (0 : Int) < k := by omega
    by_cases hn0 : n = 0
    · subst hn0
      rw [if_pos (.inr (.inr ⟨hk0, rfl⟩))] at hh
      rw [← hh] at hr
      simp only at hr
      (simp (maxSteps := 2000000) (disch := first | omega | assumption) [zz, hdg, hk0, hk0'])
      refine hE2 _ _ (by simp) ?_
      (simp (maxSteps := 2000000) (disch := first | omega | assumption) [zz])
      refine hE _ _ (by simp) ?_
      (simp (maxSteps := 2000000) (disch := first | omega | assumption) [zz, Tryz.f51, ← hr, textsTV, strs'])
    have hn0' : ¬ (n : Int) = 0 := by omega
    by_cases hk9 : k = 9
    · rw [if_pos (.inr (.inl hk9))] at hh
      subst hk9
      rw [← hh] at hr
      simp only at hr
      (simp (maxSteps := 2000000) (disch := first | omega | assumption) [zz, hdg, hn0, hn0'])
      refine hE2 _ _ (by simp) ?_
      (simp (maxSteps := 2000000) (disch := first | omega | assumption) [zz])
      refine hE _ _ (by simp) ?_
      (simp (maxSteps := 2000000) (disch := first | omega | assumption) [zz, Tryz.f51, ← hr, textsTV, strs'])
    have hk9' : ¬ (k : Int) = 9 := by omega
    rw [if_neg (by simp [hdg, hk9, hn0])] at hh
    (simp (maxSteps := 2000000) (disch := first | omega | assumption) [zz, hdg, hk0, hk0', hn0, hn0', hk9, hk9', hql, hc])
    refine hN2 _ (k + 1, 10 * n + (c.toNat - 48)) ?_ ⟨by simp only; rw [show p + (k + 1) = q + 1 by omega]; exact hh, by simp only; omega, by simp only; omega, by simp only [Nat.pow_succ]; have : c.toNat ≤ 57 := by { simp only [digB, Bool.and_eq_true, decide_eq_true_eq] at hdg; exact hdg.2 }; omega⟩ (by simp only; omega)
    refine Le.of ?_ ?_ ?_ ?_ ?_ <;> simp [leTV, locsIn, encDigs, encTraces, encWant, encTrace, encReads, encRead, encMades, encMade, ] <;> try omega
  have hdg' : digB c = false := by simpa using hdg
  have hqe' : ¬ (q : Int) = b.length := by omega
  (simp (maxSteps := 2000000) (disch := first | omega | assumption) [zz, hdg'])
  refine hE2 _ _ (by simp) ?_
  by_cases hck : c = 58 ∧ 0 < k
  rotate_left
  · rw [if_neg hck, if_pos (.inl hdg')] at hh
    rw [← hh] at hr
    simp only at hr
    rcases Nat.eq_zero_or_pos k with rfl | hk0
    · (simp (maxSteps := 2000000) (disch := first | omega | assumption) [zz, hpk, hqe, hqe'])
      refine hE _ _ (by simp) ?_
      (simp (maxSteps := 2000000) (disch := first | omega | assumption) [zz, Tryz.f51, ← hr, textsTV, strs'])
    · have hkz : ¬ k = 0 := by omega
      have hkz' : ¬ (k : Int) = 0 := by omega
      have h58 : ¬ c = 58 := fun e => hck ⟨e, hk0⟩
      have h58' : ¬ (c.toNat : Int) = 58 := by have := u8_ne (n := 58) (by omega) h58; simpa using this
      (simp (maxSteps := 2000000) (disch := first | omega | assumption) [zz, hpk, hqe, hqe', hkz, hkz', hql, hc, h58'])
      refine hE _ _ (by simp) ?_
      (simp (maxSteps := 2000000) (disch := first | omega | assumption) [zz, Tryz.f51, ← hr, textsTV, strs'])
  obtain ⟨rfl, hk0⟩ := hck
  have hkz : ¬ k = 0 := by omega
  have hkz' : ¬ (k : Int) = 0 := by omega
  rw [if_pos ⟨rfl, hk0⟩] at hh
  rw [← hh] at hr
  simp only [List.length_drop] at hr
  by_cases hsh : b.length - (q + 1) < n
  · have hsh' : (b.length : Int) - (q + 1) < n := by omega
    rw [if_pos hsh] at hr
    (simp (maxSteps := 2000000) (disch := first | omega | assumption) [zz, hpk, hqe, hqe', hkz, hkz', hql, hc, hsh'])
    refine hE _ _ (by simp) ?_
    (simp (maxSteps := 2000000) (disch := first | omega | assumption) [zz, Tryz.f51, ← hr, textsTV, strs'])
  have hsh' : ¬ (b.length : Int) - (q + 1) < n := by omega
  rw [if_neg hsh] at hr
  have hs1 : List.drop (q + 1) (List.take (q + 1 + n) b) = List.take n (List.drop (q + 1) b) := by
    rw [List.drop_take]; congr 1; omega
  have hle : (q : Int) + 1 + n ≤ b.length := by omega
  rw [List.drop_drop] at hr
  cases tk with
  | zero =>
    obtain rfl := h0 rfl
    (simp (maxSteps := 2000000) (disch := first | omega | assumption) [zz, hpk, hqe, hqe', hkz, hkz', hql, hc, hsh', hs1, hle, appendV, strs'])
    (repeat ((with_reducible refine And.intro ?_ ?_); (· first | omega | (show barB _ _ = true; kernel_rfl) | (show rdJ _ _ _ _ _ = true; kernel_rfl) | (show tailB _ _ _ = true; kernel_rfl) | (show sftB _ _ _ = true; kernel_rfl))))
    refine hN _ (1, f, [(b.drop (q + 1)).take n], q + 1 + n) ?_ ⟨by simpa using hr, by simp only; omega, by simp only; omega, by simp only [List.length_cons, List.length_nil]; omega, by simp⟩ (by simp only; omega)
    refine Le.of ?_ ?_ ?_ ?_ ?_ <;> simp [leTV, locsIn, encDigs, encTraces, encWant, encTrace, encReads, encRead, encMades, encMade, strs'] <;> try omega
  | succ tk =>
    (simp (maxSteps := 2000000) (disch := first | omega | assumption) [zz, hpk, hqe, hqe', hkz, hkz', hql, hc, hsh', hs1, hle, appendV])
    (repeat ((with_reducible refine And.intro ?_ ?_); (· first | omega | (show barB _ _ = true; kernel_rfl) | (show rdJ _ _ _ _ _ = true; kernel_rfl) | (show tailB _ _ _ = true; kernel_rfl) | (show sftB _ _ _ = true; kernel_rfl))))
    refine hN _ (tk + 2, f, out ++ [(b.drop (q + 1)).take n], q + 1 + n) ?_ ⟨hr, by simp only; omega, by simp only; omega, by simp; omega, by simp⟩ (by simp only; omega)
    refine Le.of ?_ ?_ ?_ ?_ ?_ <;> simp [leTV, locsIn, encDigs, encTraces, encWant, encTrace, encReads, encRead, encMades, encMade, strs'] <;> try omega
    all_goals (intro j; by_cases hj : j = 73 <;> simp [hj])
end Go.Proofs.YthdgnfnalimcnaaGreatDoor
end
