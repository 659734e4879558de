/- A trace of bytes: what both programs come to. No condition beyond each theorem's own. -/
import Derived.Test.YthdgnfnalimcnaaGreatDoorP48
import Derived.Test.YthdgnfnalimcnaaGreatDoorP41ToP42
import Derived.Test.YthdgnfnalimcnaaGreatDoorP40To3
set_option linter.unusedSimpArgs false
set_option linter.unusedVariables false
set_option linter.unusedSectionVars false
section
set_option maxRecDepth 100000
/-! A trace of bytes: what both programs come to. -/
namespace Go.Proofs.YthdgnfnalimcnaaGreatDoor
open Go Go.Ab
open Classical
variable [Sel] [SelPow] [SelErr]

def rG : Nat → List (List UInt8) → Option (List Read × List Made)
  | n + 1, p :: s :: r => if s = [] then (rG n r).map fun x => (⟨p, false, zero32⟩ :: x.1, x.2)
      else if s.length = 32 then (rG n r).map fun x => (⟨p, true, s⟩ :: x.1, x.2) else none
  | 0, p :: s :: r => if s.length = 32 then (rG 0 r).map fun x => (x.1, ⟨p, s⟩ :: x.2) else none
  | _, _ => some ([], [])
noncomputable def readG (l : List (List UInt8)) : Trace × Int :=
  match l with
  | k :: c :: r => if r.length % 2 = 1 ∨ k.length ≠ 32 then (tr0, 3) else match intV c with
    | none => (tr0, 3)
    | some n => if n < 0 ∨ (r.length : Int) < 2 * n then (tr0, 3) else match rG n.toNat r with
      | none => (tr0, 3)
      | some x => chkT ⟨k, x.1, x.2⟩
  | _ => (tr0, 3)
theorem cR_bad (l : List (List UInt8)) : (cR l true).2.2 = true := by
  unfold cR
  have h : ∀ l, (cT l true).2.2 = true := fun l => by cases l <;> rfl
  split
  · exact h l
  · simp only [cD, h, Bool.true_or]
theorem pR_bad : ∀ (n : Nat) (l : List (List UInt8)), (pR n l true).2.2 = true
  | 0, l => rfl
  | n + 1, l => by simp only [pR, cR_bad]; exact pR_bad n _
theorem pM_bad (f : Nat) (l : List (List UInt8)) : (pM f l true).2 = true := by cases f <;> simp [pM]
theorem pM_spec : ∀ (m : Nat) (f : Nat) (l : List (List UInt8)), l.length ≤ m → l.length < f →
    (l.length % 2 = 1 → (pM f l false).2 = true) ∧ (l.length % 2 = 0 → match rG 0 l with
      | some x => x.1 = [] ∧ pM f l false = (x.2, false)
      | none => (pM f l false).2 = true)
  | m, f, [], _, hf => by
    obtain ⟨f, rfl⟩ : ∃ g, f = g + 1 := ⟨f - 1, by omega⟩
    exact ⟨by simp, fun _ => by simp [rG, pM]⟩
  | m, f, [p], _, hf => by
    obtain ⟨f, rfl⟩ : ∃ g, f = g + 1 := ⟨f - 1, by simp at hf; omega⟩
    refine ⟨fun _ => ?_, by simp⟩
    simp only [pM, cT, cD, Bool.true_or]
    simp only [List.cons_ne_nil, Bool.false_eq_true, or_self, if_false]
    exact pM_bad f []
  | 0, f, p :: s :: r, hm, hf => by simp at hm
  | m + 1, f, p :: s :: r, hm, hf => by
    obtain ⟨f, rfl⟩ : ∃ g, f = g + 1 := ⟨f - 1, by simp at hf; omega⟩
    have ih := pM_spec m f r (by simp at hm; omega) (by simp at hf; omega)
    have e : pM (f + 1) (p :: s :: r) false = (⟨p, digV s⟩ :: (pM f r (decide (s.length ≠ 32))).1, (pM f r (decide (s.length ≠ 32))).2) := by
      rw [pM, if_neg (by simp)]
      rfl
    rw [e]
    by_cases h32 : s.length = 32
    · have hd : decide (s.length ≠ 32) = false := by simp [h32]
      rw [hd]
      refine ⟨fun ho => ih.1 (by simp at ho; omega), fun he => ?_⟩
      have h2 := ih.2 (by simp at he; omega)
      unfold rG
      rw [if_pos h32]
      cases hg : rG 0 r with
      | none => rw [hg] at h2; simpa using h2
      | some x =>
        rw [hg] at h2
        simp only [Option.map_some]
        refine ⟨h2.1, ?_⟩
        rw [h2.2, digV_eq h32]
    · have hd : decide (s.length ≠ 32) = true := by simp [h32]
      rw [hd]
      refine ⟨fun _ => pM_bad f r, fun he => ?_⟩
      unfold rG
      rw [if_neg h32]
      exact pM_bad f r
theorem pR_spec : ∀ (n : Nat) (l : List (List UInt8)) (f : Nat), 2 * n ≤ l.length → l.length < f →
    (l.length % 2 = 1 → (pM f (pR n l false).2.1 (pR n l false).2.2).2 = true) ∧ (l.length % 2 = 0 → match rG n l with
      | some x => (pR n l false).1 = x.1 ∧ pM f (pR n l false).2.1 (pR n l false).2.2 = (x.2, false)
      | none => (pM f (pR n l false).2.1 (pR n l false).2.2).2 = true)
  | 0, l, f, _, hf => by
    have := pM_spec l.length f l (Nat.le_refl _) hf
    refine ⟨this.1, fun he => ?_⟩
    have h2 := this.2 he
    simp only [pR]
    cases hg : rG 0 l with
    | none => rw [hg] at h2; exact h2
    | some x => rw [hg] at h2; exact ⟨h2.1.symm, h2.2⟩
  | n + 1, [], f, h, _ => by simp at h
  | n + 1, [p], f, h, _ => by simp at h; omega
  | n + 1, p :: s :: r, f, h, hf => by
    have ih := pR_spec n r f (by simp at h; omega) (by simp at hf; omega)
    unfold rG
    by_cases hs : s = []
    · subst hs
      have hc : cR (p :: [] :: r) false = (⟨p, false, zero32⟩, r, false) := by simp [cR, cT]
      simp only [pR, hc, if_true]
      refine ⟨fun ho => ih.1 (by simp at ho; omega), fun he => ?_⟩
      have h2 := ih.2 (by simp at he; omega)
      cases hg : rG n r with
      | none => rw [hg] at h2; exact h2
      | some x => rw [hg] at h2; simp only [Option.map_some]; exact ⟨by rw [h2.1], h2.2⟩
    · have hc : cR (p :: s :: r) false = (⟨p, true, digV s⟩, r, decide (s.length ≠ 32)) := by
        unfold cR
        rw [if_neg (by simpa [cT] using hs)]
        rfl
      simp only [pR, hc, if_neg hs]
      by_cases h32 : s.length = 32
      · have hd : decide (s.length ≠ 32) = false := by simp [h32]
        rw [hd, if_pos h32]
        refine ⟨fun ho => ih.1 (by simp at ho; omega), fun he => ?_⟩
        have h2 := ih.2 (by simp at he; omega)
        cases hg : rG n r with
        | none => rw [hg] at h2; exact h2
        | some x => rw [hg] at h2; simp only [Option.map_some]; exact ⟨by rw [h2.1, digV_eq h32], h2.2⟩
      · have hd : decide (s.length ≠ 32) = true := by simp [h32]
        rw [hd, if_neg h32]
        have hb : (pM f (pR n r true).2.1 (pR n r true).2.2).2 = true := by rw [pR_bad]; exact pM_bad _ _
        exact ⟨fun _ => hb, fun _ => hb⟩
theorem readP_G (l : List (List UInt8)) : readP l = readG l := by
  have bad : ∀ (n : Nat) (l2 : List (List UInt8)) (f : Nat), (pM f (pR n l2 true).2.1 (pR n l2 true).2.2).2 = true := fun n l2 f => by rw [pR_bad]; exact pM_bad _ _
  unfold readP
  simp only
  cases l with
  | nil =>
    have h1 : cD [] false = (digV [], [], true) := by simp [cD, cT]
    have h2 : (cN [] true).2.2 = true := by unfold cN; split <;> (try split) <;> rfl
    rw [h1, h2, if_pos (bad _ _ _)]; rfl
  | cons k l =>
    cases l with
    | nil =>
      have h2 : ∀ b, (cN [] b).2.2 = true := fun b => by unfold cN; split <;> (try split) <;> rfl
      have h1 : (cD [k] false).2.1 = [] := rfl
      rw [h1, h2, if_pos (bad _ _ _)]; rfl
    | cons c r =>
      have h1 : cD (k :: c :: r) false = (digV k, c :: r, decide (k.length ≠ 32)) := rfl
      rw [h1]
      simp only [readG]
      by_cases hk : k.length = 32
      rotate_left
      · have hd : decide (k.length ≠ 32) = true := by simp [hk]
        have h2 : (cN (c :: r) true).2.2 = true := by unfold cN; split <;> (try split) <;> rfl
        rw [hd, h2, if_pos (bad _ _ _), if_pos (.inr hk)]
      have hd : decide (k.length ≠ 32) = false := by simp [hk]
      rw [hd, digV_eq hk]
      cases hi : intV c with
      | none =>
        have h2 : cN (c :: r) false = (0, r, true) := by simp only [cN, cT, hi]
        rw [h2, if_pos (bad _ _ _)]
        split <;> rfl
      | some n =>
        by_cases hn : 0 ≤ n ∧ n ≤ ((r.length / 2 : Nat) : Int)
        rotate_left
        · have h2 : cN (c :: r) false = (0, r, true) := by
            simp only [cN, cT, hi]
            exact if_neg hn
          rw [h2, if_pos (bad _ _ _)]
          split
          · rfl
          · simp only; rw [if_pos (by omega)]
        have h2 : cN (c :: r) false = (n, r, false) := by
          simp only [cN, cT, hi]
          exact if_pos hn
        have hsp := pR_spec n.toNat r ((k :: c :: r).length + 1) (by omega) (by simp; omega)
        rw [h2]
        simp only
        by_cases ho : r.length % 2 = 1
        · rw [if_pos (hsp.1 ho), if_pos (.inl ho)]
        · have h3 := hsp.2 (by omega)
          have c1 : ¬ (r.length % 2 = 1 ∨ k.length ≠ 32) := by omega
          have c2 : ¬ (n < 0 ∨ (r.length : Int) < 2 * n) := by omega
          rw [if_neg c1, if_neg c2]
          cases hg : rG n.toNat r with
          | none => rw [hg] at h3; simp only at h3; rw [if_pos h3]
          | some x =>
            rw [hg] at h3
            simp only at h3 ⊢
            rw [h3.2, if_neg (by simp), h3.1]
end Go.Proofs.YthdgnfnalimcnaaGreatDoor
end
section
set_option maxRecDepth 100000
/-! Rows of texts taken apart: the document. -/
namespace Go.Proofs.YthdgnfnalimcnaaGreatDoor
open Go Go.Ab
open Classical
variable [Sel] [SelPow]

@[simp] theorem fnok51 : fnOK Tryz.prog 51 = true := by kernel_rfl
@[simp] theorem isne51 : isNE Tryz.prog (.func 51) = false := isNE_func fnok51
end Go.Proofs.YthdgnfnalimcnaaGreatDoor
end
