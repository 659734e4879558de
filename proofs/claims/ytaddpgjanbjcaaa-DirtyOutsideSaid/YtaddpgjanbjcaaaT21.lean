/- The cone is the least closed set: the document's growing set is it. No condition beyond each theorem's own. -/
import Derived.Test.YtaddpgjanbjcaaaT19
set_option linter.unusedSimpArgs false
set_option linter.unusedVariables false
set_option linter.unusedSectionVars false
set_option maxRecDepth 100000
/-! The cone is the least closed set: the document's growing set is it. -/
namespace Go.Proofs.Ytaddpgjanbjcaaa
open Go Go.Ab
open Classical

section
variable (l : List Act) (last : List Trace) (chg : List Chg)

def closedV (S : List Bool) : Prop := ∀ i, i < l.length → inV l last chg S i = true → S[i]? = some true
def leV (S T : List Bool) : Prop := ∀ i : Nat, S[i]? = some true → T[i]? = some true
def leastV (S : List Bool) : Prop := S.length = l.length ∧ closedV l last chg S ∧ ∀ T, T.length = l.length → closedV l last chg T → leV S T

theorem leV_refl (S : List Bool) : leV S S := fun _ h => h
theorem leV_trans {S T U : List Bool} (h : leV S T) (k : leV T U) : leV S U := fun i e => k i (h i e)
theorem leV_eq {S T : List Bool} (hl : S.length = T.length) (h : leV S T) (k : leV T S) : S = T := by
  apply List.ext_getElem hl
  intro i h1 h2
  have a := h i; have b := k i
  simp only [List.getElem?_eq_getElem h1, List.getElem?_eq_getElem h2, Option.some.injEq] at a b
  cases e1 : S[i] <;> cases e2 : T[i] <;> simp_all
theorem least_eq {S T : List Bool} (h : leastV l last chg S) (k : leastV l last chg T) : S = T :=
  leV_eq (h.1.trans k.1.symm) (h.2.2 T k.1 k.2.1) (k.2.2 S h.1 h.2.1)

theorem zip_any {S : List Bool} {rs : List Read} (hS : S.length = l.length) : ((l.zip S).any fun p => p.2 && hits rs p.1.outs) = true ↔ ∃ k, ∃ h : k < l.length, S[k]? = some true ∧ hits rs l[k].outs = true := by
  rw [List.any_eq_true]
  constructor
  · rintro ⟨⟨a, b⟩, hm, hp⟩
    rw [List.mem_iff_getElem] at hm
    obtain ⟨k, hk, e⟩ := hm
    simp only [List.getElem_zip, Prod.mk.injEq] at e
    simp only [Bool.and_eq_true] at hp
    have hk' : k < l.length := by simp at hk; omega
    have hk2 : k < S.length := by omega
    refine ⟨k, hk', ?_, ?_⟩
    · rw [List.getElem?_eq_getElem hk2, e.2]; simp [hp.1]
    · rw [e.1]; exact hp.2
  · rintro ⟨k, hk, h1, h2⟩
    have hk2 : k < S.length := by omega
    rw [List.getElem?_eq_getElem hk2] at h1
    refine ⟨(l[k], true), ?_, by simpa using h2⟩
    rw [List.mem_iff_getElem]
    exact ⟨k, by simp; omega, by simp only [List.getElem_zip, Prod.mk.injEq, true_and]; simpa using h1⟩
theorem inV_iff {S : List Bool} (hS : S.length = l.length) (i : Nat) : inV l last chg S i = true ↔ (last[i]? = none ∨ ∃ t, last[i]? = some t ∧ (t.key = zero32 ∨ (∃ c ∈ chg, knowsV t.reads c.path = true) ∨ ∃ k, ∃ h : k < l.length, S[k]? = some true ∧ hits t.reads l[k].outs = true)) := by
  unfold inV
  cases h : last[i]? with
  | none => simp
  | some t =>
    simp only [Bool.or_eq_true, decide_eq_true_eq, List.any_eq_true (p := fun c : Chg => knowsV t.reads c.path), zip_any l hS]
    simp [or_assoc]
theorem inV_mono {S T : List Bool} (hS : S.length = l.length) (hT : T.length = l.length) (h : leV S T) {i : Nat} (hi : inV l last chg S i = true) : inV l last chg T i = true := by
  rw [inV_iff l last chg hS] at hi
  rw [inV_iff l last chg hT]
  rcases hi with h1 | ⟨t, h1, h2⟩
  · exact .inl h1
  · refine .inr ⟨t, h1, ?_⟩
    rcases h2 with h2 | h2 | ⟨k, hk, h3, h4⟩
    · exact .inl h2
    · exact .inr (.inl h2)
    · exact .inr (.inr ⟨k, hk, h k h3, h4⟩)

theorem step_get {S : List Bool} {i j : Nat} : (stepV l last chg S i)[j]? = some true ↔ S[j]? = some true ∨ (j = i ∧ i < S.length ∧ inV l last chg S i = true) := by
  unfold stepV
  rw [List.getElem?_set]
  by_cases h : i = j
  · subst h
    simp only [if_true]
    by_cases hl : i < S.length
    · rw [if_pos hl, List.getElem?_eq_getElem hl]
      simp [hl]
    · rw [if_neg hl]
      simp [hl, List.getElem?_eq_none (Nat.le_of_not_lt hl)]
  · rw [if_neg h]
    simp [Ne.symm h]
theorem step_le {S : List Bool} {i : Nat} : leV S (stepV l last chg S i) := fun j h => (step_get l last chg).2 (.inl h)
theorem sweepTo_le {S : List Bool} : ∀ i, leV S (sweepTo l last chg S i)
  | 0 => leV_refl S
  | i + 1 => leV_trans (sweepTo_le i) (step_le l last chg)
theorem sweepTo_below {S T : List Bool} (hS : S.length = l.length) (hT : T.length = l.length) (hc : closedV l last chg T) (h : leV S T) : ∀ i, leV (sweepTo l last chg S i) T
  | 0 => h
  | i + 1 => by
    have ih := sweepTo_below hS hT hc h i
    intro j hj
    simp only [sweepTo] at hj
    rcases (step_get l last chg).1 hj with h1 | ⟨rfl, h2, h3⟩
    · exact ih j h1
    · have hl : j < l.length := by rw [len_sweepTo, hS] at h2; exact h2
      exact hc j hl (inV_mono l last chg (by simp [hS]) hT ih h3)
theorem sweeps_below {T : List Bool} (hT : T.length = l.length) (hc : closedV l last chg T) : ∀ n, leV (sweeps l last chg n) T
  | 0 => fun i h => by
    simp only [sweeps, List.getElem?_replicate] at h
    split at h <;> cases h
  | n + 1 => sweepTo_below l last chg (len_sweeps n) hT hc (sweeps_below hT hc n) l.length
/-- a sweep that changes nothing: all is in -/
theorem closed_of_still {S : List Bool} (hS : S.length = l.length) (h : leV (sweepTo l last chg S l.length) S) : closedV l last chg S := by
  intro i hi hin
  have h1 : leV S (sweepTo l last chg S i) := sweepTo_le l last chg i
  have h2 : (sweepTo l last chg S (i + 1))[i]? = some true := by
    simp only [sweepTo]
    rw [step_get]
    exact .inr ⟨rfl, by rw [len_sweepTo, hS]; exact hi, inV_mono l last chg hS (by simp [hS]) h1 hin⟩
  have up : ∀ k, i + 1 ≤ k → leV (sweepTo l last chg S (i + 1)) (sweepTo l last chg S k) := by
    intro k
    induction k with
    | zero => intro h; omega
    | succ k ih =>
      intro hk
      rcases Nat.lt_or_ge k (i + 1) with h3 | h3
      · have : k = i := by omega
        subst this; exact leV_refl _
      · exact leV_trans (ih h3) (step_le l last chg)
  exact h i (up l.length hi i h2)

theorem cnt_le : ∀ {S T : List Bool}, S.length = T.length → leV S T → S.count true ≤ T.count true ∧ (S.count true = T.count true → leV T S)
  | [], [], _, _ => ⟨by simp, fun _ => leV_refl _⟩
  | [], _ :: _, h, _ => by simp at h
  | _ :: _, [], h, _ => by simp at h
  | a :: S, b :: T, hl, h => by
    have h0 := h 0
    have hs : leV S T := fun i e => by simpa using h (i + 1) (by simpa using e)
    obtain ⟨h1, h2⟩ := cnt_le (by simpa using hl) hs
    simp only [List.getElem?_cons_zero, Option.some.injEq] at h0
    cases a <;> cases b <;> simp at h0 <;> simp only [List.count_cons] <;> refine ⟨by simp; omega, fun e => ?_⟩
    · intro i hi
      cases i with
      | zero => simp at hi
      | succ i => simpa using h2 (by simpa using e) i (by simpa using hi)
    · exfalso; simp at e; omega
    · intro i hi
      cases i with
      | zero => simp
      | succ i => simpa using h2 (by simpa using e) i (by simpa using hi)
theorem sweeps_grow : ∀ n, n ≤ (sweeps l last chg n).count true ∨ ∃ j, j < n ∧ leV (sweeps l last chg (j + 1)) (sweeps l last chg j)
  | 0 => .inl (by simp)
  | n + 1 => by
    rcases sweeps_grow n with h | ⟨j, h1, h2⟩
    · have hle : leV (sweeps l last chg n) (sweeps l last chg (n + 1)) := sweepTo_le l last chg _
      obtain ⟨h3, h4⟩ := cnt_le (by simp) hle
      by_cases e : (sweeps l last chg n).count true = (sweeps l last chg (n + 1)).count true
      · exact .inr ⟨n, by omega, h4 e⟩
      · left; omega
    · exact .inr ⟨j, by omega, h2⟩
theorem sweeps_still {j : Nat} (h : leV (sweeps l last chg (j + 1)) (sweeps l last chg j)) : ∀ k, sweeps l last chg (j + k) = sweeps l last chg j
  | 0 => rfl
  | k + 1 => by
    have ih := sweeps_still h k
    have : sweeps l last chg (j + k + 1) = sweepTo l last chg (sweeps l last chg (j + k)) l.length := rfl
    rw [← Nat.add_assoc, this, ih]
    exact leV_eq (by simp) h (sweepTo_le l last chg _)
theorem sweeps_least : leastV l last chg (sweeps l last chg (l.length + 1)) := by
  refine ⟨by simp, ?_, fun T hT hc => sweeps_below l last chg hT hc _⟩
  rcases sweeps_grow l last chg (l.length + 1) with h | ⟨j, h1, h2⟩
  · have := List.count_le_length (a := true) (l := sweeps l last chg (l.length + 1))
    rw [len_sweeps] at this
    omega
  · have e := sweeps_still l last chg h2 (l.length + 1 - j)
    rw [show j + (l.length + 1 - j) = l.length + 1 by omega] at e
    rw [e]
    exact closed_of_still l last chg (by simp) h2
end
end Go.Proofs.Ytaddpgjanbjcaaa
