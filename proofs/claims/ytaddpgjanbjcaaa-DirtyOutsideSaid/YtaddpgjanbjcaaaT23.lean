/- The cone by a queue is the least closed set, too. No condition beyond each theorem's own. -/
import Derived.Test.YtaddpgjanbjcaaaT21
set_option linter.unusedSimpArgs false
set_option linter.unusedVariables false
set_option linter.unusedSectionVars false
set_option maxRecDepth 100000
/-! The cone by a queue is the least closed set, too. -/
namespace Go.Proofs.Ytaddpgjanbjcaaa
open Go Go.Ab
open Classical

theorem cnt_set : ∀ {S : List Bool} {i : Nat}, S[i]? = some false → (S.set i true).count true = S.count true + 1
  | [], i, h => by simp at h
  | b :: S, 0, h => by simp at h; subst h; simp
  | b :: S, i + 1, h => by
    have := cnt_set (S := S) (i := i) (by simpa using h)
    simp only [List.set_cons_succ, List.count_cons, this]
    omega
theorem set_get {S : List Bool} {i j : Nat} (hi : i < S.length) : (S.set i true)[j]? = some true ↔ S[j]? = some true ∨ j = i := by
  rw [List.getElem?_set]
  by_cases h : i = j
  · subst h; simp [hi]
  · simp [h, Ne.symm h]
theorem set_le {S : List Bool} {i : Nat} : leV S (S.set i true) := fun j h => by
  rw [List.getElem?_set]
  by_cases e : i = j
  · subst e
    have : i < S.length := (List.getElem?_eq_some_iff.1 h).1
    simp [this]
  · simpa [e] using h

section
variable (l : List Act) (last : List Trace) (chg : List Chg)

structure BInv (k : Nat) (S : List Bool) (xs : List Nat) : Prop where
  len : S.length = l.length
  few : xs.length ≤ S.count true
  inq : ∀ j ∈ xs, S[j]? = some true
  low : ∀ T, T.length = l.length → closedV l last chg T → leV S T
  base : ∀ j, j < k → inV l last chg (List.replicate l.length false) j = true → S[j]? = some true
  all : ∀ j, S[j]? = some true → j ∈ xs
  lt : ∀ j, S[j]? = some true → j < k
theorem BInv.start : BInv l last chg 0 (List.replicate l.length false) [] := by
  have h0 : ∀ j, (List.replicate l.length false)[j]? ≠ some true := fun j h => by
    rw [List.getElem?_replicate] at h; split at h <;> cases h
  exact ⟨by simp, by simp, by simp, fun T _ _ j h => absurd h (h0 j), fun j h => by omega, fun j h => absurd h (h0 j), fun j h => absurd h (h0 j)⟩
variable {l last chg}
theorem BInv.skip {k : Nat} {S : List Bool} {xs : List Nat} (h : BInv l last chg k S xs) (hb : inV l last chg (List.replicate l.length false) k = false) : BInv l last chg (k + 1) S xs :=
  ⟨h.len, h.few, h.inq, h.low, fun j hj hin => by
    rcases Nat.lt_or_ge j k with h1 | h1
    · exact h.base j h1 hin
    · have : j = k := by omega
      subst this; exact absurd (hb.symm.trans hin) (by simp), h.all, fun j hj => Nat.lt_succ_of_lt (h.lt j hj)⟩
theorem false_le (n : Nat) (T : List Bool) : leV (List.replicate n false) T := fun j h => by
  rw [List.getElem?_replicate] at h; split at h <;> cases h
theorem BInv.push {k : Nat} {S : List Bool} {xs : List Nat} (h : BInv l last chg k S xs) (hk : k < l.length) (hb : inV l last chg (List.replicate l.length false) k = true) : BInv l last chg (k + 1) (S.set k true) (xs ++ [k]) := by
  have hkS : k < S.length := by rw [h.len]; exact hk
  have hf : S[k]? = some false := by
    rw [List.getElem?_eq_getElem hkS]
    cases e : S[k] with
    | false => rfl
    | true => have := h.lt k (by rw [List.getElem?_eq_getElem hkS, e]); omega
  refine ⟨by simpa using h.len, by rw [cnt_set hf]; have := h.few; simp; omega, fun j hj => ?_, fun T hT hc j hj => ?_, fun j hj hin => ?_, fun j hj => ?_, fun j hj => ?_⟩
  · rw [set_get hkS]
    rcases List.mem_append.1 hj with h1 | h1
    · exact .inl (h.inq j h1)
    · exact .inr (by simpa using h1)
  · rcases (set_get hkS).1 hj with h1 | rfl
    · exact h.low T hT hc j h1
    · exact hc j hk (inV_mono l last chg (by simp) hT (false_le _ _) hb)
  · rw [set_get hkS]
    rcases Nat.lt_or_ge j k with h1 | h1
    · exact .inl (h.base j h1 hin)
    · exact .inr (by omega)
  · rcases (set_get hkS).1 hj with h1 | rfl
    · exact List.mem_append_left _ (h.all j h1)
    · simp
  · rcases (set_get hkS).1 hj with h1 | rfl
    · exact Nat.lt_succ_of_lt (h.lt j h1)
    · omega

def doneV (l : List Act) (last : List Trace) (S : List Bool) (k : Nat) : Prop := ∀ (i : Nat) t a, i < l.length → last[i]? = some t → l[k]? = some a → hits t.reads a.outs = true → S[i]? = some true
structure CInv (l : List Act) (last : List Trace) (chg : List Chg) (S : List Bool) (xs : List Nat) : Prop where
  len : S.length = l.length
  few : xs.length ≤ S.count true
  inq : ∀ j ∈ xs, S[j]? = some true
  low : ∀ T, T.length = l.length → closedV l last chg T → leV S T
  base : ∀ j, j < l.length → inV l last chg (List.replicate l.length false) j = true → S[j]? = some true
  done : ∀ k, S[k]? = some true → k ∈ xs ∨ doneV l last S k
theorem BInv.toC {S : List Bool} {xs : List Nat} (h : BInv l last chg l.length S xs) : CInv l last chg S xs :=
  ⟨h.len, h.few, h.inq, h.low, h.base, fun k hk => .inl (h.all k hk)⟩
theorem CInv.least {S : List Bool} (h : CInv l last chg S []) : leastV l last chg S := by
  refine ⟨h.len, fun i hi hin => ?_, h.low⟩
  rw [inV_iff l last chg h.len] at hin
  have hb : (last[i]? = none ∨ ∃ t, last[i]? = some t ∧ (t.key = zero32 ∨ ∃ c ∈ chg, knowsV t.reads c.path = true)) → S[i]? = some true := fun hh => by
    refine h.base i hi ((inV_iff l last chg (by simp) i).2 ?_)
    rcases hh with h1 | ⟨t, h1, h2⟩
    · exact .inl h1
    · exact .inr ⟨t, h1, h2.imp_right .inl⟩
  rcases hin with h1 | ⟨t, h1, h2 | h2 | ⟨k, hk, h3, h4⟩⟩
  · exact hb (.inl h1)
  · exact hb (.inr ⟨t, h1, .inl h2⟩)
  · exact hb (.inr ⟨t, h1, .inr h2⟩)
  · rcases h.done k h3 with h5 | h5
    · simp at h5
    · exact h5 i t l[k] hi h1 (by simp [hk]) h4
structure DInv (l : List Act) (last : List Trace) (chg : List Chg) (k0 : Nat) (μ : Nat) (i : Nat) (S : List Bool) (xs : List Nat) : Prop where
  len : S.length = l.length
  few : xs.length + 1 ≤ S.count true
  inq : ∀ j ∈ xs, S[j]? = some true
  low : ∀ T, T.length = l.length → closedV l last chg T → leV S T
  base : ∀ j, j < l.length → inV l last chg (List.replicate l.length false) j = true → S[j]? = some true
  done : ∀ k, S[k]? = some true → k ∈ xs ∨ k = k0 ∨ doneV l last S k
  upto : ∀ (j : Nat) t a, j < i → last[j]? = some t → l[k0]? = some a → hits t.reads a.outs = true → S[j]? = some true
  self : S[k0]? = some true
  less : 2 * (l.length - S.count true) + xs.length + 1 ≤ μ
theorem cnt_len {S : List Bool} (h : S.length = l.length) : S.count true ≤ l.length := h ▸ List.count_le_length
theorem CInv.toD {S : List Bool} {x : Nat} {xs : List Nat} (h : CInv l last chg S (x :: xs)) : DInv l last chg x (2 * (l.length - S.count true) + (x :: xs).length) 0 S xs :=
  ⟨h.len, by simpa using h.few, fun j hj => h.inq j (by simp [hj]), h.low, h.base, fun k hk => by
    rcases h.done k hk with h1 | h1
    · rcases List.mem_cons.1 h1 with h1 | h1
      · exact .inr (.inl h1)
      · exact .inl h1
    · exact .inr (.inr h1), fun j t a hj => by omega, h.inq x (by simp), by simp; omega⟩
theorem DInv.toC {k0 μ : Nat} {S : List Bool} {xs : List Nat} (h : DInv l last chg k0 μ l.length S xs) : CInv l last chg S xs :=
  ⟨h.len, Nat.le_of_succ_le h.few, h.inq, h.low, h.base, fun k hk => by
    rcases h.done k hk with h1 | rfl | h1
    · exact .inl h1
    · exact .inr fun i t a hi ht ha hh => h.upto i t a hi ht ha hh
    · exact .inr h1⟩
theorem DInv.skip {k0 μ i : Nat} {S : List Bool} {xs : List Nat} (h : DInv l last chg k0 μ i S xs) (hs : S[i]? = some true ∨ ∀ t a, last[i]? = some t → l[k0]? = some a → hits t.reads a.outs = false) : DInv l last chg k0 μ (i + 1) S xs :=
  ⟨h.len, h.few, h.inq, h.low, h.base, h.done, fun j t a hj ht ha hh => by
    rcases Nat.lt_or_ge j i with h1 | h1
    · exact h.upto j t a h1 ht ha hh
    · have : j = i := by omega
      subst this
      rcases hs with h2 | h2
      · exact h2
      · exact absurd ((h2 t a ht ha).symm.trans hh) (by simp), h.self, h.less⟩
theorem DInv.push {k0 μ i : Nat} {S : List Bool} {xs : List Nat} (h : DInv l last chg k0 μ i S xs) (hi : i < l.length) (hf : S[i]? = some false) {t : Trace} {a : Act} (ht : last[i]? = some t) (ha : l[k0]? = some a) (hh : hits t.reads a.outs = true) :
    DInv l last chg k0 μ (i + 1) (S.set i true) (xs ++ [i]) := by
  have hiS : i < S.length := by rw [h.len]; exact hi
  have hc := cnt_set hf
  have hk0 : k0 < l.length := by rw [← h.len]; exact (List.getElem?_eq_some_iff.1 h.self).1
  have hak : l[k0] = a := by rw [List.getElem?_eq_getElem hk0] at ha; simpa using ha
  refine ⟨by simpa using h.len, by rw [hc]; have := h.few; simp; omega, fun j hj => ?_, fun T hT hcl j hj => ?_, fun j hj hin => set_le j (h.base j hj hin), fun k hk => ?_, fun j t' a' hj ht' ha' hh' => ?_, set_le k0 h.self, ?_⟩
  · rw [set_get hiS]
    rcases List.mem_append.1 hj with h1 | h1
    · exact .inl (h.inq j h1)
    · exact .inr (by simpa using h1)
  · rcases (set_get hiS).1 hj with h1 | rfl
    · exact h.low T hT hcl j h1
    · refine hcl j hi ((inV_iff l last chg hT j).2 (.inr ⟨t, ht, .inr (.inr ⟨k0, hk0, h.low T hT hcl k0 h.self, by rw [hak]; exact hh⟩)⟩))
  · rcases (set_get hiS).1 hk with h1 | rfl
    · rcases h.done k h1 with h2 | h2 | h2
      · exact .inl (List.mem_append_left _ h2)
      · exact .inr (.inl h2)
      · exact .inr (.inr fun i' t' a' e1 e2 e3 e4 => set_le i' (h2 i' t' a' e1 e2 e3 e4))
    · exact .inl (by simp)
  · rw [set_get hiS]
    rcases Nat.lt_or_ge j i with h1 | h1
    · exact .inl (h.upto j t' a' h1 ht' ha' hh')
    · exact .inr (by omega)
  · have := h.less
    have h2 := cnt_len (l := l) (S := S.set i true) (by simpa using h.len)
    rw [hc] at h2 ⊢
    simp
    omega
end
end Go.Proofs.Ytaddpgjanbjcaaa
