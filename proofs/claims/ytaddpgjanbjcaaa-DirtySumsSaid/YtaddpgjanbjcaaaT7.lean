/- Lemmas of this proof. No condition beyond each theorem's own. -/
import Derived.Test.YtaddpgjanbjcaaaT6
set_option linter.unusedSimpArgs false
set_option linter.unusedVariables false
set_option linter.unusedSectionVars false
set_option maxRecDepth 100000
namespace Go.Proofs.Ytaddpgjanbjcaaa
open Go Go.Ab
open Classical

theorem knows_find {known : List Read} {p : List UInt8} : knowsV known p = (known.find? (fun x => decide (x.path = p))).isSome := by
  unfold knowsV; rw [Bool.eq_iff_iff, List.find?_isSome]; simp
theorem holds_cons {known : List Read} {r : Read} {rs : List Read} : (holdsV known (r :: rs)).1 = (decide (known.find? (fun x => decide (x.path = r.path)) = some r) && (holdsV known rs).1) := by
  simp only [holdsV]
  cases h : known.find? (fun x => decide (x.path = r.path)) with
  | none => simp
  | some x =>
    by_cases hx : x = r
    · simp [hx]
    · simp [hx]
theorem asks_cons {known : List Read} {r : Read} {rs : List Read} : asksV known (r :: rs) 0 = if knowsV known r.path then ((asksV known rs 0).1, decide (known.find? (fun x => decide (x.path = r.path)) = some r) && (asksV known rs 0).2) else (r.path, true) := by
  unfold asksV
  rw [List.drop_zero, List.findIdx?_cons]
  by_cases hp : knowsV known r.path = true
  · simp only [hp, List.drop_zero]
    cases hq : rs.findIdx? (fun r => !knowsV known r.path) with
    | none => simp
    | some i => simp [holds_cons]
  · simp [hp, holdsV]
theorem asks_chk {known : List Read} : ∀ reads, (∀ p, chk known reads = some (some p) → asksV known reads 0 = (p, true)) ∧ (chk known reads = some none ∨ chk known reads = none → (asksV known reads 0).2 = false)
  | [] => by simp [chk, asksV]
  | r :: rs => by
    have ih := asks_chk (known := known) rs
    rw [asks_cons, knows_find]
    simp only [chk]
    cases h : known.find? (fun x => decide (x.path = r.path)) with
    | none => simp
    | some x =>
      by_cases hx : x = r
      · simp only [hx, if_true, Option.isSome_some, decide_true, Bool.true_and]; exact ⟨fun p e => by rw [ih.1 p e], fun e => by simpa using ih.2 e⟩
      · simp [hx]
theorem holds_chk {known : List Read} : ∀ reads, ((holdsV known reads).1 = true ↔ chk known reads = none)
  | [] => by simp [chk, holdsV]
  | r :: rs => by
    have ih := holds_chk (known := known) rs
    simp only [chk, holdsV]
    cases h : known.find? (fun x => decide (x.path = r.path)) with
    | none => simp
    | some x =>
      by_cases hx : x = r
      · simpa [hx] using ih
      · simp [hx]
theorem next_eq (known : List Read) (gone : List Dig) : ∀ (l : List Trace) (i : Nat), nextV known gone i l = refNext known gone i l
  | [], i => rfl
  | t :: ts, i => by
    have ih := next_eq known gone ts (i + 1)
    have ha := asks_chk (known := known) t.reads
    have hh := holds_chk (known := known) t.reads
    simp only [nextV, refNext]
    have hg : (goneV t.outs gone = true) ↔ ∃ m ∈ t.outs, m.sum ∈ gone := by simp [goneV]
    rcases hc : chk known t.reads with _ | _ | p
    · rw [hc] at ha hh
      rw [ha.2 (.inr rfl), hh.2 rfl]
      by_cases hgo : goneV t.outs gone = true
      · simp only [if_pos (hg.1 hgo), hgo]; simpa using ih
      · simp [if_neg (fun h => hgo (hg.2 h)), hgo]
    · rw [hc] at ha hh
      have : (holdsV known t.reads).1 = false := by
        cases h : (holdsV known t.reads).1
        · rfl
        · exact absurd (hh.1 h) (by simp)
      rw [ha.2 (.inl rfl), this]; simpa using ih
    · rw [hc] at ha
      rw [ha.1 p rfl]; simp
end Go.Proofs.Ytaddpgjanbjcaaa
