/- What Next wants, case by case; asking ends. No condition beyond each theorem's own. -/
import Derived.Test.YtaddpgjanbjcaaaT13
set_option linter.unusedSimpArgs false
set_option linter.unusedVariables false
set_option linter.unusedSectionVars false
set_option maxRecDepth 100000
/-! What Next wants, case by case; asking ends. -/
namespace Go.Proofs.Ytaddpgjanbjcaaa
open Go Go.Ab
open Classical

def pathsOf (l : List Trace) : List (List UInt8) := l.flatMap fun t => t.reads.map (·.path)
def allOf (l : List Trace) : Nat := (l.map (·.reads.length)).sum
theorem paths_len (l : List Trace) : (pathsOf l).length = allOf l := by
  unfold pathsOf allOf
  rw [List.length_flatMap]
  congr 1
  simp
theorem chk_asks {known : List Read} {p : List UInt8} : ∀ rs, chk known rs = some (some p) → knowsV known p = false ∧ ∃ r ∈ rs, r.path = p
  | [], h => by simp [chk] at h
  | r :: rs, h => by
    simp only [chk] at h
    cases hf : known.find? (fun x => decide (x.path = r.path)) with
    | none =>
      rw [hf] at h
      simp only [Option.some.injEq] at h
      subst h
      exact ⟨by rw [knows_find, hf]; rfl, r, by simp, rfl⟩
    | some x =>
      rw [hf] at h
      by_cases hx : x = r
      · simp only [hx, if_true] at h
        obtain ⟨h1, r', h2, h3⟩ := chk_asks rs h
        exact ⟨h1, r', by simp [h2], h3⟩
      · simp [hx] at h
theorem may_iff {known : List Read} {gone : List Dig} {t : Trace} : mayTake known gone t = true ↔ chk known t.reads = none ∧ ¬ ∃ m ∈ t.outs, m.sum ∈ gone := by
  unfold mayTake
  rw [Bool.and_eq_true, holds_chk]
  simp [goneV]
theorem next_cases (known : List Read) (gone : List Dig) : ∀ (l : List Trace) (i : Nat),
    (∃ p, nextV known gone i l = ⟨1, p, 0⟩ ∧ knowsV known p = false ∧ p ∈ pathsOf l) ∨
    (∃ j, ∃ h : j < l.length, nextV known gone i l = ⟨2, [], ((i + j : Nat) : Int)⟩ ∧ mayTake known gone l[j] = true ∧ ((l.take j).all fun t => !mayTake known gone t) = true) ∨
    (nextV known gone i l = ⟨3, [], 0⟩ ∧ (l.all fun t => !mayTake known gone t) = true)
  | [], i => .inr (.inr ⟨rfl, rfl⟩)
  | t :: ts, i => by
    have ih := next_cases known gone ts (i + 1)
    have go : mayTake known gone t = false → nextV known gone i (t :: ts) = nextV known gone (i + 1) ts →
        (∃ p, nextV known gone i (t :: ts) = ⟨1, p, 0⟩ ∧ knowsV known p = false ∧ p ∈ pathsOf (t :: ts)) ∨
    (∃ j, ∃ h : j < (t :: ts).length, nextV known gone i (t :: ts) = ⟨2, [], ((i + j : Nat) : Int)⟩ ∧ mayTake known gone (t :: ts)[j] = true ∧ (((t :: ts).take j).all fun t => !mayTake known gone t) = true) ∨
    (nextV known gone i (t :: ts) = ⟨3, [], 0⟩ ∧ ((t :: ts).all fun t => !mayTake known gone t) = true) := by
      intro hm he
      rw [he]
      rcases ih with ⟨p, h1, h2, h3⟩ | ⟨j, hj, h1, h2, h3⟩ | ⟨h1, h2⟩
      · exact .inl ⟨p, h1, h2, by simp only [pathsOf, List.flatMap_cons, List.mem_append]; exact .inr h3⟩
      · refine .inr (.inl ⟨j + 1, by simpa using hj, ?_, by simpa using h2, ?_⟩)
        · rw [h1]; congr 2; omega
        · simp [hm]; simpa using h3
      · refine .inr (.inr ⟨h1, ?_⟩)
        simp [hm]; simpa using h2
    cases hc : chk known t.reads with
    | none =>
      by_cases hg : ∃ m ∈ t.outs, m.sum ∈ gone
      · refine go ?_ ?_
        · rw [Bool.eq_false_iff]; intro h; exact (may_iff.1 h).2 hg
        · simp only [nextV, hc, hg, if_true]
      · refine .inr (.inl ⟨0, by simp, ?_, ?_, by simp⟩)
        · simp only [nextV, hc, hg, if_false]; rfl
        · exact may_iff.2 ⟨hc, hg⟩
    | some o =>
      cases o with
      | none =>
        refine go ?_ ?_
        · rw [Bool.eq_false_iff]; intro h; rw [may_iff, hc] at h; cases h.1
        · simp only [nextV, hc]
      | some p =>
        obtain ⟨h1, r, h2, h3⟩ := chk_asks _ hc
        refine .inl ⟨p, by simp only [nextV, hc], h1, ?_⟩
        simp only [pathsOf, List.flatMap_cons, List.mem_append, List.mem_map]
        exact .inl ⟨r, h2, h3⟩
theorem nodup_len {α : Type} [DecidableEq α] : ∀ {a b : List α}, a.Nodup → (∀ x ∈ a, x ∈ b) → a.length ≤ b.length
  | [], b, _, _ => by simp
  | x :: a, b, hn, hs => by
    have h1 := List.nodup_cons.1 hn
    have h2 : x ∈ b := hs x (by simp)
    have h3 := nodup_len (a := a) (b := b.erase x) h1.2 (fun y hy => (List.mem_erase_of_ne (by rintro rfl; exact h1.1 hy)).2 (hs y (by simp [hy])))
    rw [List.length_erase_of_mem h2] at h3
    have : 0 < b.length := List.length_pos_of_mem h2
    simp; omega
/-- as long as something is asked for there are less answers than reads -/
theorem asks_less {known : List Read} {l : List Trace} {p : List UInt8} (hn : (known.map (·.path)).Nodup) (hs : ∀ x ∈ known.map (·.path), x ∈ pathsOf l) (hk : knowsV known p = false) (hp : p ∈ pathsOf l) : known.length < allOf l := by
  have h := nodup_len (a := p :: known.map (·.path)) (b := pathsOf l) (List.nodup_cons.2 ⟨fun h => ?_, hn⟩) (fun x hx => ?_)
  · rw [paths_len] at h; simp at h; omega
  · obtain ⟨x, hx, e⟩ := List.mem_map.1 h
    simp only [knowsV, List.any_eq_false, decide_eq_true_eq] at hk
    exact hk x hx e
  · rcases List.mem_cons.1 hx with rfl | h
    · exact hp
    · exact hs x h
theorem all_take {l : List Trace} {k : Nat} (h : k < l.length) : allOf (l.take (k + 1)) = allOf (l.take k) + l[k].reads.length := by
  unfold allOf
  rw [List.take_succ_eq_append_getElem h, List.map_append, List.sum_append]
  simp
theorem all_bound {l : List Trace} (h1 : l.length ≤ 20) (h2 : ∀ t ∈ l, t.reads.length ≤ 60) : allOf l ≤ 1200 := by
  have : ∀ l : List Trace, (∀ t ∈ l, t.reads.length ≤ 60) → allOf l ≤ 60 * l.length := by
    intro l
    induction l with
    | nil => intro _; simp [allOf]
    | cons t ts ih =>
      intro h
      have a := ih fun t ht => h t (by simp [ht])
      have b := h t (by simp)
      simp only [allOf, List.map_cons, List.sum_cons, List.length_cons] at a ⊢
      omega
  have := this l h2
  omega
theorem all_take_le {l : List Trace} : ∀ k, allOf (l.take k) ≤ allOf l := by
  intro k
  have : allOf l = allOf (l.take k) + allOf (l.drop k) := by
    unfold allOf
    rw [← List.sum_append, ← List.map_append, List.take_append_drop]
  omega
end Go.Proofs.Ytaddpgjanbjcaaa
