/- What a reading gives of actions and changes. No condition beyond each theorem's own. -/
import Derived.Test.YtaddpgjanbjcaaaT11
import Derived.Test.YtaddpgjanbjcaaaT22
set_option linter.unusedSimpArgs false
set_option linter.unusedVariables false
set_option linter.unusedSectionVars false
set_option maxRecDepth 100000
/-! What a reading gives of actions and changes. -/
namespace Go.Proofs.Ytaddpgjanbjcaaa
open Go Go.Ab
open Classical

theorem WTy_er {P : Program} : ∀ (n : Nat) (t : TypeId) (x : AV), WTy P n t x → x.er = x
  | 0, _, _, h => by simp [WTy] at h
  | n + 1, t, x, h => by
    rw [WTy] at h
    split at h
    · obtain ⟨b, rfl⟩ := h; rfl
    · obtain ⟨m, rfl, _⟩ := h; rfl
    · obtain ⟨s, rfl, _⟩ := h; rfl
    · rename_i fs _
      obtain ⟨xs, rfl, hl, h⟩ := h
      simp only [AV.er, AV.agg.injEq]
      refine ers_id fun y hy => ?_
      obtain ⟨i, hi, e⟩ := List.mem_iff_getElem.1 hy
      have hf : i < fs.length := by omega
      exact WTy_er n _ y (h i fs[i] y (by simp [hf]) (by rw [List.getElem?_eq_getElem hi, e]))
    · obtain ⟨xs, rfl, _, h⟩ := h
      simp only [AV.er, AV.agg.injEq]
      exact ers_id fun y hy => WTy_er n _ y (h y hy)
    · obtain ⟨xs, rfl, _, h⟩ := h
      simp only [AV.er, AV.sl.injEq, true_and]
      exact ers_id fun y hy => WTy_er n _ y (h y hy)
    · exact h.elim

theorem dec45 {n : Nat} {x : AV} (h : WTy Try.prog (n + 2) 45 x) : ∃ l : List (List UInt8), x = encStrs l ∧ l.length ≤ maxLen := by
  rw [WTy] at h
  simp only [ty45] at h
  obtain ⟨xs, rfl, hlen, h⟩ := h
  obtain ⟨l, rfl, _⟩ := list_dec (α := List UInt8) (f := AV.s) (r := fun _ => True) h (by
    intro y hy
    simp only [WTy, ty9] at hy
    obtain ⟨s, rfl, _⟩ := hy
    exact ⟨s, rfl, trivial⟩)
  exact ⟨l, rfl, by simpa using hlen⟩
theorem dec47 {n : Nat} {x : AV} (h : WTy Try.prog (n + 3) 47 x) : ∃ a : Act, x = encAct a ∧ ActOK a := by
  rw [WTy] at h
  simp only [ty47] at h
  obtain ⟨xs, rfl, hlen, h⟩ := h
  match xs, hlen with
  | [a, b, c, d, e, f], _ =>
    have h1 := h 0 43 a rfl rfl
    have h2 := h 1 9 b rfl rfl
    have h3 := h 2 44 c rfl rfl
    have h4 := h 3 45 d rfl rfl
    have h5 := h 4 45 e rfl rfl
    have h6 := h 5 45 f rfl rfl
    simp only [WTy, ty9] at h2
    obtain ⟨s, rfl, _⟩ := h2
    obtain ⟨o, rfl, ho⟩ := dec45 h6
    exact ⟨⟨a, s, c, d, e, o⟩, rfl, WTy_er _ _ _ h1, WTy_er _ _ _ h3, WTy_er _ _ _ h4, WTy_er _ _ _ h5, Nat.le_trans ho (by decide)⟩
theorem dec40 {n : Nat} {x : AV} (h : WTy Try.prog (n + 4) 40 x) : ∃ l : List Act, x = encActs l ∧ l.length ≤ maxLen ∧ ∀ a ∈ l, ActOK a := by
  rw [WTy] at h
  simp only [ty40] at h
  obtain ⟨xs, rfl, hlen, h⟩ := h
  obtain ⟨l, rfl, hr⟩ := list_dec (f := encAct) (r := ActOK) h (fun y hy => dec47 hy)
  exact ⟨l, rfl, by simpa using hlen, hr⟩
theorem dec70 {n : Nat} {x : AV} (h : WTy Try.prog (n + 2) 70 x) : ∃ c : Chg, x = encChg c ∧ True := by
  rw [WTy] at h
  simp only [ty70] at h
  obtain ⟨xs, rfl, hlen, h⟩ := h
  match xs, hlen with
  | [a, b], _ =>
    have h1 := h 0 9 a rfl rfl
    have h2 := h 1 3 b rfl rfl
    simp only [WTy, ty9] at h1
    simp only [WTy, ty3] at h2
    obtain ⟨s, rfl, _⟩ := h1
    obtain ⟨k, rfl, _⟩ := h2
    exact ⟨⟨s, k⟩, rfl, trivial⟩
theorem dec41 {n : Nat} {x : AV} (h : WTy Try.prog (n + 3) 41 x) : ∃ l : List Chg, x = encChgs l ∧ l.length ≤ maxLen := by
  rw [WTy] at h
  simp only [ty41] at h
  obtain ⟨xs, rfl, hlen, h⟩ := h
  obtain ⟨l, rfl, hr⟩ := list_dec (f := encChg) (r := fun _ => True) h (fun y hy => dec70 hy)
  exact ⟨l, rfl, by simpa using hlen⟩
end Go.Proofs.Ytaddpgjanbjcaaa
