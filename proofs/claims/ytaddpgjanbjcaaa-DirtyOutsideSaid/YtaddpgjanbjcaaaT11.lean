/- Lemmas of this proof. No condition beyond each theorem's own. -/
import Derived.Test.YtaddpgjanbjcaaaT10
import Derived.Test.YtaddpgjanbjcaaaAbXToY
set_option linter.unusedSimpArgs false
set_option linter.unusedVariables false
set_option linter.unusedSectionVars false
set_option maxRecDepth 100000
namespace Go.Proofs.Ytaddpgjanbjcaaa
open Go Go.Ab
open Classical

theorem list_dec {α : Type} {f : α → AV} {q : AV → Prop} {r : α → Prop} {xs : List AV} (h : ∀ y ∈ xs, q y) (hd : ∀ y, q y → ∃ a, y = f a ∧ r a) : ∃ l : List α, xs = l.map f ∧ ∀ a ∈ l, r a := by
  induction xs with
  | nil => exact ⟨[], rfl, by simp⟩
  | cons y ys ih =>
    obtain ⟨a, ha, hr⟩ := hd y (h y (by simp))
    obtain ⟨l, hl, hl2⟩ := ih fun z hz => h z (by simp [hz])
    exact ⟨a :: l, by simp [ha, hl], by simpa using ⟨hr, hl2⟩⟩

theorem dec32 {n : Nat} {x : AV} (h : WTy Try.prog (n + 2) 32 x) : ∃ d : Dig, x = encD d ∧ d.length = 32 := by
  simp only [WTy, ty32, ty5] at h
  obtain ⟨xs, rfl, hlen, h⟩ := h
  obtain ⟨l, hl, _⟩ := list_dec (α := UInt8) (f := fun b => AV.i .u8 b.toNat) (r := fun _ => True) h (by
    rintro y ⟨m, rfl, hm⟩
    have hx : 0 ≤ m ∧ m ≤ 255 := by simpa [Lit.wf, IntKind.min, IntKind.max, IntKind.signed, IntKind.bits] using hm
    refine ⟨UInt8.ofNat m.toNat, ?_, trivial⟩
    simp only [AV.i.injEq, true_and]
    have : (UInt8.ofNat m.toNat).toNat = m.toNat := by simp; omega
    rw [this]; omega)
  subst hl
  exact ⟨l, rfl, by simpa using hlen⟩

theorem dec37 {n : Nat} {x : AV} (h : WTy Try.prog (n + 3) 37 x) : ∃ r : Read, x = encRead r ∧ r.sum.length = 32 := by
  rw [WTy] at h
  simp only [ty37] at h
  obtain ⟨xs, rfl, hlen, h⟩ := h
  match xs, hlen with
  | [a, b, c], _ =>
    have h1 := h 0 9 a rfl rfl
    have h2 := h 1 4 b rfl rfl
    have h3 := h 2 32 c rfl rfl
    simp only [WTy, ty9] at h1
    simp only [WTy, ty4] at h2
    obtain ⟨s, rfl, _⟩ := h1
    obtain ⟨q, rfl⟩ := h2
    obtain ⟨d, rfl, hd⟩ := dec32 h3
    exact ⟨⟨s, q, d⟩, rfl, hd⟩
theorem dec58 {n : Nat} {x : AV} (h : WTy Try.prog (n + 3) 58 x) : ∃ r : Made, x = encMade r ∧ r.sum.length = 32 := by
  rw [WTy] at h
  simp only [ty58] at h
  obtain ⟨xs, rfl, hlen, h⟩ := h
  match xs, hlen with
  | [a, c], _ =>
    have h1 := h 0 9 a rfl rfl
    have h3 := h 1 32 c rfl rfl
    simp only [WTy, ty9] at h1
    obtain ⟨s, rfl, _⟩ := h1
    obtain ⟨d, rfl, hd⟩ := dec32 h3
    exact ⟨⟨s, d⟩, rfl, hd⟩
theorem dec23 {n : Nat} {x : AV} (h : WTy Try.prog (n + 4) 23 x) : ∃ l : List Read, x = encReads l ∧ l.length ≤ maxLen ∧ ∀ r ∈ l, r.sum.length = 32 := by
  rw [WTy] at h
  simp only [ty23] at h
  obtain ⟨xs, rfl, hlen, h⟩ := h
  obtain ⟨l, rfl, h2⟩ := list_dec h fun y hy => dec37 hy
  exact ⟨l, rfl, by simpa using hlen, h2⟩
theorem dec33 {n : Nat} {x : AV} (h : WTy Try.prog (n + 4) 33 x) : ∃ l : List Made, x = encMades l ∧ l.length ≤ maxLen ∧ ∀ r ∈ l, r.sum.length = 32 := by
  rw [WTy] at h
  simp only [ty33] at h
  obtain ⟨xs, rfl, hlen, h⟩ := h
  obtain ⟨l, rfl, h2⟩ := list_dec h fun y hy => dec58 hy
  exact ⟨l, rfl, by simpa using hlen, h2⟩
theorem dec24 {n : Nat} {x : AV} (h : WTy Try.prog (n + 3) 24 x) : ∃ l : List Dig, x = encDigs l ∧ l.length ≤ maxLen ∧ ∀ r ∈ l, r.length = 32 := by
  rw [WTy] at h
  simp only [ty24] at h
  obtain ⟨xs, rfl, hlen, h⟩ := h
  obtain ⟨l, rfl, h2⟩ := list_dec h fun y hy => dec32 hy
  exact ⟨l, rfl, by simpa using hlen, h2⟩
def okTrace (t : Trace) : Prop := t.key.length = 32 ∧ (t.reads.length ≤ maxLen ∧ ∀ r ∈ t.reads, r.sum.length = 32) ∧ t.outs.length ≤ maxLen ∧ ∀ r ∈ t.outs, r.sum.length = 32
theorem dec35 {n : Nat} {x : AV} (h : WTy Try.prog (n + 5) 35 x) : ∃ t : Trace, x = encTrace t ∧ okTrace t := by
  rw [WTy] at h
  simp only [ty35] at h
  obtain ⟨xs, rfl, hlen, h⟩ := h
  match xs, hlen with
  | [a, b, c], _ =>
    obtain ⟨k, rfl, h1⟩ := dec32 (h 0 32 a rfl rfl)
    obtain ⟨r, rfl, h2⟩ := dec23 (h 1 23 b rfl rfl)
    obtain ⟨o, rfl, h3⟩ := dec33 (h 2 33 c rfl rfl)
    exact ⟨⟨k, r, o⟩, rfl, h1, h2, h3⟩
theorem dec22 {n : Nat} {x : AV} (h : WTy Try.prog (n + 6) 22 x) : ∃ l : List Trace, x = encTraces l ∧ l.length ≤ maxLen ∧ ∀ t ∈ l, okTrace t := by
  rw [WTy] at h
  simp only [ty22] at h
  obtain ⟨xs, rfl, hlen, h⟩ := h
  obtain ⟨l, rfl, h2⟩ := list_dec h fun y hy => dec35 hy
  exact ⟨l, rfl, by simpa using hlen, h2⟩
end Go.Proofs.Ytaddpgjanbjcaaa
