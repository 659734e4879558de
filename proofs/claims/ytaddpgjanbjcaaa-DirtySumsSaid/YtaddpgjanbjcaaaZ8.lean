/- DirtySums returns true for every input, and its arguments read as before. No condition beyond each theorem's own. -/
import Derived.Test.YtaddpgjanbjcaaaS9
import Derived.Test.YtaddpgjanbjcaaaAbXToY
import Derived.Test.YtaddpgjanbjcaaaRows
import Derived.WalkKit
import Derived.ProofKit
import Derived.OpenShut
import Derived.JoinedOf
set_option linter.unusedSimpArgs false
set_option linter.unusedVariables false
set_option linter.unusedSectionVars false
set_option maxRecDepth 100000
/-! DirtySums returns true for every input, and its arguments read as before. -/
namespace Go.Proofs.Ytaddpgjanbjcaaa
open Go Go.Ab Go.ChangeShapes Go.WideShapes Go.ChangeAt Go.RowKit
open Classical

theorem decKnown {n : Nat} {x : AV} (h : WTy Try.prog (n + 2) 54 x) : ∃ p i d, x = knownAV p i d := by
  rw [WTy] at h
  simp only [ty54] at h
  obtain ⟨xs, rfl, hlen, h⟩ := h
  match xs, hlen with
  | [a, b, c], _ =>
    have h1 := h 0 _ a rfl rfl
    have h2 := h 1 _ b rfl rfl
    have h3 := h 2 _ c rfl rfl
    simp only [WTy, ty9, ty4] at h1 h2 h3
    obtain ⟨p, rfl, _⟩ := h1
    obtain ⟨i, rfl⟩ := h2
    obtain ⟨d, rfl, _⟩ := h3
    exact ⟨p, i, d, rfl⟩
theorem dirtySums_own : ownKnob Try.prog.godebug = none := by kernel_rfl
theorem dirtySums_max : maxLen ≤ 9223372036854775807 := by decide

theorem dirtySums_contract (H : Type) (enc : TypeId × Value → H) (W : World) (base : Nat) (args : Array Value) (ds gs : List (DataW H)) (before : List MemPlace)
    (hval : ∀ (j : Nat) t v, Try.f8.params[j]? = some t → args[j]? = some v → Value.okWide Try.prog W .any base t v)
    (hW : DataW.Whole enc Try.prog Try.f8.params.toList Rows.dirtySumsSpec.vars false W args.toList ds gs before) :
    Calls Try.prog 8 args W fun e W' => ∃ v, e = .returned v ∧ Rows.dirtySumsSpec.post enc Try.prog Try.f8 false true false false W args v W' := by
  refine law_post laid (s := Rows.dirtySumsSpec) rfl (tb := 4) rfl Try.underlying4 (n := 6) (by kernel_rfl) hval hW ?_ ?_
  · intro h
    match ds, h with
    | [a, b], _ => rfl
  · intro h hw
    match ds, h with
    | [a, b], _ =>
      obtain ⟨p, i, d, e1⟩ := decKnown (hw 0 54 a rfl rfl)
      obtain ⟨q, j, e, e2⟩ := decKnown (hw 1 54 b rfl rfl)
      have := law_ok p i d q j e
      have ep : Try.f8.params.toList = [54, 54] := rfl
      rw [ep]
      simp only [argTVs, e1, e2]
      exact this

theorem dirtySums_lifted (os : Os) (started : os.Started) (H : Type) (enc : TypeId × Value → H) :
    ReturnsInHanded {} Try.checked os 8 .any (Rows.dirtySumsSpec.pre6 enc Try.prog Try.f8 Rows.dirtySumsRow.domain false) (Rows.dirtySumsSpec.post enc Try.prog Try.f8 false true false false) := by
  refine returnsInHanded_of_change (C := Try.checked) dirtySums_own started (by kernel_rfl) Try.func8
    (ChangeSpec.witness6 (enc := enc) (C := Try.checked) false ⟨#[], #[.agg #[.string ⟨#[]⟩, .bool false, .string ⟨#[]⟩], .agg #[.string ⟨#[]⟩, .bool false, .string ⟨#[]⟩]], []⟩ 8 (by kernel_rfl) (by kernel_rfl) (by kernel_rfl) (by kernel_rfl)) ?_
  intro W base args ds gs before hval hW hcnd _
  exact dirtySums_contract H enc W base args ds gs before hval hW

theorem dirtySums_said : Rows.DirtySumsSaid :=
  OpenClaim.holds_of_wide 8 Try.f8 rfl rfl rfl rfl rfl rfl rfl ⟨rfl, rfl, rfl, rfl, rfl⟩ rfl rfl rfl rfl rfl (by kernel_rfl) Try.func8 (by kernel_rfl)
    (of_decide_eq_true (by kernel_rfl)) (by unfold Func.isWrapper; first | (rw [if_pos (by decide +kernel)]; kernel_rfl) | (rw [if_neg (by decide +kernel)]; exact ⟨rfl, rfl⟩))
    (fun os started H enc _ => dirtySums_lifted os started H enc)
#print axioms dirtySums_said
end Go.Proofs.Ytaddpgjanbjcaaa
