/- Lemmas of this proof. No condition beyond each theorem's own. -/
import Derived.Test.YtaddpgjanbjcaaaT11
import Derived.Test.YtaddpgjanbjcaaaRows
set_option linter.unusedSimpArgs false
set_option linter.unusedVariables false
set_option linter.unusedSectionVars false
set_option maxRecDepth 100000
namespace Go.Proofs.Ytaddpgjanbjcaaa
open Go Go.Ab Go.ChangeShapes Go.WideShapes Go.ChangeAt Go.RowKit
open Classical

theorem own : ownKnob Try.prog.godebug = none := by kernel_rfl
theorem max_le : maxLen ≤ 9223372036854775807 := by decide

theorem next_contract (H : Type) (enc : TypeId × Value → H) (W : World) (base : Nat) (args : Array Value) (ds gs : List (DataW H)) (before : List MemPlace)
    (hval : ∀ (j : Nat) t v, Try.f3.params[j]? = some t → args[j]? = some v → Value.okWide Try.prog W .any base t v)
    (hW : DataW.Whole enc Try.prog Try.f3.params.toList Rows.dirtyNextSpec.vars false W args.toList ds gs before) :
    Calls Try.prog 3 args W fun e W' => ∃ v, e = .returned v ∧ Rows.dirtyNextSpec.post enc Try.prog Try.f3 false true false false W args v W' := by
  refine law_post laid (s := Rows.dirtyNextSpec) rfl (tb := 4) rfl Try.underlying4 (n := 10) (by kernel_rfl) hval hW ?_ ?_
  · intro h
    match ds, h with
    | [a, b, c], _ => rfl
  · intro h hw
    match ds, h with
    | [a, b, c], _ =>
      obtain ⟨l, e1, hl, ht⟩ := dec22 (hw 0 22 a rfl rfl)
      obtain ⟨k, e2, hk, _⟩ := dec23 (hw 1 23 b rfl rfl)
      obtain ⟨g, e3, hg, _⟩ := dec24 (hw 2 24 c rfl rfl)
      have := f3_ok l k g (Nat.le_trans hl max_le) (Nat.le_trans hk max_le) (Nat.le_trans hg max_le) (fun t h => ⟨Nat.le_trans (ht t h).2.1.1 max_le, Nat.le_trans (ht t h).2.2.1 max_le, (ht t h).1⟩)
      have ep : Try.f3.params.toList = [22, 23, 24] := rfl
      rw [ep]
      simp only [argTVs, e1, e2, e3, ty22, ty23, ty24]
      exact this
end Go.Proofs.Ytaddpgjanbjcaaa
