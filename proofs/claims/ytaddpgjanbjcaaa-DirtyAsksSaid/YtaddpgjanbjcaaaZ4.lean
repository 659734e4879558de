/- DirtyAsks returns true for every input, and its arguments read as before. No condition beyond each theorem's own. -/
import Derived.Test.YtaddpgjanbjcaaaT11
import Derived.Test.YtaddpgjanbjcaaaT16
import Derived.Test.YtaddpgjanbjcaaaRows
import Derived.WalkKit
import Derived.ProofKit
import Derived.OpenShut
import Derived.JoinedOf
set_option linter.unusedSimpArgs false
set_option linter.unusedVariables false
set_option linter.unusedSectionVars false
set_option maxRecDepth 100000
/-! DirtyAsks returns true for every input, and its arguments read as before. -/
namespace Go.Proofs.Ytaddpgjanbjcaaa
open Go Go.Ab Go.ChangeShapes Go.WideShapes Go.ChangeAt Go.RowKit
open Classical

theorem dirtyAsks_own : ownKnob Try.prog.godebug = none := by kernel_rfl
theorem dirtyAsks_max : maxLen ≤ 9223372036854775807 := by decide

theorem dirtyAsks_contract (H : Type) (enc : TypeId × Value → H) (W : World) (base : Nat) (args : Array Value) (ds gs : List (DataW H)) (before : List MemPlace)
    (hval : ∀ (j : Nat) t v, Try.f4.params[j]? = some t → args[j]? = some v → Value.okWide Try.prog W .any base t v)
    (hW : DataW.Whole enc Try.prog Try.f4.params.toList Rows.dirtyAsksSpec.vars false W args.toList ds gs before) :
    Calls Try.prog 4 args W fun e W' => ∃ v, e = .returned v ∧ Rows.dirtyAsksSpec.post enc Try.prog Try.f4 false true false false W args v W' := by
  refine law_post laid (s := Rows.dirtyAsksSpec) rfl (tb := 4) rfl Try.underlying4 (n := 10) (by kernel_rfl) hval hW ?_ ?_
  · intro h
    match ds, h with
    | [a, b, c], _ => rfl
  · intro h hw
    match ds, h with
    | [a, b, c], _ =>
      obtain ⟨l, e1, hl, ht⟩ := dec22 (hw 0 22 a rfl rfl)
      obtain ⟨k, e2, hk, _⟩ := dec23 (hw 1 23 b rfl rfl)
      obtain ⟨g, e4, hg, _⟩ := dec24 (hw 2 24 c rfl rfl)
      have hx := dirtyAsks_max
      have := f4_ok l k g (Nat.le_trans hl hx) (Nat.le_trans hk hx) (Nat.le_trans hg hx) (fun t h => ⟨Nat.le_trans (ht t h).2.1.1 hx, Nat.le_trans (ht t h).2.2.1 hx⟩)
      have ep : Try.f4.params.toList = [22, 23, 24] := rfl
      rw [ep]
      simp only [argTVs, e1, e2, e4, ty22, ty23, ty24]
      exact this

theorem dirtyAsks_lifted (os : Os) (started : os.Started) (H : Type) (enc : TypeId × Value → H) :
    ReturnsInHanded {} Try.checked os 4 .any (Rows.dirtyAsksSpec.pre6 enc Try.prog Try.f4 Rows.dirtyAsksRow.domain false) (Rows.dirtyAsksSpec.post enc Try.prog Try.f4 false true false false) := by
  refine returnsInHanded_of_change (C := Try.checked) dirtyAsks_own started (by kernel_rfl) Try.func4
    (ChangeSpec.witness6 (enc := enc) (C := Try.checked) false ⟨#[], #[.slice none 0 0, .slice none 0 0, .slice none 0 0], []⟩ 8 (by kernel_rfl) (by kernel_rfl) (by kernel_rfl) (by kernel_rfl)) ?_
  intro W base args ds gs before hval hW hcnd _
  exact dirtyAsks_contract H enc W base args ds gs before hval hW

theorem dirtyAsks_said : Rows.DirtyAsksSaid :=
  OpenClaim.holds_of_wide 4 Try.f4 rfl rfl rfl rfl rfl rfl rfl ⟨rfl, rfl, rfl, rfl, rfl⟩ rfl rfl rfl rfl rfl (by kernel_rfl) Try.func4 (by kernel_rfl)
    (of_decide_eq_true (by kernel_rfl)) (by unfold Func.isWrapper; first | (rw [if_pos (by decide +kernel)]; kernel_rfl) | (rw [if_neg (by decide +kernel)]; exact ⟨rfl, rfl⟩))
    (fun os started H enc _ => dirtyAsks_lifted os started H enc)
#print axioms dirtyAsks_said
end Go.Proofs.Ytaddpgjanbjcaaa
