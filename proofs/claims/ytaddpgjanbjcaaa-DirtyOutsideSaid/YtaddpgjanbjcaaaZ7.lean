/- DirtyOutside returns true for every input, and its arguments read as before. No condition beyond each theorem's own. -/
import Derived.Test.YtaddpgjanbjcaaaT26
import Derived.Test.YtaddpgjanbjcaaaT25
import Derived.Test.YtaddpgjanbjcaaaRows
import Derived.WalkKit
import Derived.ProofKit
import Derived.OpenShut
import Derived.JoinedOf
set_option linter.unusedSimpArgs false
set_option linter.unusedVariables false
set_option linter.unusedSectionVars false
set_option maxRecDepth 100000
/-! DirtyOutside returns true for every input, and its arguments read as before. -/
namespace Go.Proofs.Ytaddpgjanbjcaaa
open Go Go.Ab Go.ChangeShapes Go.WideShapes Go.ChangeAt Go.RowKit
open Classical

theorem dirtyOutside_own : ownKnob Try.prog.godebug = none := by kernel_rfl
theorem dirtyOutside_max : maxLen ≤ 9223372036854775807 := by decide

theorem dirtyOutside_contract (H : Type) (enc : TypeId × Value → H) (W : World) (base : Nat) (args : Array Value) (ds gs : List (DataW H)) (before : List MemPlace)
    (hval : ∀ (j : Nat) t v, Try.f7.params[j]? = some t → args[j]? = some v → Value.okWide Try.prog W .any base t v)
    (hW : DataW.Whole enc Try.prog Try.f7.params.toList Rows.dirtyOutsideSpec.vars false W args.toList ds gs before) :
    Calls Try.prog 7 args W fun e W' => ∃ v, e = .returned v ∧ Rows.dirtyOutsideSpec.post enc Try.prog Try.f7 false true false false W args v W' := by
  refine law_post laid (s := Rows.dirtyOutsideSpec) rfl (tb := 4) rfl Try.underlying4 (n := 14) (by kernel_rfl) hval hW ?_ ?_
  · intro h
    match ds, h with
    | [a, b, c, d], _ => rfl
  · intro h hw
    match ds, h with
    | [a, b, c, d], _ =>
      obtain ⟨l, e1, hl, hl2⟩ := dec40 (hw 0 40 a rfl rfl)
      obtain ⟨k, e2, hk, ht⟩ := dec22 (hw 1 22 b rfl rfl)
      obtain ⟨g, e3, hg⟩ := dec41 (hw 2 41 c rfl rfl)
      obtain ⟨m, e4, hm⟩ := dec41 (hw 3 41 d rfl rfl)
      have hx := dirtyOutside_max
      have := f7_ok l k g m (Nat.le_trans hl hx) (Nat.le_trans hk hx) (Nat.le_trans hg hx) (Nat.le_trans hm hx) hl2 (fun t h => ⟨Nat.le_trans (ht t h).2.1.1 hx, Nat.le_trans (ht t h).2.2.1 hx, (ht t h).1⟩)
      have ep : Try.f7.params.toList = [40, 22, 41, 41] := rfl
      rw [ep]
      simp only [argTVs, e1, e2, e3, e4, ty40, ty22, ty41]
      exact this

theorem dirtyOutside_lifted (os : Os) (started : os.Started) (H : Type) (enc : TypeId × Value → H) :
    ReturnsInHanded {} Try.checked os 7 .any (Rows.dirtyOutsideSpec.pre6 enc Try.prog Try.f7 Rows.dirtyOutsideRow.domain false) (Rows.dirtyOutsideSpec.post enc Try.prog Try.f7 false true false false) := by
  refine returnsInHanded_of_change (C := Try.checked) dirtyOutside_own started (by kernel_rfl) Try.func7
    (ChangeSpec.witness6 (enc := enc) (C := Try.checked) false ⟨#[], #[.slice none 0 0, .slice none 0 0, .slice none 0 0, .slice none 0 0], []⟩ 8 (by kernel_rfl) (by kernel_rfl) (by kernel_rfl) (by kernel_rfl)) ?_
  intro W base args ds gs before hval hW hcnd _
  exact dirtyOutside_contract H enc W base args ds gs before hval hW

theorem dirtyOutside_said : Rows.DirtyOutsideSaid :=
  OpenClaim.holds_of_wide 7 Try.f7 rfl rfl rfl rfl rfl rfl rfl ⟨rfl, rfl, rfl, rfl, rfl⟩ rfl rfl rfl rfl rfl (by kernel_rfl) Try.func7 (by kernel_rfl)
    (of_decide_eq_true (by kernel_rfl)) (by unfold Func.isWrapper; first | (rw [if_pos (by decide +kernel)]; kernel_rfl) | (rw [if_neg (by decide +kernel)]; exact ⟨rfl, rfl⟩))
    (fun os started H enc _ => dirtyOutside_lifted os started H enc)
#print axioms dirtyOutside_said
end Go.Proofs.Ytaddpgjanbjcaaa
