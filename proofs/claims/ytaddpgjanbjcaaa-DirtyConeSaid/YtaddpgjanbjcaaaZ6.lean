/- DirtyCone returns true for every input, and its arguments read as before. No condition beyond each theorem's own. -/
import Derived.Test.YtaddpgjanbjcaaaT24
import Derived.Test.YtaddpgjanbjcaaaT25
import Derived.Test.YtaddpgjanbjcaaaRows
import Derived.WalkKit
import Derived.ProofKit
import Derived.OpenShut
import Derived.JoinedOf
set_option linter.unusedSimpArgs false
set_option linter.unusedVariables false
set_option linter.unusedSectionVars false
set_option maxRecDepth 100000
/-! DirtyCone returns true for every input, and its arguments read as before. -/
namespace Go.Proofs.Ytaddpgjanbjcaaa
open Go Go.Ab Go.ChangeShapes Go.WideShapes Go.ChangeAt Go.RowKit
open Classical

theorem dirtyCone_own : ownKnob Try.prog.godebug = none := by kernel_rfl
theorem dirtyCone_max : maxLen ≤ 9223372036854775807 := by decide

theorem dirtyCone_contract (H : Type) (enc : TypeId × Value → H) (W : World) (base : Nat) (args : Array Value) (ds gs : List (DataW H)) (before : List MemPlace)
    (hval : ∀ (j : Nat) t v, Try.f6.params[j]? = some t → args[j]? = some v → Value.okWide Try.prog W .any base t v)
    (hW : DataW.Whole enc Try.prog Try.f6.params.toList Rows.dirtyConeSpec.vars false W args.toList ds gs before) :
    Calls Try.prog 6 args W fun e W' => ∃ v, e = .returned v ∧ Rows.dirtyConeSpec.post enc Try.prog Try.f6 false true false false W args v W' := by
  refine law_post laid (s := Rows.dirtyConeSpec) rfl (tb := 4) rfl Try.underlying4 (n := 14) (by kernel_rfl) hval hW ?_ ?_
  · intro h
    match ds, h with
    | [a, b, c], _ => rfl
  · intro h hw
    match ds, h with
    | [a, b, c], _ =>
      obtain ⟨l, e1, hl, hl2⟩ := dec40 (hw 0 40 a rfl rfl)
      obtain ⟨k, e2, hk, ht⟩ := dec22 (hw 1 22 b rfl rfl)
      obtain ⟨g, e3, hg⟩ := dec41 (hw 2 41 c rfl rfl)
      have hx := dirtyCone_max
      have := f6_ok l k g (Nat.le_trans hl hx) (Nat.le_trans hk hx) (Nat.le_trans hg hx) hl2 (fun t h => ⟨Nat.le_trans (ht t h).2.1.1 hx, Nat.le_trans (ht t h).2.2.1 hx, (ht t h).1⟩)
      have ep : Try.f6.params.toList = [40, 22, 41] := rfl
      rw [ep]
      simp only [argTVs, e1, e2, e3, ty40, ty22, ty41]
      exact this

theorem dirtyCone_lifted (os : Os) (started : os.Started) (H : Type) (enc : TypeId × Value → H) :
    ReturnsInHanded {} Try.checked os 6 .any (Rows.dirtyConeSpec.pre6 enc Try.prog Try.f6 Rows.dirtyConeRow.domain false) (Rows.dirtyConeSpec.post enc Try.prog Try.f6 false true false false) := by
  refine returnsInHanded_of_change (C := Try.checked) dirtyCone_own started (by kernel_rfl) Try.func6
    (ChangeSpec.witness6 (enc := enc) (C := Try.checked) false ⟨#[], #[.slice none 0 0, .slice none 0 0, .slice none 0 0], []⟩ 8 (by kernel_rfl) (by kernel_rfl) (by kernel_rfl) (by kernel_rfl)) ?_
  intro W base args ds gs before hval hW hcnd _
  exact dirtyCone_contract H enc W base args ds gs before hval hW

theorem dirtyCone_said : Rows.DirtyConeSaid :=
  OpenClaim.holds_of_wide 6 Try.f6 rfl rfl rfl rfl rfl rfl rfl ⟨rfl, rfl, rfl, rfl, rfl⟩ rfl rfl rfl rfl rfl (by kernel_rfl) Try.func6 (by kernel_rfl)
    (of_decide_eq_true (by kernel_rfl)) (by unfold Func.isWrapper; first | (rw [if_pos (by decide +kernel)]; kernel_rfl) | (rw [if_neg (by decide +kernel)]; exact ⟨rfl, rfl⟩))
    (fun os started H enc _ => dirtyCone_lifted os started H enc)
#print axioms dirtyCone_said
end Go.Proofs.Ytaddpgjanbjcaaa
