/- The db of bytes: the document. No condition beyond each theorem's own. -/
import Derived.Test.YthdgnfnalimcnaaGreatDoorI0ToP54a
import Derived.Test.YthdgnfnalimcnaaGreatDoorJ0ToI1a
import Derived.Test.YthdgnfnalimcnaaGreatDoorI1
import Derived.Test.YthdgnfnalimcnaaGreatDoorP17ToPD
set_option linter.unusedSimpArgs false
set_option linter.unusedVariables false
set_option linter.unusedSectionVars false
section
set_option maxRecDepth 100000
/-! The db of bytes: the document. -/
namespace Go.Proofs.YthdgnfnalimcnaaGreatDoor
open Go Go.Ab
open Classical
variable [Sel] [SelPow] [SelErr]

@[simp] theorem fnok25 : fnOK Tryz.prog 25 = true := by kernel_rfl
@[simp] theorem isne25 : isNE Tryz.prog (.func 25) = false := isNE_func fnok25
end Go.Proofs.YthdgnfnalimcnaaGreatDoor
end
section
set_option maxRecDepth 100000
/-! The law DbReads: the program. -/
namespace Go.Proofs.YthdgnfnalimcnaaGreatDoor
open Go Go.Ab
open Classical
variable [Sel] [SelPow] [SelErr]

@[simp] theorem fnok6 : fnOK Tryz.prog 6 = true := by kernel_rfl
@[simp] theorem isne6 : isNE Tryz.prog (.func 6) = false := isNE_func fnok6
theorem rallV_all : ∀ {T : List (List UInt8)} {ts : List Trace}, rallV T = .ok ts → ts = T.map (fun x => (readV x).1) ∧ ∀ x ∈ T, (readV x).2 = 0
  | [], ts, h => by cases h; simp
  | x :: r, ts, h => by
    unfold rallV at h
    split at h
    · rename_i h0
      split at h
      · rename_i l hr
        cases h
        obtain ⟨h1, h2⟩ := rallV_all hr
        refine ⟨by rw [h1]; rfl, fun y hy => ?_⟩
        rcases List.mem_cons.1 hy with rfl | hy
        · exact h0
        · exact h2 y hy
      · cases h
    · cases h
end Go.Proofs.YthdgnfnalimcnaaGreatDoor
end
