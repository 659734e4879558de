/- A trace of bytes: the document. No condition beyond each theorem's own. -/
import Derived.Test.YthdgnfnalimcnaaGreatDoorP49ToP44
import Derived.Test.YthdgnfnalimcnaaGreatDoorP17ToPD
set_option linter.unusedSimpArgs false
set_option linter.unusedVariables false
set_option linter.unusedSectionVars false
set_option maxRecDepth 100000
/-! A trace of bytes: the document. -/
namespace Go.Proofs.YthdgnfnalimcnaaGreatDoor
open Go Go.Ab
open Classical
variable [Sel] [SelPow] [SelErr]

@[simp] theorem fnok87 : fnOK Tryz.prog 87 = true := by kernel_rfl
@[simp] theorem isne87 : isNE Tryz.prog (.func 87) = false := isNE_func fnok87
@[simp] theorem fnok53 : fnOK Tryz.prog 53 = true := by kernel_rfl
@[simp] theorem isne53 : isNE Tryz.prog (.func 53) = false := isNE_func fnok53
theorem rG_nil (n : Nat) : rG n [] = some ([], []) := by cases n <;> rfl
theorem rG_path : ∀ (m : Nat) {n : Nat} {l : List (List UInt8)} {x : List Read × List Made}, l.length ≤ m → rG n l = some x → (∀ y ∈ l, y.length ≤ 1000000000) → (∀ y ∈ x.1, y.path.length ≤ 1000000000) ∧ ∀ y ∈ x.2, y.path.length ≤ 1000000000
  | m, n, [], x, _, h, _ => by rw [rG_nil] at h; cases h; simp
  | m, n, [p], x, _, h, _ => by cases n <;> simp [rG] at h <;> subst h <;> simp
  | 0, n, p :: s :: r, x, hm, h, hb => by simp at hm
  | m + 1, 0, p :: s :: r, x, hm, h, hb => by
    unfold rG at h
    split at h
    · obtain ⟨y, hy, rfl⟩ := Option.map_eq_some_iff.1 h
      obtain ⟨h1, h2⟩ := rG_path m (by simp at hm; omega) hy (fun z hz => hb z (by simp [hz]))
      refine ⟨h1, fun z hz => ?_⟩
      rcases List.mem_cons.1 hz with rfl | hz
      · exact hb p (by simp)
      · exact h2 z hz
    · cases h
  | m + 1, n + 1, p :: s :: r, x, hm, h, hb => by
    unfold rG at h
    split at h
    · obtain ⟨y, hy, rfl⟩ := Option.map_eq_some_iff.1 h
      obtain ⟨h1, h2⟩ := rG_path m (by simp at hm; omega) hy (fun z hz => hb z (by simp [hz]))
      refine ⟨fun z hz => ?_, h2⟩
      rcases List.mem_cons.1 hz with rfl | hz
      · exact hb p (by simp)
      · exact h1 z hz
    · split at h
      · obtain ⟨y, hy, rfl⟩ := Option.map_eq_some_iff.1 h
        obtain ⟨h1, h2⟩ := rG_path m (by simp at hm; omega) hy (fun z hz => hb z (by simp [hz]))
        refine ⟨fun z hz => ?_, h2⟩
        rcases List.mem_cons.1 hz with rfl | hz
        · exact hb p (by simp)
        · exact h1 z hz
      · cases h
end Go.Proofs.YthdgnfnalimcnaaGreatDoor
