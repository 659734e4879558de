/- The law TraceLimits: names, and what a check says of them. No condition beyond each theorem's own. -/
import Derived.Test.YtmkpbigaafemnaaDoorP26
set_option linter.unusedSimpArgs false
set_option linter.unusedVariables false
set_option linter.unusedSectionVars false
set_option maxRecDepth 100000
/-! The law TraceLimits: names, and what a check says of them. -/
namespace Go.Proofs.YtmkpbigaafemnaaDoor
open Go Go.Ab

def nameV (n : Nat) : List UInt8 := [UInt8.ofNat (48 + n / 1000 % 10), UInt8.ofNat (48 + n / 100 % 10), UInt8.ofNat (48 + n / 10 % 10), UInt8.ofNat (48 + n % 10)]
def nmR (i : Nat) : Read := ⟨nameV i, false, zero32⟩
def nmM (i : Nat) : Made := ⟨outT ++ 47 :: nameV i, zero32⟩
theorem nm_may : ((List.range 600).all fun i => mayV (nameV i)) = true := by kernel_rfl
theorem nm_val : ((List.range 600).all fun i => valD (nameV i) == i) = true := by kernel_rfl
theorem nm_under : ((List.range 1100).all fun i => underV (nmM i).path outT) = true := by kernel_rfl
theorem nm_less : ((List.range 1100).all fun i => decide ((nmM (i+1)).path ≠ (nmM i).path) && !(Op.bytesLess (nmM (i+1)).path (nmM i).path)) = true := by kernel_rfl
theorem readsV_ok : ∀ {l : List Read} {met : List (List UInt8)}, (∀ r ∈ l, mayV r.path = true ∧ r.sum = zero32) → (∀ r ∈ l, r.path ∉ met) → (l.map (·.path)).Nodup → readsV met l = 0
  | [], _, _, _, _ => rfl
  | r :: l, met, h1, h2, h3 => by
    rw [List.map_cons, List.nodup_cons] at h3
    obtain ⟨a, b⟩ := h1 r (by simp)
    unfold readsV
    rw [if_neg (by rw [a]; simp), if_neg (h2 r (by simp)), if_neg (by rw [b]; simp)]
    refine readsV_ok (fun x hx => h1 x (by simp [hx])) (fun x hx hm => ?_) h3.2
    rcases List.mem_append.1 hm with hm | hm
    · exact h2 x (by simp [hx]) hm
    · rw [List.mem_singleton] at hm
      exact h3.1 (by rw [← hm]; exact List.mem_map.2 ⟨x, hx, rfl⟩)
theorem nm_reads {m : Nat} (hm : m ≤ 600) : readsV [] ((List.range m).map nmR) = 0 := by
  have hlt : ∀ i ∈ List.range m, i < 600 := fun i hi => by rw [List.mem_range] at hi; omega
  refine readsV_ok (fun r hr => ?_) (by simp) ?_
  · obtain ⟨i, hi, rfl⟩ := List.mem_map.1 hr
    exact ⟨List.all_eq_true.1 nm_may i (List.mem_range.2 (hlt i hi)), rfl⟩
  · rw [List.map_map]
    refine List.pairwise_map.2 ((List.nodup_range (n := m)).imp_of_mem ?_)
    intro i j hi hj hne e
    have h1 := List.all_eq_true.1 nm_val i (List.mem_range.2 (hlt i hi))
    have h2 := List.all_eq_true.1 nm_val j (List.mem_range.2 (hlt j hj))
    simp only [beq_iff_eq] at h1 h2
    simp only [Function.comp, nmR] at e
    exact hne (by rw [← h1, ← h2, e])
theorem nm_outs0 : ∀ (n i : Nat), i + n ≤ 1099 → outsV (some (nmM i).path) ((List.range' (i+1) n).map nmM) = 0
  | 0, _, _ => rfl
  | n+1, i, h => by
    have ih := nm_outs0 n (i+1) (by omega)
    have h1 := List.all_eq_true.1 nm_under (i+1) (List.mem_range.2 (by omega))
    have h2 := List.all_eq_true.1 nm_less i (List.mem_range.2 (by omega))
    simp only [Bool.and_eq_true, decide_eq_true_eq, Bool.not_eq_true'] at h2
    rw [List.range'_succ, List.map_cons]
    unfold outsV
    rw [if_neg (by rw [h1]; simp), if_neg h2.1, if_neg (by rw [h2.2]; simp)]
    exact ih
theorem nm_outs {n : Nat} (h : n ≤ 1100) : outsV none ((List.range n).map nmM) = 0 := by
  cases n with
  | zero => rfl
  | succ n =>
    have h1 := List.all_eq_true.1 nm_under 0 (List.mem_range.2 (by omega))
    have h2 := nm_outs0 n 0 (by omega)
    rw [List.range_eq_range', List.range'_succ, List.map_cons]
    unfold outsV
    rw [if_neg (by rw [h1]; simp)]
    exact h2
theorem nm_check (m n : Nat) (k : Dig) (hm : m ≤ 600) (hn : n ≤ 1100) : checkV ⟨k, (List.range m).map nmR, (List.range n).map nmM⟩ = if 500 < m ∨ 1000 < n then 6 else 0 := by
  unfold checkV
  simp only [List.length_map, List.length_range, nm_reads hm, nm_outs hn]
  simp
end Go.Proofs.YtmkpbigaafemnaaDoor
