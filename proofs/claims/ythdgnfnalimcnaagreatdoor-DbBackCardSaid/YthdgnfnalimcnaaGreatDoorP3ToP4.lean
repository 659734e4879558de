/- A part of a path: the program's test. No condition beyond each theorem's own. -/
import Derived.Test.YthdgnfnalimcnaaGreatDoorP0ToP2
import Derived.Test.YthdgnfnalimcnaaGreatDoorL0
set_option linter.unusedSimpArgs false
set_option linter.unusedVariables false
set_option linter.unusedSectionVars false
section
set_option maxRecDepth 100000
/-! A part of a path: the program's test. -/
namespace Go.Proofs.YthdgnfnalimcnaaGreatDoor
open Go Go.Ab
open Classical
variable [Sel]

theorem sIndexFunc_ok (l : List UInt8) (hl : l.length ≤ 9223372036854775807) :
    PC Tryz.prog 146 [.av .str (.s l), .av .func (.fn 127 [])] (.av (.int .i64) (.i .i64 (badAt l))) := by
  refine PC.of <| ACalls.of_vc laid mixed Tryz.func146 rfl (by kernel_rfl) cf0 (by simp [Tryz.ntmps146]) fun imm0 w0 => ?_
  (simp (maxSteps := 2000000) (disch := first | omega | assumption) [zz])
  refine callV_pc (indexFunc_ok l hl) rfl rfl (by simp) (by simp [argLe, TV.er, AV.er, coC, AV.ers]) ?_
  (simp (maxSteps := 2000000) (disch := first | omega | assumption) [zz, Tryz.f146])
theorem containsFunc_ok (l : List UInt8) (hl : l.length ≤ 9223372036854775807) :
    PC Tryz.prog 126 [.av .str (.s l), .av .func (.fn 127 [])] (.av .bool (.b (!l.all fun b => signN b.toNat))) := by
  have hb : (0 ≤ badAt l) = ((!l.all fun b => signN b.toNat) = true) := by
    apply propext
    unfold badAt
    cases h : l.findIdx? (fun b => !signN b.toNat) with
    | none =>
      rw [List.findIdx?_eq_none_iff] at h
      simp at h ⊢
      exact h
    | some i =>
      rw [List.findIdx?_eq_some_iff_getElem] at h
      obtain ⟨hi, hp, _⟩ := h
      simp at hp ⊢
      exact ⟨_, List.getElem_mem hi, hp⟩
  refine PC.of <| ACalls.of_vc laid mixed Tryz.func126 rfl (by kernel_rfl) cf0 (by simp [Tryz.ntmps126]) fun imm0 w0 => ?_
  (simp (maxSteps := 2000000) (disch := first | omega | assumption) [zz])
  refine callV_pc (sIndexFunc_ok l hl) rfl rfl (by simp) (by simp [argLe, TV.er, AV.er, AV.ers]) ?_
  cases h : (!l.all fun b => signN b.toNat)
  · rw [h] at hb
    (simp (maxSteps := 2000000) (disch := first | omega | assumption) [zz, Tryz.f126, hb])
  · rw [h] at hb
    (simp (maxSteps := 2000000) (disch := first | omega | assumption) [zz, Tryz.f126, hb])
def partV (l : List UInt8) : Bool := decide (l ≠ [] ∧ l.length ≤ 64 ∧ l ≠ [46] ∧ l ≠ [46, 46]) && l.all fun b => signN b.toNat
set_option maxHeartbeats 4000000 in
theorem part_ok (l : List UInt8) (hl : l.length ≤ 9223372036854775807) : PC Tryz.prog 102 [.av .str (.s l)] (.av .bool (.b (partV l))) := by
  refine PC.of <| ACalls.of_vc laid mixed Tryz.func102 rfl (by kernel_rfl) cf0 (by simp [Tryz.ntmps102]) fun imm0 w0 => ?_
  by_cases h1 : l = []
  · (simp (maxSteps := 2000000) (disch := first | omega | assumption) [zz, h1, Tryz.f102, partV])
  by_cases h2 : l.length ≤ 64
  · have h2' : (l.length : Int) ≤ 64 := by omega
    by_cases h3 : l = [46]
    · (simp (maxSteps := 2000000) (disch := first | omega | assumption) [zz, h1, h3, Tryz.f102, partV])
    by_cases h4 : l = [46, 46]
    · (simp (maxSteps := 2000000) (disch := first | omega | assumption) [zz, h1, h4, Tryz.f102, partV])
    (simp (maxSteps := 2000000) (disch := first | omega | assumption) [zz, h1, h2', h3, h4])
    refine callV_pc (containsFunc_ok l hl) rfl rfl (by simp) (by simp [argLe, TV.er, AV.er, AV.ers]) ?_
    (simp (maxSteps := 2000000) (disch := first | omega | assumption) [zz, Tryz.f102, partV, h1, h2, h3, h4])
  · have h2' : ¬ (l.length : Int) ≤ 64 := by omega
    (simp (maxSteps := 2000000) (disch := first | omega | assumption) [zz, h1, h2', Tryz.f102, partV, h2])
end Go.Proofs.YthdgnfnalimcnaaGreatDoor
end
section
set_option maxRecDepth 100000
/-! Go's library: the place of a text of one byte in a text. -/
namespace Go.Proofs.YthdgnfnalimcnaaGreatDoor
open Go Go.Ab
open Classical
variable [Sel]

@[simp] theorem fnok152 : fnOK Tryz.prog 152 = true := by kernel_rfl
@[simp] theorem isne152 : isNE Tryz.prog (.func 152) = false := isNE_func fnok152
@[simp] theorem fnok145 : fnOK Tryz.prog 145 = true := by kernel_rfl
@[simp] theorem isne145 : isNE Tryz.prog (.func 145) = false := isNE_func fnok145
set_option maxHeartbeats 4000000 in
theorem sliteIndex_ok (l : List UInt8) (c : UInt8) (hl : l.length ≤ 9223372036854775807) :
    PC Tryz.prog 152 [.av .str (.s l), .av .str (.s [c])] (.av (.int .i64) (.i .i64 (Lib.indexByte l c))) := by
  refine PC.of <| ACalls.of_vc laid mixed Tryz.func152 rfl (by kernel_rfl) cf0 (by simp [Tryz.ntmps152]) fun imm0 w0 => ?_
  by_cases h1 : [c] = l
  · have h2 : Lib.indexByte l c = 0 := by rw [← h1]; simp [Lib.indexByte]
    (simp (maxSteps := 2000000) (disch := first | omega | assumption) [zz, h1, h2, Tryz.f152])
  · (simp (maxSteps := 2000000) (disch := first | omega | assumption) [zz, h1])
    refine callV_pc (sliteIB_ok l c) rfl rfl (by simp) (by simp [argLe, TV.er, AV.er]) ?_
    (simp (maxSteps := 2000000) (disch := first | omega | assumption) [zz, Tryz.f152])
theorem sIndex_ok (l : List UInt8) (c : UInt8) (hl : l.length ≤ 9223372036854775807) :
    PC Tryz.prog 145 [.av .str (.s l), .av .str (.s [c])] (.av (.int .i64) (.i .i64 (Lib.indexByte l c))) := by
  refine PC.of <| ACalls.of_vc laid mixed Tryz.func145 rfl (by kernel_rfl) cf0 (by simp [Tryz.ntmps145]) fun imm0 w0 => ?_
  (simp (maxSteps := 2000000) (disch := first | omega | assumption) [zz])
  refine callV_pc (sliteIndex_ok l c hl) rfl rfl (by simp) (by simp [argLe, TV.er, AV.er]) ?_
  (simp (maxSteps := 2000000) (disch := first | omega | assumption) [zz, Tryz.f145])
end Go.Proofs.YthdgnfnalimcnaaGreatDoor
end
section
set_option maxRecDepth 100000
/-! The parts of a text, one by one: the program's iterator. -/
namespace Go.Proofs.YthdgnfnalimcnaaGreatDoor
open Go Go.Ab
open Classical
variable [Sel]

def splitB (c : UInt8) : List UInt8 → List (List UInt8)
  | [] => [[]]
  | b :: l => if b = c then [] :: splitB c l else match splitB c l with
    | [] => [[b]]
    | x :: r => (b :: x) :: r
theorem splitB_ne (c : UInt8) : ∀ l, splitB c l ≠ []
  | [] => by simp [splitB]
  | b :: l => by
    unfold splitB
    split
    · simp
    · cases h : splitB c l <;> simp
theorem splitB_no {c : UInt8} : ∀ {l : List UInt8}, Lib.indexByte l c = -1 → splitB c l = [l]
  | [], _ => rfl
  | b :: l, h => by
    unfold Lib.indexByte at h
    by_cases hb : b = c
    · subst hb; simp at h
    · simp only [beq_iff_eq, hb, if_false] at h
      have hg := Lib.indexByte_ge l c
      split at h
      · rename_i h2
        rw [splitB, if_neg hb, splitB_no h2]
      · omega
theorem splitB_at {c : UInt8} : ∀ {l : List UInt8} {i : Nat}, Lib.indexByte l c = i → splitB c l = l.take i :: splitB c (l.drop (i+1)) ∧ i < l.length
  | [], i, h => by simp [Lib.indexByte] at h
  | b :: l, i, h => by
    unfold Lib.indexByte at h
    by_cases hb : b = c
    · subst hb
      simp at h
      have : i = 0 := by omega
      subst this
      simp [splitB]
    · simp only [beq_iff_eq, hb, if_false] at h
      have hg := Lib.indexByte_ge l c
      split at h
      · omega
      · rename_i h2
        obtain ⟨j, hj⟩ : ∃ j : Nat, Lib.indexByte l c = j := ⟨(Lib.indexByte l c).toNat, by omega⟩
        obtain ⟨h3, h4⟩ := splitB_at hj
        have : i = j + 1 := by omega
        subst this
        rw [splitB, if_neg hb, h3]
        simp; omega
end Go.Proofs.YthdgnfnalimcnaaGreatDoor
end
