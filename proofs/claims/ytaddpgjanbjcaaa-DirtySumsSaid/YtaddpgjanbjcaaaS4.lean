/- The program's SHA-256: a block's words. No condition beyond each theorem's own. -/
import Derived.Test.YtaddpgjanbjcaaaS2
set_option linter.unusedSimpArgs false
set_option linter.unusedVariables false
set_option linter.unusedSectionVars false
set_option maxRecDepth 100000
/-! The program's SHA-256: a block's words. -/
namespace Go.Proofs.Ytaddpgjanbjcaaa
open Go Go.Ab
open Classical

@[simp] theorem fnok48 : fnOK Try.prog 48 = true := by kernel_rfl
/-- the words behind some bytes -/
def spreadAt (b : List UInt8) (k : Nat) : List UInt32 := sched b (k / 4) ++ (if k % 4 = 0 then [] else [match k % 4 with
  | 1 => b.getD (4*(k/4)) 0 |>.toUInt32
  | 2 => ((b.getD (4*(k/4)) 0).toUInt32 <<< 8) ||| (b.getD (4*(k/4)+1) 0).toUInt32
  | _ => (((b.getD (4*(k/4)) 0).toUInt32 <<< 8) ||| (b.getD (4*(k/4)+1) 0).toUInt32) <<< 8 ||| (b.getD (4*(k/4)+2) 0).toUInt32])
def fillW (w : List UInt32) : List UInt32 := w ++ List.replicate (64 - w.length) 0
theorem fillW_len {w : List UInt32} (h : w.length ≤ 64) : (fillW w).length = 64 := by simp [fillW]; omega
theorem spreadAt_zero (b : List UInt8) : fillW (spreadAt b 0) = List.replicate 64 0 := by simp [spreadAt, sched, fillW]
theorem spreadAt_step (b : List UInt8) (k : Nat) (h : k < 64) : fillW (spreadAt b (k+1)) = (fillW (spreadAt b k)).set (k/4) (((fillW (spreadAt b k)).getD (k/4) 0 <<< 8) ||| (b.getD k 0).toUInt32) := by
  obtain ⟨q, r, rfl, hr⟩ : ∃ q r, k = 4*q + r ∧ r < 4 := ⟨k/4, k%4, by omega, by omega⟩
  have hq : (4*q+r)/4 = q := by omega
  have hm : (4*q+r)%4 = r := by omega
  have hlen := sched_len b q
  have hrep : List.replicate (64 - q) (0 : UInt32) = 0 :: List.replicate (64 - (q+1)) 0 := by
    rw [show 64 - q = (64 - (q+1)) + 1 by omega, List.replicate_succ]
  rcases (by omega : r = 0 ∨ r = 1 ∨ r = 2 ∨ r = 3) with rfl | rfl | rfl | rfl
  · have h1 : (4*q+0+1)/4 = q := by omega
    have h2 : (4*q+0+1)%4 = 1 := by omega
    simp only [spreadAt, hq, hm, h1, h2, fillW, hlen, if_true, List.append_nil]
    simp [hlen, hrep, List.getElem?_append_right, List.set_append_right]
  · have h1 : (4*q+1+1)/4 = q := by omega
    have h2 : (4*q+1+1)%4 = 2 := by omega
    simp only [spreadAt, hq, hm, h1, h2, fillW, hlen]
    simp [hlen, List.getElem?_append_right, List.set_append_right]
  · have h1 : (4*q+2+1)/4 = q := by omega
    have h2 : (4*q+2+1)%4 = 3 := by omega
    simp only [spreadAt, hq, hm, h1, h2, fillW, hlen]
    simp [hlen, List.getElem?_append_right, List.set_append_right]
  · have h1 : (4*q+3+1)/4 = q + 1 := by omega
    have h2 : (4*q+3+1)%4 = 0 := by omega
    have hw := wordOf_steps (b.getD (4*q) 0) (b.getD (4*q+1) 0) (b.getD (4*q+2) 0) (b.getD (4*q+3) 0)
    simp only [UInt32.zero_shiftLeft, UInt32.zero_or] at hw
    simp only [spreadAt, hq, hm, h1, h2, fillW, hlen, sched, if_pos (show q < 16 by omega), wordAt]
    simp [hlen, List.getElem?_append_right, List.set_append_right]
    simp only [List.getD_eq_getElem?_getD] at hw
    exact hw.symm
theorem spreadAt_end (b : List UInt8) : spreadAt b 64 = sched b 16 := by simp [spreadAt]
/-- a word more -/
theorem fillW_sched (b : List UInt8) (k : Nat) (h : k < 64) (h16 : 16 ≤ k) : fillW (sched b (k+1)) = (fillW (sched b k)).set k (nextW (sched b k)) := by
  have hlen := sched_len b k
  have hrep : List.replicate (64 - k) (0 : UInt32) = 0 :: List.replicate (64 - (k+1)) 0 := by
    rw [show 64 - k = (64 - (k+1)) + 1 by omega, List.replicate_succ]
  simp only [fillW, sched, hlen, if_neg (show ¬ k < 16 by omega)]
  simp [hlen, hrep, List.set_append_right]
end Go.Proofs.Ytaddpgjanbjcaaa
