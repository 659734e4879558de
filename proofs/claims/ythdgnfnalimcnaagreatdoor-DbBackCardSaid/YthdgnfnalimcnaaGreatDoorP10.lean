/- The reference's test of a part. No condition beyond each theorem's own. -/
import Derived.Test.YthdgnfnalimcnaaGreatDoorP8ToP9
set_option linter.unusedSimpArgs false
set_option linter.unusedVariables false
set_option linter.unusedSectionVars false
set_option maxRecDepth 100000
/-! The reference's test of a part. -/
namespace Go.Proofs.YthdgnfnalimcnaaGreatDoor
open Go Go.Ab
open Classical
variable [Sel]

set_option maxHeartbeats 16000000 in
theorem rpart_ok (l : List UInt8) (hl : l.length ≤ 9223372036854775807) : PC Tryz.prog 70 [.av .str (.s l)] (.av .bool (.b (partV l))) := by
  refine PC.of <| ACalls.of_vc laid mixed Tryz.func70 rfl (by kernel_rfl) cf0 (by simp [Tryz.ntmps70]) fun imm0 w0 => ?_
  by_cases h1 : l = []
  · (simp (maxSteps := 2000000) (disch := first | omega | assumption) [zz, h1, Tryz.f70, partV])
  by_cases h2 : l = [46]
  · (simp (maxSteps := 2000000) (disch := first | omega | assumption) [zz, h2, Tryz.f70, partV])
  by_cases h3 : l = [46, 46]
  · (simp (maxSteps := 2000000) (disch := first | omega | assumption) [zz, h3, Tryz.f70, partV])
  by_cases h4 : l.length ≤ 64
  · have h4' : ¬ (64 : Int) < l.length := by omega
    (simp (maxSteps := 2000000) (disch := first | omega | assumption) [zz, h1, h2, h3, h4'])
    have hpv : partV l = l.all fun b => signN b.toNat := by simp [partV, h1, h2, h3, h4]
    refine AT.loop' (α := Nat) (fun k => St.of [(0, .av .str (.s l)), (3, .av (.int .i64) (.i .i64 k))] [] (fun _ => 0) []) (fun k => k ≤ l.length ∧ ((l.take k).all fun b => signN b.toNat) = true) (fun k => l.length - k) 0 ?_ ?_ ?_
    · refine Le.of ?_ ?_ ?_ ?_ ?_ <;> simp [leTV, locsIn, encDigs, encTraces, encWant, encTrace, encReads, encRead, encMades, encMade, lk_nil] <;> try omega
    · simp
    rintro k ⟨hk, hall⟩ KL hN hE
    refine vc_sound (cf := cf0) laid mixed _ _ _ (by kernel_rfl) ?_
    by_cases hlt : k < l.length
    · have hlt' : (k : Int) < l.length := by omega
      obtain ⟨n, hn⟩ : ∃ n : Nat, l[k].toNat = n := ⟨_, rfl⟩
      have hn255 : n ≤ 255 := by have := l[k].toNat_lt; omega
      have hbad : signN l[k].toNat = false → partV l = false := by
        intro h
        rw [hpv, List.all_eq_false]
        exact ⟨l[k], List.getElem_mem _, by simp [h]⟩
      rcases (by omega : (0 ≤ n ∧ n ≤ 42) ∨ n = 43 ∨ n = 44 ∨ n = 45 ∨ n = 46 ∨ n = 47 ∨ (48 ≤ n ∧ n ≤ 57) ∨ (58 ≤ n ∧ n ≤ 64) ∨ (65 ≤ n ∧ n ≤ 90) ∨ (91 ≤ n ∧ n ≤ 94) ∨ n = 95 ∨ n = 96 ∨ (97 ≤ n ∧ n ≤ 122) ∨ (123 ≤ n ∧ n ≤ 255)) with hc | hc | hc | hc | hc | hc | hc | hc | hc | hc | hc | hc | hc | hc
      · have g97 : ¬ ((97 : Int) ≤ n) := by omega
        have g65 : ¬ ((65 : Int) ≤ n) := by omega
        have g48 : ¬ ((48 : Int) ≤ n) := by omega
        have l122 : ((n : Int) ≤ 122) := by omega
        have l90 : ((n : Int) ≤ 90) := by omega
        have l57 : ((n : Int) ≤ 57) := by omega
        have e95 : ¬ ((n : Int) = 95) := by omega
        have e46 : ¬ ((n : Int) = 46) := by omega
        have e45 : ¬ ((n : Int) = 45) := by omega
        have e43 : ¬ ((n : Int) = 43) := by omega
        have hs : signN n = false := by unfold signN; simp; omega
        (simp (maxSteps := 2000000) (disch := first | omega | assumption) [zz, hlt', hn, g97, g65, g48, l122, l90, l57, e95, e46, e45, e43, hs])
        (repeat ((with_reducible refine And.intro ?_ ?_); (· first | omega | (show barB _ _ = true; kernel_rfl) | (show rdJ _ _ _ _ _ = true; kernel_rfl) | (show tailB _ _ _ = true; kernel_rfl) | (show sftB _ _ _ = true; kernel_rfl))))
        refine hE _ _ (by simp) ?_
        (simp (maxSteps := 2000000) (disch := first | omega | assumption) [zz, Tryz.f70])
        exact hbad (by rw [hn]; exact hs)
      · subst hc
        have hs : signN 43 = true := by decide
        (simp (maxSteps := 2000000) (disch := first | omega | assumption) [zz, hlt', hn, hs])
        (repeat ((with_reducible refine And.intro ?_ ?_); (· first | omega | (show barB _ _ = true; kernel_rfl) | (show rdJ _ _ _ _ _ = true; kernel_rfl) | (show tailB _ _ _ = true; kernel_rfl) | (show sftB _ _ _ = true; kernel_rfl))))
        refine hN _ (k+1) ?_ ⟨by omega, by rw [List.take_succ_eq_append_getElem hlt, List.all_append, hall]; simp [hn, hs]⟩ (by omega)
        refine Le.of ?_ ?_ ?_ ?_ ?_ <;> simp [leTV, locsIn, encDigs, encTraces, encWant, encTrace, encReads, encRead, encMades, encMade, lk_nil] <;> try omega
      · have g97 : ¬ ((97 : Int) ≤ n) := by omega
        have g65 : ¬ ((65 : Int) ≤ n) := by omega
        have g48 : ¬ ((48 : Int) ≤ n) := by omega
        have l122 : ((n : Int) ≤ 122) := by omega
        have l90 : ((n : Int) ≤ 90) := by omega
        have l57 : ((n : Int) ≤ 57) := by omega
        have e95 : ¬ ((n : Int) = 95) := by omega
        have e46 : ¬ ((n : Int) = 46) := by omega
        have e45 : ¬ ((n : Int) = 45) := by omega
        have e43 : ¬ ((n : Int) = 43) := by omega
        have hs : signN n = false := by unfold signN; simp; omega
        (simp (maxSteps := 2000000) (disch := first | omega | assumption) [zz, hlt', hn, g97, g65, g48, l122, l90, l57, e95, e46, e45, e43, hs])
        (repeat ((with_reducible refine And.intro ?_ ?_); (· first | omega | (show barB _ _ = true; kernel_rfl) | (show rdJ _ _ _ _ _ = true; kernel_rfl) | (show tailB _ _ _ = true; kernel_rfl) | (show sftB _ _ _ = true; kernel_rfl))))
        refine hE _ _ (by simp) ?_
        (simp (maxSteps := 2000000) (disch := first | omega | assumption) [zz, Tryz.f70])
        exact hbad (by rw [hn]; exact hs)
      · subst hc
        have hs : signN 45 = true := by decide
        (simp (maxSteps := 2000000) (disch := first | omega | assumption) [zz, hlt', hn, hs])
        (repeat ((with_reducible refine And.intro ?_ ?_); (· first | omega | (show barB _ _ = true; kernel_rfl) | (show rdJ _ _ _ _ _ = true; kernel_rfl) | (show tailB _ _ _ = true; kernel_rfl) | (show sftB _ _ _ = true; kernel_rfl))))
        refine hN _ (k+1) ?_ ⟨by omega, by rw [List.take_succ_eq_append_getElem hlt, List.all_append, hall]; simp [hn, hs]⟩ (by omega)
        refine Le.of ?_ ?_ ?_ ?_ ?_ <;> simp [leTV, locsIn, encDigs, encTraces, encWant, encTrace, encReads, encRead, encMades, encMade, lk_nil] <;> try omega
      · subst hc
        have hs : signN 46 = true := by decide
        (simp (maxSteps := 2000000) (disch := first | omega | assumption) [zz, hlt', hn, hs])
        (repeat ((with_reducible refine And.intro ?_ ?_); (· first | omega | (show barB _ _ = true; kernel_rfl) | (show rdJ _ _ _ _ _ = true; kernel_rfl) | (show tailB _ _ _ = true; kernel_rfl) | (show sftB _ _ _ = true; kernel_rfl))))
        refine hN _ (k+1) ?_ ⟨by omega, by rw [List.take_succ_eq_append_getElem hlt, List.all_append, hall]; simp [hn, hs]⟩ (by omega)
        refine Le.of ?_ ?_ ?_ ?_ ?_ <;> simp [leTV, locsIn, encDigs, encTraces, encWant, encTrace, encReads, encRead, encMades, encMade, lk_nil] <;> try omega
      · have g97 : ¬ ((97 : Int) ≤ n) := by omega
        have g65 : ¬ ((65 : Int) ≤ n) := by omega
        have g48 : ¬ ((48 : Int) ≤ n) := by omega
        have l122 : ((n : Int) ≤ 122) := by omega
        have l90 : ((n : Int) ≤ 90) := by omega
        have l57 : ((n : Int) ≤ 57) := by omega
        have e95 : ¬ ((n : Int) = 95) := by omega
        have e46 : ¬ ((n : Int) = 46) := by omega
        have e45 : ¬ ((n : Int) = 45) := by omega
        have e43 : ¬ ((n : Int) = 43) := by omega
        have hs : signN n = false := by unfold signN; simp; omega
        (simp (maxSteps := 2000000) (disch := first | omega | assumption) [zz, hlt', hn, g97, g65, g48, l122, l90, l57, e95, e46, e45, e43, hs])
        (repeat ((with_reducible refine And.intro ?_ ?_); (· first | omega | (show barB _ _ = true; kernel_rfl) | (show rdJ _ _ _ _ _ = true; kernel_rfl) | (show tailB _ _ _ = true; kernel_rfl) | (show sftB _ _ _ = true; kernel_rfl))))
        refine hE _ _ (by simp) ?_
        (simp (maxSteps := 2000000) (disch := first | omega | assumption) [zz, Tryz.f70])
        exact hbad (by rw [hn]; exact hs)
      · have g97 : ¬ ((97 : Int) ≤ n) := by omega
        have g65 : ¬ ((65 : Int) ≤ n) := by omega
        have g48 : ((48 : Int) ≤ n) := by omega
        have l122 : ((n : Int) ≤ 122) := by omega
        have l90 : ((n : Int) ≤ 90) := by omega
        have l57 : ((n : Int) ≤ 57) := by omega
        have e95 : ¬ ((n : Int) = 95) := by omega
        have e46 : ¬ ((n : Int) = 46) := by omega
        have e45 : ¬ ((n : Int) = 45) := by omega
        have e43 : ¬ ((n : Int) = 43) := by omega
        have hs : signN n = true := by unfold signN; simp; omega
        (simp (maxSteps := 2000000) (disch := first | omega | assumption) [zz, hlt', hn, g97, g65, g48, l122, l90, l57, e95, e46, e45, e43, hs])
        (repeat ((with_reducible refine And.intro ?_ ?_); (· first | omega | (show barB _ _ = true; kernel_rfl) | (show rdJ _ _ _ _ _ = true; kernel_rfl) | (show tailB _ _ _ = true; kernel_rfl) | (show sftB _ _ _ = true; kernel_rfl))))
        refine hN _ (k+1) ?_ ⟨by omega, by rw [List.take_succ_eq_append_getElem hlt, List.all_append, hall]; simp [hn, hs]⟩ (by omega)
        refine Le.of ?_ ?_ ?_ ?_ ?_ <;> simp [leTV, locsIn, encDigs, encTraces, encWant, encTrace, encReads, encRead, encMades, encMade, lk_nil] <;> try omega
      · have g97 : ¬ ((97 : Int) ≤ n) := by omega
        have g65 : ¬ ((65 : Int) ≤ n) := by omega
        have g48 : ((48 : Int) ≤ n) := by omega
        have l122 : ((n : Int) ≤ 122) := by omega
        have l90 : ((n : Int) ≤ 90) := by omega
        have l57 : ¬ ((n : Int) ≤ 57) := by omega
        have e95 : ¬ ((n : Int) = 95) := by omega
        have e46 : ¬ ((n : Int) = 46) := by omega
        have e45 : ¬ ((n : Int) = 45) := by omega
        have e43 : ¬ ((n : Int) = 43) := by omega
        have hs : signN n = false := by unfold signN; simp; omega
        (simp (maxSteps := 2000000) (disch := first | omega | assumption) [zz, hlt', hn, g97, g65, g48, l122, l90, l57, e95, e46, e45, e43, hs])
        (repeat ((with_reducible refine And.intro ?_ ?_); (· first | omega | (show barB _ _ = true; kernel_rfl) | (show rdJ _ _ _ _ _ = true; kernel_rfl) | (show tailB _ _ _ = true; kernel_rfl) | (show sftB _ _ _ = true; kernel_rfl))))
        refine hE _ _ (by simp) ?_
        (simp (maxSteps := 2000000) (disch := first | omega | assumption) [zz, Tryz.f70])
        exact hbad (by rw [hn]; exact hs)
      · have g97 : ¬ ((97 : Int) ≤ n) := by omega
        have g65 : ((65 : Int) ≤ n) := by omega
        have g48 : ((48 : Int) ≤ n) := by omega
        have l122 : ((n : Int) ≤ 122) := by omega
        have l90 : ((n : Int) ≤ 90) := by omega
        have l57 : ¬ ((n : Int) ≤ 57) := by omega
        have e95 : ¬ ((n : Int) = 95) := by omega
        have e46 : ¬ ((n : Int) = 46) := by omega
        have e45 : ¬ ((n : Int) = 45) := by omega
        have e43 : ¬ ((n : Int) = 43) := by omega
        have hs : signN n = true := by unfold signN; simp; omega
        (simp (maxSteps := 2000000) (disch := first | omega | assumption) [zz, hlt', hn, g97, g65, g48, l122, l90, l57, e95, e46, e45, e43, hs])
        (repeat ((with_reducible refine And.intro ?_ ?_); (· first | omega | (show barB _ _ = true; kernel_rfl) | (show rdJ _ _ _ _ _ = true; kernel_rfl) | (show tailB _ _ _ = true; kernel_rfl) | (show sftB _ _ _ = true; kernel_rfl))))
        refine hN _ (k+1) ?_ ⟨by omega, by rw [List.take_succ_eq_append_getElem hlt, List.all_append, hall]; simp [hn, hs]⟩ (by omega)
        refine Le.of ?_ ?_ ?_ ?_ ?_ <;> simp [leTV, locsIn, encDigs, encTraces, encWant, encTrace, encReads, encRead, encMades, encMade, lk_nil] <;> try omega
      · have g97 : ¬ ((97 : Int) ≤ n) := by omega
        have g65 : ((65 : Int) ≤ n) := by omega
        have g48 : ((48 : Int) ≤ n) := by omega
        have l122 : ((n : Int) ≤ 122) := by omega
        have l90 : ¬ ((n : Int) ≤ 90) := by omega
        have l57 : ¬ ((n : Int) ≤ 57) := by omega
        have e95 : ¬ ((n : Int) = 95) := by omega
        have e46 : ¬ ((n : Int) = 46) := by omega
        have e45 : ¬ ((n : Int) = 45) := by omega
        have e43 : ¬ ((n : Int) = 43) := by omega
        have hs : signN n = false := by unfold signN; simp; omega
        (simp (maxSteps := 2000000) (disch := first | omega | assumption) [zz, hlt', hn, g97, g65, g48, l122, l90, l57, e95, e46, e45, e43, hs])
        (repeat ((with_reducible refine And.intro ?_ ?_); (· first | omega | (show barB _ _ = true; kernel_rfl) | (show rdJ _ _ _ _ _ = true; kernel_rfl) | (show tailB _ _ _ = true; kernel_rfl) | (show sftB _ _ _ = true; kernel_rfl))))
        refine hE _ _ (by simp) ?_
        (simp (maxSteps := 2000000) (disch := first | omega | assumption) [zz, Tryz.f70])
        exact hbad (by rw [hn]; exact hs)
      · subst hc
        have hs : signN 95 = true := by decide
        (simp (maxSteps := 2000000) (disch := first | omega | assumption) [zz, hlt', hn, hs])
        (repeat ((with_reducible refine And.intro ?_ ?_); (· first | omega | (show barB _ _ = true; kernel_rfl) | (show rdJ _ _ _ _ _ = true; kernel_rfl) | (show tailB _ _ _ = true; kernel_rfl) | (show sftB _ _ _ = true; kernel_rfl))))
        refine hN _ (k+1) ?_ ⟨by omega, by rw [List.take_succ_eq_append_getElem hlt, List.all_append, hall]; simp [hn, hs]⟩ (by omega)
        refine Le.of ?_ ?_ ?_ ?_ ?_ <;> simp [leTV, locsIn, encDigs, encTraces, encWant, encTrace, encReads, encRead, encMades, encMade, lk_nil] <;> try omega
      · have g97 : ¬ ((97 : Int) ≤ n) := by omega
        have g65 : ((65 : Int) ≤ n) := by omega
        have g48 : ((48 : Int) ≤ n) := by omega
        have l122 : ((n : Int) ≤ 122) := by omega
        have l90 : ¬ ((n : Int) ≤ 90) := by omega
        have l57 : ¬ ((n : Int) ≤ 57) := by omega
        have e95 : ¬ ((n : Int) = 95) := by omega
        have e46 : ¬ ((n : Int) = 46) := by omega
        have e45 : ¬ ((n : Int) = 45) := by omega
        have e43 : ¬ ((n : Int) = 43) := by omega
        have hs : signN n = false := by unfold signN; simp; omega
        (simp (maxSteps := 2000000) (disch := first | omega | assumption) [zz, hlt', hn, g97, g65, g48, l122, l90, l57, e95, e46, e45, e43, hs])
        (repeat ((with_reducible refine And.intro ?_ ?_); (· first | omega | (show barB _ _ = true; kernel_rfl) | (show rdJ _ _ _ _ _ = true; kernel_rfl) | (show tailB _ _ _ = true; kernel_rfl) | (show sftB _ _ _ = true; kernel_rfl))))
        refine hE _ _ (by simp) ?_
        (simp (maxSteps := 2000000) (disch := first | omega | assumption) [zz, Tryz.f70])
        exact hbad (by rw [hn]; exact hs)
      · have g97 : ((97 : Int) ≤ n) := by omega
        have g65 : ((65 : Int) ≤ n) := by omega
        have g48 : ((48 : Int) ≤ n) := by omega
        have l122 : ((n : Int) ≤ 122) := by omega
        have l90 : ¬ ((n : Int) ≤ 90) := by omega
        have l57 : ¬ ((n : Int) ≤ 57) := by omega
        have e95 : ¬ ((n : Int) = 95) := by omega
        have e46 : ¬ ((n : Int) = 46) := by omega
        have e45 : ¬ ((n : Int) = 45) := by omega
        have e43 : ¬ ((n : Int) = 43) := by omega
        have hs : signN n = true := by unfold signN; simp; omega
        (simp (maxSteps := 2000000) (disch := first | omega | assumption) [zz, hlt', hn, g97, g65, g48, l122, l90, l57, e95, e46, e45, e43, hs])
        (repeat ((with_reducible refine And.intro ?_ ?_); (· first | omega | (show barB _ _ = true; kernel_rfl) | (show rdJ _ _ _ _ _ = true; kernel_rfl) | (show tailB _ _ _ = true; kernel_rfl) | (show sftB _ _ _ = true; kernel_rfl))))
        refine hN _ (k+1) ?_ ⟨by omega, by rw [List.take_succ_eq_append_getElem hlt, List.all_append, hall]; simp [hn, hs]⟩ (by omega)
        refine Le.of ?_ ?_ ?_ ?_ ?_ <;> simp [leTV, locsIn, encDigs, encTraces, encWant, encTrace, encReads, encRead, encMades, encMade, lk_nil] <;> try omega
      · have g97 : ((97 : Int) ≤ n) := by omega
        have g65 : ((65 : Int) ≤ n) := by omega
        have g48 : ((48 : Int) ≤ n) := by omega
        have l122 : ¬ ((n : Int) ≤ 122) := by omega
        have l90 : ¬ ((n : Int) ≤ 90) := by omega
        have l57 : ¬ ((n : Int) ≤ 57) := by omega
        have e95 : ¬ ((n : Int) = 95) := by omega
        have e46 : ¬ ((n : Int) = 46) := by omega
        have e45 : ¬ ((n : Int) = 45) := by omega
        have e43 : ¬ ((n : Int) = 43) := by omega
        have hs : signN n = false := by unfold signN; simp; omega
        (simp (maxSteps := 2000000) (disch := first | omega | assumption) [zz, hlt', hn, g97, g65, g48, l122, l90, l57, e95, e46, e45, e43, hs])
        (repeat ((with_reducible refine And.intro ?_ ?_); (· first | omega | (show barB _ _ = true; kernel_rfl) | (show rdJ _ _ _ _ _ = true; kernel_rfl) | (show tailB _ _ _ = true; kernel_rfl) | (show sftB _ _ _ = true; kernel_rfl))))
        refine hE _ _ (by simp) ?_
        (simp (maxSteps := 2000000) (disch := first | omega | assumption) [zz, Tryz.f70])
        exact hbad (by rw [hn]; exact hs)
    · have hlt' : ¬ (k : Int) < l.length := by omega
      (simp (maxSteps := 2000000) (disch := first | omega | assumption) [zz, hlt'])
      refine hE _ _ (by simp) ?_
      rw [List.take_of_length_le (by omega)] at hall
      (simp (maxSteps := 2000000) (disch := first | omega | assumption) [zz, Tryz.f70, hpv, hall])
  · have h4' : (64 : Int) < l.length := by omega
    (simp (maxSteps := 2000000) (disch := first | omega | assumption) [zz, h1, h2, h3, h4', Tryz.f70, partV, h4])
end Go.Proofs.YthdgnfnalimcnaaGreatDoor
