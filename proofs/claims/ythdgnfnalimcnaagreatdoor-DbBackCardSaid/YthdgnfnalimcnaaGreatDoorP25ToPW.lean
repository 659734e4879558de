/- A row's text tells its texts; a trace's bytes tell the trace. No condition beyond each theorem's own. -/
import Derived.Test.YthdgnfnalimcnaaGreatDoorP20
import Derived.Test.YthdgnfnalimcnaaGreatDoorB0
import Derived.Test.YthdgnfnalimcnaaGreatDoorP13ToP14
set_option linter.unusedSimpArgs false
set_option linter.unusedVariables false
set_option linter.unusedSectionVars false
section
set_option maxRecDepth 100000
/-! A row's text tells its texts; a trace's bytes tell the trace. -/
namespace Go.Proofs.YthdgnfnalimcnaaGreatDoor
open Go Go.Ab
open Classical
variable [Sel] [SelPow]

theorem decDigits_ne (u : Nat) : ∀ b ∈ Lib.decDigits u, b ≠ 58 := by
  induction u using Nat.strongRecOn with
  | ind u ih =>
    rw [Lib.decDigits]
    have key : ∀ d : Nat, d < 10 → UInt8.ofNat (48 + d) ≠ 58 := fun d hd e => by
      have := congrArg UInt8.toNat e
      simp at this
      omega
    split
    · rename_i h
      intro b hb
      rw [List.mem_singleton] at hb
      subst hb
      exact key u h
    · rename_i h
      intro b hb
      rcases List.mem_append.1 hb with hb | hb
      · exact ih (u / 10) (by omega) b hb
      · rw [List.mem_singleton] at hb
        subst hb
        exact key (u % 10) (by omega)
def valD (l : List UInt8) : Nat := l.foldl (fun a b => a * 10 + (b.toNat - 48)) 0
theorem valD_decDigits (u : Nat) : valD (Lib.decDigits u) = u := by
  induction u using Nat.strongRecOn with
  | ind u ih =>
    have key : ∀ d : Nat, d < 10 → (UInt8.ofNat (48 + d)).toNat - 48 = d := fun d hd => by simp; omega
    rw [Lib.decDigits]
    split
    · rename_i h
      simp only [valD, List.foldl_cons, List.foldl_nil, key u h]
      omega
    · rename_i h
      have := ih (u / 10) (by omega)
      unfold valD at this ⊢
      rw [List.foldl_append, this]
      simp only [List.foldl_cons, List.foldl_nil, key (u % 10) (by omega)]
      omega
theorem itoa_nat (n : Nat) : Lib.itoa (n : Int) = Lib.decDigits n := by
  unfold Lib.itoa
  rw [if_neg (by omega)]
  simp
theorem itoa_inj {m n : Nat} (h : Lib.itoa (m : Int) = Lib.itoa (n : Int)) : m = n := by
  rw [itoa_nat, itoa_nat] at h
  rw [← valD_decDigits m, h, valD_decDigits]
theorem split58 : ∀ {a b x y : List UInt8}, (∀ c ∈ a, c ≠ 58) → (∀ c ∈ b, c ≠ 58) → a ++ 58 :: x = b ++ 58 :: y → a = b ∧ x = y
  | [], [], x, y, _, _, h => by
    simp only [List.nil_append, List.cons.injEq, true_and] at h
    exact ⟨rfl, h⟩
  | [], c :: b, x, y, _, hb, h => by
    simp only [List.nil_append, List.cons_append, List.cons.injEq] at h
    exact (hb c (by simp) h.1.symm).elim
  | c :: a, [], x, y, ha, _, h => by
    simp only [List.nil_append, List.cons_append, List.cons.injEq] at h
    exact (ha c (by simp) h.1).elim
  | c :: a, d :: b, x, y, ha, hb, h => by
    simp only [List.cons_append, List.cons.injEq] at h
    obtain ⟨e1, e2⟩ := split58 (fun z hz => ha z (by simp [hz])) (fun z hz => hb z (by simp [hz])) h.2
    exact ⟨by rw [h.1, e1], e2⟩
theorem rowV_cons (s : List UInt8) (l : List (List UInt8)) : rowV (s :: l) = Lib.itoa s.length ++ 58 :: (s ++ rowV l) := by
  simp [rowV]
theorem rowV_inj : ∀ {a b : List (List UInt8)}, rowV a = rowV b → a = b
  | [], [], _ => rfl
  | [], s :: l, h => by
    rw [rowV_cons] at h
    have := congrArg List.length h
    simp [rowV] at this
  | s :: l, [], h => by
    rw [rowV_cons] at h
    have := congrArg List.length h
    simp [rowV] at this
  | s :: l, s' :: l', h => by
    rw [rowV_cons, rowV_cons] at h
    obtain ⟨e1, e2⟩ := split58 (by rw [itoa_nat]; exact decDigits_ne _) (by rw [itoa_nat]; exact decDigits_ne _) h
    have e3 := itoa_inj e1
    obtain ⟨e4, e5⟩ := List.append_inj e2 e3
    rw [e4, rowV_inj e5]
def okS (r : Read) : Prop := r.sum.length = 32 ∧ (r.is = false → r.sum = zero32)
theorem reads_len (l : List Read) : (l.flatMap readT).length = 2 * l.length := by
  induction l with
  | nil => rfl
  | cons r l ih => rw [List.flatMap_cons, List.length_append, ih]; simp [readT]; omega
theorem readsV_zero : ∀ {l : List Read} {met : List (List UInt8)}, readsV met l = 0 → ∀ r ∈ l, mayV r.path = true ∧ (r.is = false → r.sum = zero32)
  | [], _, _, r, hr => by cases hr
  | x :: l, met, h, r, hr => by
    unfold readsV at h
    split at h
    · cases h
    · split at h
      · cases h
      · split at h
        · cases h
        · rename_i h1 h2 h3
          rcases List.mem_cons.1 hr with rfl | hr
          · exact ⟨by simpa using h1, fun hi => Classical.byContradiction fun hn => h3 ⟨hi, hn⟩⟩
          · exact readsV_zero h r hr
theorem outsV_zero : ∀ {l : List Made} {o : Option (List UInt8)}, outsV o l = 0 → ∀ m ∈ l, underV m.path outT = true
  | [], _, _, m, hm => by cases hm
  | x :: l, none, h, m, hm => by
    unfold outsV at h
    split at h
    · cases h
    · rename_i h1
      rcases List.mem_cons.1 hm with rfl | hm
      · simpa using h1
      · exact outsV_zero h m hm
  | x :: l, some q, h, m, hm => by
    unfold outsV at h
    split at h
    · cases h
    · split at h
      · cases h
      · split at h
        · cases h
        · rename_i h1 _ _
          rcases List.mem_cons.1 hm with rfl | hm
          · simpa using h1
          · exact outsV_zero h m hm
theorem splitB_total (c : UInt8) : ∀ l, l.length + 1 = ((splitB c l).map fun x => x.length + 1).sum
  | [] => rfl
  | b :: l => by
    have ih := splitB_total c l
    unfold splitB
    split
    · simp only [List.map_cons, List.sum_cons, List.length_cons, List.length_nil]; omega
    · split
      · rename_i h; rw [h] at ih; simp at ih
      · rename_i x r h
        rw [h] at ih
        simp only [List.map_cons, List.sum_cons, List.length_cons] at ih ⊢
        omega
theorem sum_le65 : ∀ l : List (List UInt8), (∀ x ∈ l, x.length ≤ 64) → (l.map fun x => x.length + 1).sum ≤ 65 * l.length
  | [], _ => by simp
  | x :: l, h => by
    have := sum_le65 l fun y hy => h y (by simp [hy])
    have := h x (by simp)
    simp only [List.map_cons, List.sum_cons, List.length_cons]; omega
theorem mayV_len {l : List UInt8} (h : mayV l = true) : l.length ≤ 1040 := by
  simp only [mayV, Bool.and_eq_true, decide_eq_true_eq, List.all_eq_true] at h
  have h1 := splitB_total 47 l
  have h2 := sum_le65 (splitB 47 l) fun x hx => by
    have := h.2 x hx
    simp only [partV, Bool.and_eq_true, decide_eq_true_eq] at this
    exact this.1.2.1
  omega
theorem decDigits_le (u : Nat) : (Lib.decDigits u).length ≤ u + 1 := by
  induction u using Nat.strongRecOn with
  | ind u ih =>
    rw [Lib.decDigits]
    split
    · simp
    · have := ih (u / 10) (by omega)
      simp; omega
theorem rowV_le : ∀ {l : List (List UInt8)} {n : Nat}, (∀ x ∈ l, x.length ≤ n) → (rowV l).length ≤ (2 * n + 2) * l.length
  | [], _, _ => by simp [rowV]
  | s :: l, n, h => by
    have ih := rowV_le (l := l) fun y hy => h y (by simp [hy])
    have h1 := h s (by simp)
    have h2 := decDigits_le s.length
    rw [rowV_cons, itoa_nat]
    simp only [List.length_append, List.length_cons, Nat.mul_add]
    omega
theorem mades_len (l : List Made) : (l.flatMap madeT).length = 2 * l.length := by
  induction l with
  | nil => rfl
  | cons r l ih => rw [List.flatMap_cons, List.length_append, ih]; simp [madeT]; omega
theorem checkV_parts {t : Trace} (h : checkV t = 0) : readsV [] t.reads = 0 ∧ outsV none t.outs = 0 := by
  unfold checkV at h
  split at h
  · cases h
  · split at h
    · rename_i h1; exact (h1 h).elim
    · rename_i h1; exact ⟨by simpa using h1, h⟩
theorem bytes_len7 {t : Trace} (hd : TrD t) (h : checkV t = 0) : (rowV (bytesL t)).length ≤ 6300000 := by
  obtain ⟨h1, h2⟩ := checkV_len h
  obtain ⟨h3, h4⟩ := checkV_parts h
  obtain ⟨d1, d2, d3⟩ := hd
  have := rowV_le (l := bytesL t) (n := 1040) (by
    intro x hx
    simp only [bytesL, List.mem_append, List.mem_cons, List.mem_flatMap, List.not_mem_nil, or_false] at hx
    rcases hx with ((rfl | rfl) | ⟨r, hr, hx⟩) | ⟨m, hm, hx⟩
    · omega
    · have := decDigits_le t.reads.length
      rw [itoa_nat]; omega
    · have := mayV_len (readsV_zero h3 r hr).1
      simp only [readT, List.mem_cons, List.not_mem_nil, or_false] at hx
      rcases hx with rfl | rfl
      · exact this
      · split
        · have := d2 r hr; omega
        · simp
    · have hu := outsV_zero h4 m hm
      simp only [underV, Bool.and_eq_true] at hu
      have := mayV_len hu.1
      simp only [madeT, List.mem_cons, List.not_mem_nil, or_false] at hx
      rcases hx with rfl | rfl
      · exact this
      · have := d3 m hm; omega)
  have hl : (bytesL t).length ≤ 3002 := by
    simp only [bytesL, List.length_append, reads_len, mades_len, List.length_cons, List.length_nil]; omega
  have : (2 * 1040 + 2) * (bytesL t).length ≤ (2 * 1040 + 2) * 3002 := Nat.mul_le_mul_left _ hl
  omega
theorem bytes_len {t : Trace} (hd : TrD t) (h : checkV t = 0) : (rowV (bytesL t)).length ≤ 10000000000 := Nat.le_trans (bytes_len7 hd h) (by omega)
theorem okS_of_check {t : Trace} (hd : TrD t) (h : checkV t = 0) : ∀ r ∈ t.reads, okS r := fun r hr => ⟨hd.2.1 r hr, (readsV_zero (checkV_parts h).1 r hr).2⟩
end Go.Proofs.YthdgnfnalimcnaaGreatDoor
end
section
set_option maxRecDepth 100000
/-! The token of a row that grows from nothing. -/
namespace Go.Proofs.YthdgnfnalimcnaaGreatDoor
open Go Go.Ab
open Classical
variable [Sel]

def tkO (d : Nat) : Nat → Tok
  | 0 => .full
  | k+1 => .own d (k+1)
end Go.Proofs.YthdgnfnalimcnaaGreatDoor
end
section
set_option maxRecDepth 100000
/-! Has a trace more than statements look at? -/
namespace Go.Proofs.YthdgnfnalimcnaaGreatDoor
open Go Go.Ab
open Classical
variable [Sel]

@[simp] theorem fnok26 : fnOK Tryz.prog 26 = true := by kernel_rfl
@[simp] theorem isne26 : isNE Tryz.prog (.func 26) = false := isNE_func fnok26
@[simp] theorem fnok10 : fnOK Tryz.prog 10 = true := by kernel_rfl
@[simp] theorem isne10 : isNE Tryz.prog (.func 10) = false := isNE_func fnok10
def sumR (l : List Read) : Nat := (l.map fun r => min r.path.length 3000).sum
def sumM (l : List Made) : Nat := (l.map fun r => min r.path.length 3000).sum
theorem sumR_le : ∀ l, sumR l ≤ 3000 * l.length
  | [] => by simp [sumR]
  | r :: l => by have := sumR_le l; simp only [sumR, List.map_cons, List.sum_cons, List.length_cons] at this ⊢; omega
theorem sumM_le : ∀ l, sumM l ≤ 3000 * l.length
  | [] => by simp [sumM]
  | r :: l => by have := sumM_le l; simp only [sumM, List.map_cons, List.sum_cons, List.length_cons] at this ⊢; omega
def wideTV (t : Trace) : Bool := if 60 < t.reads.length then true else if 60 < t.outs.length then true else decide (3000 < sumR t.reads + sumM t.outs)
set_option maxHeartbeats 4000000 in
theorem wide_ok (t : Trace) (hl : t.reads.length ≤ 9223372036854775807) (hm : t.outs.length ≤ 9223372036854775807) (hlp : ∀ r ∈ t.reads, r.path.length ≤ 9223372036854775807) (hmp : ∀ r ∈ t.outs, r.path.length ≤ 9223372036854775807) :
    PC Tryz.prog 26 [.av (tyOf Tryz.prog 34) (encTrace t)] (.av .bool (.b (wideTV t))) := by
  refine PC.of <| ACalls.of_vc laid mixed Tryz.func26 rfl (by kernel_rfl) cf0 (by simp [Tryz.ntmps26]) fun imm0 w0 => ?_
  by_cases h1 : 60 < t.reads.length
  · have h1' : (60 : Int) < t.reads.length := by omega
    (simp (maxSteps := 2000000) (disch := first | omega | assumption) [zz, encTrace, encReads, encMades, h1', Tryz.f26, wideTV, h1])
  have h1' : ¬ (60 : Int) < t.reads.length := by omega
  by_cases h2 : 60 < t.outs.length
  · have h2' : (60 : Int) < t.outs.length := by omega
    (simp (maxSteps := 2000000) (disch := first | omega | assumption) [zz, encTrace, encReads, encMades, h1', h2', Tryz.f26, wideTV, h1, h2])
  have h2' : ¬ (60 : Int) < t.outs.length := by omega
  (simp (maxSteps := 2000000) (disch := first | omega | assumption) [zz, encTrace, encReads, encMades, h1', h2'])
  refine AT.loop' (α := Nat) (fun k => St.of [(1, .loc 1 []), (3, .av (.int .i64) (.i .i64 (sumR (t.reads.take k)))), (4, .av (.int .i64) (.i .i64 k))] [(1, (tyOf Tryz.prog 34, encTrace t))] (fun _ => 0) [])
    (fun k => k ≤ t.reads.length) (fun k => t.reads.length - k) 0 ?_ ?_ ?_
  · refine Le.of ?_ ?_ ?_ ?_ ?_ <;> simp [leTV, locsIn, encDigs, encTraces, encWant, encTrace, encReads, encRead, encMades, encMade, encReads, encTrace, encMades, sumR] <;> try omega
  · simp
  · rintro k hk KL hN hE
    have hs := sumR_le (t.reads.take k)
    rw [List.length_take] at hs
    refine vc_sound (cf := cf0) laid mixed _ _ _ (by kernel_rfl) ?_
    by_cases hlt : k < t.reads.length
    · have hlt' : (k : Int) < t.reads.length := by omega
      have hg := map_get encRead t.reads k hlt
      have hp := hlp t.reads[k] (List.getElem_mem _)
      have htk : (sumR (t.reads.take (k+1)) : Int) = sumR (t.reads.take k) + if (3000 : Int) < t.reads[k].path.length then 3000 else t.reads[k].path.length := by
        rw [List.take_succ_eq_append_getElem hlt]
        simp only [sumR, List.map_append, List.sum_append, List.map_cons, List.sum_cons, List.map_nil, List.sum_nil]
        split <;> omega
      by_cases hm3 : (3000 : Int) < t.reads[k].path.length
      · rw [if_pos hm3] at htk
        (simp (maxSteps := 2000000) (disch := first | omega | assumption) [zz, hlt', encTrace, encReads, encRead, hg, hm3])
        (repeat ((with_reducible refine And.intro ?_ ?_); (· first | omega | (show barB _ _ = true; kernel_rfl) | (show rdJ _ _ _ _ _ = true; kernel_rfl) | (show tailB _ _ _ = true; kernel_rfl) | (show sftB _ _ _ = true; kernel_rfl))))
        refine hN _ (k+1) ?_ (by omega) (by omega)
        refine Le.of ?_ ?_ ?_ ?_ ?_ <;> simp [leTV, locsIn, encDigs, encTraces, encWant, encTrace, encReads, encRead, encMades, encMade, encReads, encTrace, htk] <;> try omega
      · rw [if_neg hm3] at htk
        (simp (maxSteps := 2000000) (disch := first | omega | assumption) [zz, hlt', encTrace, encReads, encRead, hg, hm3])
        (repeat ((with_reducible refine And.intro ?_ ?_); (· first | omega | (show barB _ _ = true; kernel_rfl) | (show rdJ _ _ _ _ _ = true; kernel_rfl) | (show tailB _ _ _ = true; kernel_rfl) | (show sftB _ _ _ = true; kernel_rfl))))
        refine hN _ (k+1) ?_ (by omega) (by omega)
        refine Le.of ?_ ?_ ?_ ?_ ?_ <;> simp [leTV, locsIn, encDigs, encTraces, encWant, encTrace, encReads, encRead, encMades, encMade, encReads, encTrace, htk] <;> try omega
    · have hlt' : ¬ (k : Int) < t.reads.length := by omega
      have hkn : k = t.reads.length := by omega
      subst hkn
      (simp (maxSteps := 2000000) (disch := first | omega | assumption) [zz, hlt', encTrace, encReads])
      refine hE _ _ (by simp) ?_
      clear hN hE
      rw [List.take_length] at hs
      (simp (maxSteps := 2000000) (disch := first | omega | assumption) [zz])
      refine AT.loop' (α := Nat) (fun k => St.of [(1, .loc 1 []), (3, .av (.int .i64) (.i .i64 (sumR t.reads + sumM (t.outs.take k) : Nat))), (5, .av (.int .i64) (.i .i64 k))] [(1, (tyOf Tryz.prog 34, encTrace t))] (fun _ => 0) [])
        (fun k => k ≤ t.outs.length) (fun k => t.outs.length - k) 0 ?_ ?_ ?_
      · refine Le.of ?_ ?_ ?_ ?_ ?_ <;> simp [leTV, locsIn, encDigs, encTraces, encWant, encTrace, encReads, encRead, encMades, encMade, encReads, encTrace, encMades, sumM] <;> try omega
      · simp
      rintro k hk KL2 hN hE
      have hs2 := sumM_le (t.outs.take k)
      rw [List.length_take] at hs2
      refine vc_sound (cf := cf0) laid mixed _ _ _ (by kernel_rfl) ?_
      by_cases hlt : k < t.outs.length
      · have hlt' : (k : Int) < t.outs.length := by omega
        have hg := map_get encMade t.outs k hlt
        have hp := hmp t.outs[k] (List.getElem_mem _)
        have htk : ((sumR t.reads + sumM (t.outs.take (k+1)) : Nat) : Int) = (sumR t.reads + sumM (t.outs.take k) : Nat) + if (3000 : Int) < t.outs[k].path.length then 3000 else t.outs[k].path.length := by
          rw [List.take_succ_eq_append_getElem hlt]
          simp only [sumM, List.map_append, List.sum_append, List.map_cons, List.sum_cons, List.map_nil, List.sum_nil]
          split <;> omega
        by_cases hm3 : (3000 : Int) < t.outs[k].path.length
        · rw [if_pos hm3] at htk
          (simp (maxSteps := 2000000) (disch := first | omega | assumption) [zz, hlt', encTrace, encMades, encMade, hg, hm3])
          (repeat ((with_reducible refine And.intro ?_ ?_); (· first | omega | (show barB _ _ = true; kernel_rfl) | (show rdJ _ _ _ _ _ = true; kernel_rfl) | (show tailB _ _ _ = true; kernel_rfl) | (show sftB _ _ _ = true; kernel_rfl))))
          refine hN _ (k+1) ?_ (by omega) (by omega)
          refine Le.of ?_ ?_ ?_ ?_ ?_ <;> simp [leTV, locsIn, encDigs, encTraces, encWant, encTrace, encReads, encRead, encMades, encMade, encMades, encTrace, htk] <;> try omega
        · rw [if_neg hm3] at htk
          (simp (maxSteps := 2000000) (disch := first | omega | assumption) [zz, hlt', encTrace, encMades, encMade, hg, hm3])
          (repeat ((with_reducible refine And.intro ?_ ?_); (· first | omega | (show barB _ _ = true; kernel_rfl) | (show rdJ _ _ _ _ _ = true; kernel_rfl) | (show tailB _ _ _ = true; kernel_rfl) | (show sftB _ _ _ = true; kernel_rfl))))
          refine hN _ (k+1) ?_ (by omega) (by omega)
          refine Le.of ?_ ?_ ?_ ?_ ?_ <;> simp [leTV, locsIn, encDigs, encTraces, encWant, encTrace, encReads, encRead, encMades, encMade, encMades, encTrace, htk] <;> try omega
      · have hlt' : ¬ (k : Int) < t.outs.length := by omega
        have hkn : k = t.outs.length := by omega
        subst hkn
        (simp (maxSteps := 2000000) (disch := first | omega | assumption) [zz, hlt', encTrace, encMades])
        refine hE _ _ (by simp) ?_
        rw [List.take_length] at hs2
        by_cases h3 : 3000 < sumR t.reads + sumM t.outs
        · have h3' : (3000 : Int) < (sumR t.reads : Int) + sumM t.outs := by omega
          (simp (maxSteps := 2000000) (disch := first | omega | assumption) [zz, Tryz.f26, wideTV, h1, h2, h3, h3'])
        · have h3' : ¬ (3000 : Int) < (sumR t.reads : Int) + sumM t.outs := by omega
          (simp (maxSteps := 2000000) (disch := first | omega | assumption) [zz, Tryz.f26, wideTV, h1, h2, h3, h3'])
end Go.Proofs.YthdgnfnalimcnaaGreatDoor
end
