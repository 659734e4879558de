/- Paths: a sign, a part. No condition beyond each theorem's own. -/
import Derived.Test.YthdgnfnalimcnaaGreatDoorL0
set_option linter.unusedSimpArgs false
set_option linter.unusedVariables false
set_option linter.unusedSectionVars false
section
set_option maxRecDepth 100000
/-! Paths: a sign, a part. -/
namespace Go.Proofs.YthdgnfnalimcnaaGreatDoor
open Go Go.Ab
open Classical
variable [Sel]

@[simp] theorem fnok128 : fnOK Tryz.prog 128 = true := by kernel_rfl
@[simp] theorem isne128 : isNE Tryz.prog (.func 128) = false := isNE_func fnok128
@[simp] theorem fnok127 : fnOK Tryz.prog 127 = true := by kernel_rfl
@[simp] theorem isne127 : isNE Tryz.prog (.func 127) = false := isNE_func fnok127
@[simp] theorem fnok153 : fnOK Tryz.prog 153 = true := by kernel_rfl
@[simp] theorem isne153 : isNE Tryz.prog (.func 153) = false := isNE_func fnok153
@[simp] theorem fnok146 : fnOK Tryz.prog 146 = true := by kernel_rfl
@[simp] theorem isne146 : isNE Tryz.prog (.func 146) = false := isNE_func fnok146
@[simp] theorem fnok126 : fnOK Tryz.prog 126 = true := by kernel_rfl
@[simp] theorem isne126 : isNE Tryz.prog (.func 126) = false := isNE_func fnok126
@[simp] theorem fnok102 : fnOK Tryz.prog 102 = true := by kernel_rfl
@[simp] theorem isne102 : isNE Tryz.prog (.func 102) = false := isNE_func fnok102
def signN (n : Nat) : Bool := decide (97 ≤ n ∧ n ≤ 122 ∨ 65 ≤ n ∧ n ≤ 90 ∨ 48 ≤ n ∧ n ≤ 57 ∨ n = 95 ∨ n = 46 ∨ n = 45 ∨ n = 43)
theorem marks_index (n : Nat) (h : n < 128) : (0 ≤ Lib.indexByte [95, 46, 45, 43] (UInt8.ofNat n)) = (n = 95 ∨ n = 46 ∨ n = 45 ∨ n = 43) := by
  revert n
  decide +kernel
theorem u8_wrap {n : Nat} (h : n < 256) : IntKind.u8.wrap (n : Int) = ((UInt8.ofNat n).toNat : Int) := by
  simp [IntKind.wrap, IntKind.signed, IntKind.bits]
set_option maxHeartbeats 4000000 in
theorem sign_ok (n : Nat) (hn : n ≤ 1114111) : PC Tryz.prog 128 [.av (.int .i32) (.i .i32 n)] (.av .bool (.b (signN n))) := by
  refine PC.of <| ACalls.of_vc laid mixed Tryz.func128 rfl (by kernel_rfl) cf0 (by simp [Tryz.ntmps128]) fun imm0 w0 => ?_
  by_cases h1 : 97 ≤ n ∧ n ≤ 122
  · have h1' : (97 : Int) ≤ n := by omega
    have h2' : (n : Int) ≤ 122 := by omega
    (simp (maxSteps := 2000000) (disch := first | omega | assumption) [zz, h1', h2', Tryz.f128, signN, h1])
  by_cases h2 : 65 ≤ n ∧ n ≤ 90
  · have h1' : (65 : Int) ≤ n := by omega
    have h2' : (n : Int) ≤ 90 := by omega
    have h3' : ¬ (97 : Int) ≤ n := by omega
    (simp (maxSteps := 2000000) (disch := first | omega | assumption) [zz, h1', h2', h3', Tryz.f128, signN, h2])
  by_cases h3 : 48 ≤ n ∧ n ≤ 57
  · have h1' : (48 : Int) ≤ n := by omega
    have h2' : (n : Int) ≤ 57 := by omega
    have h3' : ¬ (97 : Int) ≤ n := by omega
    have h4' : ¬ (65 : Int) ≤ n := by omega
    (simp (maxSteps := 2000000) (disch := first | omega | assumption) [zz, h1', h2', h3', h4', Tryz.f128, signN, h3])
  have hsg : signN n = decide (n = 95 ∨ n = 46 ∨ n = 45 ∨ n = 43) := by unfold signN; congr 1; apply propext; omega
  rcases (by omega : 122 < n ∨ (90 < n ∧ n < 97) ∨ (57 < n ∧ n < 65) ∨ n < 48) with hc | hc | hc | hc
  · by_cases h4 : n < 128
    · have a0 : (97 : Int) ≤ n := by omega
      have b0 : ¬ (n : Int) ≤ 122 := by omega
      have a1 : (65 : Int) ≤ n := by omega
      have b1 : ¬ (n : Int) ≤ 90 := by omega
      have a2 : (48 : Int) ≤ n := by omega
      have b2 : ¬ (n : Int) ≤ 57 := by omega
      have h4' : (n : Int) < 128 := by omega
      have hu := u8_wrap (show n < 256 by omega)
      have hm := marks_index n h4
      (simp (maxSteps := 2000000) (disch := first | omega | assumption) [zz, a0, b0, a1, b1, a2, b2, h4', hu])
      refine callV_pc (indexByte_ok [95, 46, 45, 43] (UInt8.ofNat n)) rfl rfl (by simp) (by simp [argLe, coC, TV.er, AV.er]) ?_
      (simp (maxSteps := 2000000) (disch := first | omega | assumption) [zz, Tryz.f128, hsg, hm])
    · have a0 : (97 : Int) ≤ n := by omega
      have b0 : ¬ (n : Int) ≤ 122 := by omega
      have a1 : (65 : Int) ≤ n := by omega
      have b1 : ¬ (n : Int) ≤ 90 := by omega
      have a2 : (48 : Int) ≤ n := by omega
      have b2 : ¬ (n : Int) ≤ 57 := by omega
      have h4' : ¬ (n : Int) < 128 := by omega
      have h5 : ¬ (n = 95 ∨ n = 46 ∨ n = 45 ∨ n = 43) := by omega
      (simp (maxSteps := 2000000) (disch := first | omega | assumption) [zz, a0, b0, a1, b1, a2, b2, h4', hsg, h5, Tryz.f128])
  · by_cases h4 : n < 128
    · have a0 : ¬ (97 : Int) ≤ n := by omega
      have a1 : (65 : Int) ≤ n := by omega
      have b1 : ¬ (n : Int) ≤ 90 := by omega
      have a2 : (48 : Int) ≤ n := by omega
      have b2 : ¬ (n : Int) ≤ 57 := by omega
      have h4' : (n : Int) < 128 := by omega
      have hu := u8_wrap (show n < 256 by omega)
      have hm := marks_index n h4
      (simp (maxSteps := 2000000) (disch := first | omega | assumption) [zz, a0, a1, b1, a2, b2, h4', hu])
      refine callV_pc (indexByte_ok [95, 46, 45, 43] (UInt8.ofNat n)) rfl rfl (by simp) (by simp [argLe, coC, TV.er, AV.er]) ?_
      (simp (maxSteps := 2000000) (disch := first | omega | assumption) [zz, Tryz.f128, hsg, hm])
    · have a0 : ¬ (97 : Int) ≤ n := by omega
      have a1 : (65 : Int) ≤ n := by omega
      have b1 : ¬ (n : Int) ≤ 90 := by omega
      have a2 : (48 : Int) ≤ n := by omega
      have b2 : ¬ (n : Int) ≤ 57 := by omega
      have h4' : ¬ (n : Int) < 128 := by omega
      have h5 : ¬ (n = 95 ∨ n = 46 ∨ n = 45 ∨ n = 43) := by omega
      (simp (maxSteps := 2000000) (disch := first | omega | assumption) [zz, a0, a1, b1, a2, b2, h4', hsg, h5, Tryz.f128])
  · by_cases h4 : n < 128
    · have a0 : ¬ (97 : Int) ≤ n := by omega
      have a1 : ¬ (65 : Int) ≤ n := by omega
      have a2 : (48 : Int) ≤ n := by omega
      have b2 : ¬ (n : Int) ≤ 57 := by omega
      have h4' : (n : Int) < 128 := by omega
      have hu := u8_wrap (show n < 256 by omega)
      have hm := marks_index n h4
      (simp (maxSteps := 2000000) (disch := first | omega | assumption) [zz, a0, a1, a2, b2, h4', hu])
      refine callV_pc (indexByte_ok [95, 46, 45, 43] (UInt8.ofNat n)) rfl rfl (by simp) (by simp [argLe, coC, TV.er, AV.er]) ?_
      (simp (maxSteps := 2000000) (disch := first | omega | assumption) [zz, Tryz.f128, hsg, hm])
    · have a0 : ¬ (97 : Int) ≤ n := by omega
      have a1 : ¬ (65 : Int) ≤ n := by omega
      have a2 : (48 : Int) ≤ n := by omega
      have b2 : ¬ (n : Int) ≤ 57 := by omega
      have h4' : ¬ (n : Int) < 128 := by omega
      have h5 : ¬ (n = 95 ∨ n = 46 ∨ n = 45 ∨ n = 43) := by omega
      (simp (maxSteps := 2000000) (disch := first | omega | assumption) [zz, a0, a1, a2, b2, h4', hsg, h5, Tryz.f128])
  · by_cases h4 : n < 128
    · have a0 : ¬ (97 : Int) ≤ n := by omega
      have a1 : ¬ (65 : Int) ≤ n := by omega
      have a2 : ¬ (48 : Int) ≤ n := by omega
      have h4' : (n : Int) < 128 := by omega
      have hu := u8_wrap (show n < 256 by omega)
      have hm := marks_index n h4
      (simp (maxSteps := 2000000) (disch := first | omega | assumption) [zz, a0, a1, a2, h4', hu])
      refine callV_pc (indexByte_ok [95, 46, 45, 43] (UInt8.ofNat n)) rfl rfl (by simp) (by simp [argLe, coC, TV.er, AV.er]) ?_
      (simp (maxSteps := 2000000) (disch := first | omega | assumption) [zz, Tryz.f128, hsg, hm])
    · have a0 : ¬ (97 : Int) ≤ n := by omega
      have a1 : ¬ (65 : Int) ≤ n := by omega
      have a2 : ¬ (48 : Int) ≤ n := by omega
      have h4' : ¬ (n : Int) < 128 := by omega
      have h5 : ¬ (n = 95 ∨ n = 46 ∨ n = 45 ∨ n = 43) := by omega
      (simp (maxSteps := 2000000) (disch := first | omega | assumption) [zz, a0, a1, a2, h4', hsg, h5, Tryz.f128])
end Go.Proofs.YthdgnfnalimcnaaGreatDoor
end
section
set_option maxRecDepth 100000
/-! Runes of texts; a part. -/
namespace Go.Proofs.YthdgnfnalimcnaaGreatDoor
open Go Go.Ab
open Classical
variable [Sel]

theorem getB (l : List UInt8) (i : Nat) : ((ByteArray.mk l.toArray).get! i) = l.getD i 0 := by
  show (l.toArray)[i]! = l.getD i 0
  simp [List.getD_eq_getElem?_getD]
  rfl
theorem rune_ascii {l : List UInt8} {k : Nat} {b : UInt8} (h : l[k]? = some b) (hb : b.toNat < 128) : runeAt l k = (b.toNat, 1) := by
  have h0 : ((ByteArray.mk l.toArray).get! (k + 0)).toNat = b.toNat := by rw [getB]; simp [h]
  unfold runeAt Utf8.decode
  simp only [h0]
  rw [if_pos (by omega)]
theorem rune_big {l : List UInt8} {k : Nat} {b : UInt8} (h : l[k]? = some b) (hb : ¬ b.toNat < 128) : 128 ≤ (runeAt l k).1 ∧ (runeAt l k).1 ≤ 1114111 := by
  have h0 : ((ByteArray.mk l.toArray).get! (k + 0)).toNat = b.toNat := by rw [getB]; simp [h]
  have hlt := b.toNat_lt
  unfold runeAt Utf8.decode
  simp only [h0]
  rw [if_neg (by omega)]
  have he : Utf8.runeError = 65533 := rfl
  have hv : ∀ n : Int, Utf8.valid n = true → n ≤ 1114111 := by
    intro n hn
    unfold Utf8.valid at hn
    simp at hn
    omega
  have m1 := Nat.mod_lt ((ByteArray.mk l.toArray).get! (k + 1)).toNat (show 64 > 0 by decide)
  have m2 := Nat.mod_lt ((ByteArray.mk l.toArray).get! (k + 2)).toNat (show 64 > 0 by decide)
  have m3 := Nat.mod_lt ((ByteArray.mk l.toArray).get! (k + 3)).toNat (show 64 > 0 by decide)
  split
  · split
    · exact ⟨by simp only; omega, by simp only; omega⟩
    · rw [he]; exact ⟨by decide, by decide⟩
  · split
    · split
      · rename_i hc
        rw [Bool.and_eq_true] at hc
        have h1 := of_decide_eq_true hc.1
        exact ⟨by simp only; omega, by simp only; omega⟩
      · rw [he]; exact ⟨by decide, by decide⟩
    · split
      · split
        · rename_i hc
          rw [Bool.and_eq_true] at hc
          have h1 := of_decide_eq_true hc.1
          have h2 := hv _ hc.2
          exact ⟨by simp only; omega, by simp only; omega⟩
        · rw [he]; exact ⟨by decide, by decide⟩
      · rw [he]; exact ⟨by decide, by decide⟩
set_option maxHeartbeats 4000000 in
theorem notSign_ok (n : Nat) (hn : n ≤ 1114111) : PC Tryz.prog 127 [.av (.int .i32) (.i .i32 n)] (.av .bool (.b (!signN n))) := by
  refine PC.of <| ACalls.of_vc laid mixed Tryz.func127 rfl (by kernel_rfl) cf0 (by simp [Tryz.ntmps127]) fun imm0 w0 => ?_
  (simp (maxSteps := 2000000) (disch := first | omega | assumption) [zz])
  refine callV_pc (sign_ok n hn) rfl rfl (by simp) (by simp [argLe, TV.er, AV.er]) ?_
  (simp (maxSteps := 2000000) (disch := first | omega | assumption) [zz, Tryz.f127])
end Go.Proofs.YthdgnfnalimcnaaGreatDoor
end
section
set_option maxRecDepth 100000
/-! A part of a path: the program's. -/
namespace Go.Proofs.YthdgnfnalimcnaaGreatDoor
open Go Go.Ab
open Classical
variable [Sel]

def badAt (l : List UInt8) : Int := match l.findIdx? (fun b => !signN b.toNat) with | some i => i | none => -1
theorem badAt_hit {l : List UInt8} {k : Nat} {b : UInt8} (h0 : ∀ x ∈ l.take k, signN x.toNat = true) (h : l[k]? = some b) (hb : signN b.toNat = false) : badAt l = k := by
  have hlt : k < l.length := (List.getElem?_eq_some_iff.1 h).1
  have : l.findIdx? (fun b => !signN b.toNat) = some k := by
    rw [List.findIdx?_eq_some_iff_getElem]
    refine ⟨hlt, ?_, fun j hj => ?_⟩
    · rw [List.getElem?_eq_getElem hlt] at h
      rw [Option.some.inj h, hb]; rfl
    · have := h0 _ (List.mem_take_iff_getElem.2 ⟨j, by omega, rfl⟩)
      simp [this]
  simp [badAt, this]
theorem badAt_miss {l : List UInt8} (h0 : ∀ x ∈ l, signN x.toNat = true) : badAt l = -1 := by
  have : l.findIdx? (fun b => !signN b.toNat) = none := by
    rw [List.findIdx?_eq_none_iff]; intro x hx; simp [h0 x hx]
  simp [badAt, this]
theorem sign_small {n : Nat} (h : signN n = true) : n < 128 := by
  unfold signN at h; have := of_decide_eq_true h; omega
theorem big_not_sign {n : Nat} (h : 128 ≤ n) : signN n = false := by
  unfold signN; apply decide_eq_false; omega

set_option maxHeartbeats 4000000 in
theorem indexFunc_ok (l : List UInt8) (hl : l.length ≤ 9223372036854775807) :
    PC Tryz.prog 153 [.av .str (.s l), .av .func (.fn 127 []), .av .bool (.b true)] (.av (.int .i64) (.i .i64 (badAt l))) := by
  refine PC.of <| ACalls.of_vc laid mixed Tryz.func153 rfl (by kernel_rfl) cf0 (by simp [Tryz.ntmps153]) fun imm0 w0 => ?_
  (simp (maxSteps := 2000000) (disch := first | omega | assumption) [zz])
  intro B
  refine AT.loopV (α := Nat) (fun k ver => St.of [(1, .av .func (.fn 127 [])), (2, .av .bool (.b true)), (10, .av .ptr (.ptr B .other []))] [] ver [(B, .siter l k)])
    (fun k => k ≤ l.length ∧ ∀ x ∈ l.take k, signN x.toNat = true) (fun k => l.length - k) 0 ?_ ?_ ?_
  · refine Le.of ?_ ?_ ?_ ?_ ?_ <;> simp [leTV, locsIn, encDigs, encTraces, encWant, encTrace, encReads, encRead, encMades, encMade] <;> try omega
  · simp
  rintro k ver ⟨hk, hpk⟩ KL hN hE
  refine vc_sound (cf := cf0) laid mixed _ _ _ (by kernel_rfl) ?_
  by_cases hlt : k < l.length
  · obtain ⟨b, hb⟩ : ∃ b, l[k]? = some b := ⟨_, List.getElem?_eq_getElem hlt⟩
    by_cases hs : signN b.toNat = true
    · have hr := rune_ascii hb (sign_small hs)
      (simp (maxSteps := 2000000) (disch := first | omega | assumption) [zz, hlt, hr])
      refine callV_pc (notSign_ok b.toNat (by have := sign_small hs; omega)) rfl rfl (by simp) (by simp [argLe, TV.er, AV.er]) ?_
      (simp (maxSteps := 2000000) (disch := first | omega | assumption) [zz, hs])
      refine hN _ (k+1) ?_ ⟨by omega, ?_⟩ (by omega)
      · refine Le.of ?_ ?_ ?_ ?_ ?_ <;> simp [leTV, locsIn, encDigs, encTraces, encWant, encTrace, encReads, encRead, encMades, encMade] <;> try omega
      · intro x hx
        rw [List.take_add_one, hb] at hx
        simp at hx
        rcases hx with hx | rfl
        · exact hpk x hx
        · exact hs
    · have hs' : signN b.toNat = false := by simpa using hs
      have hbad := badAt_hit hpk hb hs'
      obtain ⟨r, w', hr⟩ : ∃ r w', runeAt l k = (r, w') := ⟨_, _, rfl⟩
      have hr2 : signN r = false ∧ r ≤ 1114111 := by
        by_cases h8 : b.toNat < 128
        · rw [rune_ascii hb h8] at hr; cases hr; exact ⟨hs', by omega⟩
        · have := rune_big hb h8; rw [hr] at this; exact ⟨big_not_sign this.1, this.2⟩
      (simp (maxSteps := 2000000) (disch := first | omega | assumption) [zz, hlt, hr])
      refine callV_pc (notSign_ok r hr2.2) rfl rfl (by simp) (by simp [argLe, TV.er, AV.er]) ?_
      (simp (maxSteps := 2000000) (disch := first | omega | assumption) [zz, hr2.1])
      refine hE _ _ (by simp) ?_
      (simp (maxSteps := 2000000) (disch := first | omega | assumption) [zz, Tryz.f153, hbad])
  · (simp (maxSteps := 2000000) (disch := first | omega | assumption) [zz, hlt])
    refine hE _ _ (by simp) ?_
    have hm := badAt_miss (fun x hx => hpk x (by rwa [List.take_of_length_le (by omega)]))
    (simp (maxSteps := 2000000) (disch := first | omega | assumption) [zz, Tryz.f153, hm])
end Go.Proofs.YthdgnfnalimcnaaGreatDoor
end
