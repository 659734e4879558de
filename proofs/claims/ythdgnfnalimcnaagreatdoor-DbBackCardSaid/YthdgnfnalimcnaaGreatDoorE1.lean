/- Digests in order. No condition beyond each theorem's own. -/
import Derived.Test.YthdgnfnalimcnaaGreatDoorD1To
import Derived.Lib.Bytealg
set_option linter.unusedSimpArgs false
set_option linter.unusedVariables false
set_option linter.unusedSectionVars false
set_option maxRecDepth 100000
/-! Digests in order. -/
namespace Go.Proofs.YthdgnfnalimcnaaGreatDoor
open Go Go.Ab
open Classical
variable [Sel]

@[simp] theorem fnok45 : fnOK Tryz.prog 45 = true := by kernel_rfl
@[simp] theorem isne45 : isNE Tryz.prog (.func 45) = false := isNE_func fnok45
@[simp] theorem fnok46 : fnOK Tryz.prog 46 = true := by kernel_rfl
@[simp] theorem isne46 : isNE Tryz.prog (.func 46) = false := isNE_func fnok46
@[simp] theorem isneCmp : isNE Tryz.prog (.func 78) = true := by kernel_rfl
@[simp] theorem iscmpCmp : isCmp Tryz.prog (.func 78) = true := by kernel_rfl
theorem cmpOKt : cmpOK Tryz.prog (.func 78) := ⟨_, Tryz.func78, by kernel_rfl, by kernel_rfl, by kernel_rfl, by kernel_rfl⟩
theorem u8_tri (a b : UInt8) : a < b ∨ a = b ∨ b < a := by
  rcases Nat.lt_trichotomy a.toNat b.toNat with h | h | h
  · exact .inl (UInt8.lt_iff_toNat_lt.2 h)
  · exact .inr (.inl (UInt8.toNat_inj.1 h))
  · exact .inr (.inr (UInt8.lt_iff_toNat_lt.2 h))
theorem u8_asymm {a b : UInt8} (h : a < b) : ¬ b < a := by
  rw [UInt8.lt_iff_toNat_lt] at h ⊢; omega
theorem u8_trans {a b c : UInt8} (h : a < b) (h' : b < c) : a < c := by
  rw [UInt8.lt_iff_toNat_lt] at h h' ⊢; omega
theorem cb_swap : ∀ a b : List UInt8, Lib.compareBytes b a = - Lib.compareBytes a b
  | [], [] => rfl
  | [], _ :: _ => rfl
  | _ :: _, [] => rfl
  | a :: ar, b :: br => by
    have ih := cb_swap ar br
    unfold Lib.compareBytes
    rcases u8_tri a b with h | h | h
    · simp [h, u8_asymm h]
    · subst h; simp [UInt8.lt_irrefl, ih]
    · simp [h, u8_asymm h]
theorem cb_zero : ∀ {a b : List UInt8}, Lib.compareBytes a b = 0 ↔ a = b
  | [], [] => by simp [Lib.compareBytes]
  | [], _ :: _ => by simp [Lib.compareBytes]
  | _ :: _, [] => by simp [Lib.compareBytes]
  | a :: ar, b :: br => by
    have ih := cb_zero (a := ar) (b := br)
    unfold Lib.compareBytes
    rcases u8_tri a b with h | h | h
    · have : ¬ a = b := fun e => by subst e; exact UInt8.lt_irrefl a h
      simp [h, this]
    · subst h; simp [UInt8.lt_irrefl, ih]
    · have : ¬ a = b := fun e => by subst e; exact UInt8.lt_irrefl a h
      simp [h, u8_asymm h, this]
def ltL (a b : List UInt8) : Bool := decide (Lib.compareBytes a b < 0)
theorem ltL_irrefl (a : List UInt8) : ltL a a = false := by
  have := cb_zero.2 (rfl : a = a); simp [ltL, this]
theorem ltL_trans : ∀ {a b c : List UInt8}, ltL a b = true → ltL b c = true → ltL a c = true
  | [], _, [], h1, h2 => by
    rename_i b
    cases b with
    | nil => exact h1
    | cons x r => simp [ltL, Lib.compareBytes] at h2
  | [], _, _ :: _, _, _ => by simp [ltL, Lib.compareBytes]
  | _ :: _, [], _, h1, _ => by simp [ltL, Lib.compareBytes] at h1
  | _ :: _, _ :: _, [], _, h2 => by simp [ltL, Lib.compareBytes] at h2
  | a :: ar, b :: br, c :: cr, h1, h2 => by
    have ih := fun h h' => ltL_trans (a := ar) (b := br) (c := cr) h h'
    simp only [ltL, decide_eq_true_eq] at h1 h2 ih ⊢
    unfold Lib.compareBytes at h1 h2 ⊢
    rcases u8_tri a b with h | h | h
    · rcases u8_tri b c with k | k | k
      · simp [u8_trans h k]
      · subst k; simp [h]
      · rw [if_neg (u8_asymm k), if_pos k] at h2; omega
    · subst h
      rw [if_neg (UInt8.lt_irrefl a), if_neg (UInt8.lt_irrefl a)] at h1
      rcases u8_tri a c with k | k | k
      · simp [k]
      · subst k
        rw [if_neg (UInt8.lt_irrefl a), if_neg (UInt8.lt_irrefl a)] at h2 ⊢
        exact ih h1 h2
      · rw [if_neg (u8_asymm k), if_pos k] at h2; omega
    · rw [if_neg (u8_asymm h), if_pos h] at h1; omega
theorem ltL_asymm {a b : List UInt8} (h : ltL a b = true) : ltL b a = false := by
  have := cb_swap a b
  simp only [ltL, decide_eq_true_eq, decide_eq_false_iff_not] at h ⊢; omega
theorem ltL_tri (a b : List UInt8) : ltL a b = true ∨ a = b ∨ ltL b a = true := by
  have h1 := cb_swap a b
  have h2 := cb_zero (a := a) (b := b)
  simp only [ltL, decide_eq_true_eq]
  rcases Int.lt_trichotomy (Lib.compareBytes a b) 0 with h | h | h
  · exact .inl h
  · exact .inr (.inl (h2.1 h))
  · exact .inr (.inr (by omega))
theorem ltL_ntrans {a b c : List UInt8} (h1 : ltL a b = false) (h2 : ltL b c = false) : ltL a c = false := by
  rcases ltL_tri b a with h | h | h
  · rcases ltL_tri c b with k | k | k
    · exact ltL_asymm (ltL_trans k h)
    · subst k; exact ltL_asymm h
    · rw [k] at h2; cases h2
  · subst h; exact h2
  · rw [h] at h1; cases h1
def encB (a : List UInt8) : List AV := a.map fun b => .i .u8 b.toNat
theorem bytesOf_encB : ∀ a, bytesOf (encB a) = some a
  | [] => rfl
  | b :: r => by
    have ih := bytesOf_encB r
    simp only [encB, List.map_cons, bytesOf] at ih ⊢
    rw [ih]; simp
@[simp] theorem encB_length (a : List UInt8) : (encB a).length = a.length := by simp [encB]
@[simp] theorem erks_encB (a : List UInt8) : AV.erks (encB a) = encB a := by simp [encB, AV.erks_eq, AV.erk, Function.comp_def]
theorem encD_encB (a : Dig) : encD a = .agg (encB a) := rfl
noncomputable def dgO (a : Dig) : HObj := .var (.arr 32 5) (.agg (encB a))
theorem bcmp_ok (a b : Dig) (ha : a.length = 32) (hb : b.length = 32) (b1 b2 : Nat) (hne : b1 ≠ b2) :
    ACalls Tryz.prog 46 [.av (.slice 5) (.msl b1 5 0 32 32), .av (.slice 5) (.msl b2 5 0 32 32)] [(b1, dgO a), (b2, dgO b)]
      fun r H' => r = .av (.int .i64) (.i .i64 (Lib.compareBytes a b)) ∧ H' = [(b1, dgO a), (b2, dgO b)] := by
  have hne' : ¬ b2 = b1 := fun e => hne e.symm
  have ta : (encB a).take 32 = encB a := List.take_of_length_le (by simp [ha])
  have tb : (encB b).take 32 = encB b := List.take_of_length_le (by simp [hb])
  have hc : Extern.BytealgCompare.cmp ⟨a.toArray⟩ ⟨b.toArray⟩ = Lib.compareBytes a b := by rw [Lib.cmp_eq]
  refine ACalls.of_vc laid mixed Tryz.func46 rfl (by kernel_rfl) cf0 (by simp [Tryz.ntmps46]) fun imm0 w0 => ?_
  (simp (maxSteps := 2000000) (disch := first | omega | assumption) [zz, -List.reduceReplicate, dgO, extV, cmpOKt, hne, hne', ta, tb, bytesOf_encB, hc, Tryz.f46])
abbrev cfKc : Cfg := ⟨fun n => n == 2 || n == 3, fun n => n == 1000001 || n == 2000007⟩
theorem keyCmp_ok (a b : Dig) (ha : a.length = 32) (hb : b.length = 32) :
    PC Tryz.prog 45 [.av (.arr 32 5) (encD a), .av (.arr 32 5) (encD b)] (.av (.int .i64) (.i .i64 (Lib.compareBytes a b))) := by
  refine PC.of <| ACalls.of_vc laid mixed Tryz.func45 rfl (by kernel_rfl) cfKc (by simp [Tryz.ntmps45]) fun imm0 w0 => ?_
  (simp (maxSteps := 2000000) (disch := first | omega | assumption) [zz, -List.reduceReplicate])
  intro b2 b3 h23
  have h23' : ¬ b2 = b3 := fun e => h23 e.symm
  refine vcSoft.of [0, 1, 2, 3] [] (by kernel_rfl) ?_
  (simp (maxSteps := 2000000) (disch := first | omega | assumption) [zz, -List.reduceReplicate, h23, h23'])
  (repeat ((with_reducible refine And.intro ?_ ?_); (· first | omega | (show barB _ _ = true; kernel_rfl) | (show rdJ _ _ _ _ _ = true; kernel_rfl) | (show tailB _ _ _ = true; kernel_rfl) | (show sftB _ _ _ = true; kernel_rfl))))
  refine callV_sub (R := fun r H' => r = .av (.int .i64) (.i .i64 (Lib.compareBytes a b)) ∧ H' = [(b2, dgO a), (b3, dgO b)]) [(b2, dgO a), (b3, dgO b)] [] (List.Perm.swap _ _ _) rfl (by simp [argOK]) (by simp) ?_ ?_
  · have := bcmp_ok a b ha hb b2 b3 h23'
    simpa [TV.er, AV.er, dgO, HObj.er_var, Heap.er_cons, Heap.er_nil, AV.erk] using this
  rintro r' H' ⟨rfl, rfl⟩ _
  refine ⟨_, HSub.refl _, ?_⟩
  (simp (maxSteps := 2000000) (disch := first | omega | assumption) [zz, -List.reduceReplicate, Tryz.f45])
end Go.Proofs.YthdgnfnalimcnaaGreatDoor
