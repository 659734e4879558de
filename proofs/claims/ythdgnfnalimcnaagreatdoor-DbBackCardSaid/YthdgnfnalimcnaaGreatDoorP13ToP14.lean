/- Does a trace hold? The program. No condition beyond each theorem's own. -/
import Derived.Test.YthdgnfnalimcnaaGreatDoorL0
set_option linter.unusedSimpArgs false
set_option linter.unusedVariables false
set_option linter.unusedSectionVars false
section
set_option maxRecDepth 100000
/-! Does a trace hold? The program. -/
namespace Go.Proofs.YthdgnfnalimcnaaGreatDoor
open Go Go.Ab
open Classical
variable [Sel]


def idxOf {α : Type} (p : α → Bool) (xs : List α) : Int := match xs.findIdx? p with | some i => i | none => -1
theorem idxOf_hit {α : Type} {p : α → Bool} {xs : List α} {k : Nat} (hlt : k < xs.length) (h0 : ∀ x ∈ xs.take k, p x = false) (h1 : p xs[k] = true) : idxOf p xs = k := by
  have : xs.findIdx? p = some k := by
    rw [List.findIdx?_eq_some_iff_getElem]
    refine ⟨hlt, h1, fun j hj => ?_⟩
    rw [h0 _ (List.mem_take_iff_getElem.2 ⟨j, by omega, rfl⟩)]; simp
  simp [idxOf, this]
theorem idxOf_miss {α : Type} {p : α → Bool} {xs : List α} (h0 : ∀ x ∈ xs, p x = false) : idxOf p xs = -1 := by
  have : xs.findIdx? p = none := by
    rw [List.findIdx?_eq_none_iff]; exact h0
  simp [idxOf, this]
end Go.Proofs.YthdgnfnalimcnaaGreatDoor
end
section
set_option maxRecDepth 100000
/-! Are two traces the same? Both programs. -/
namespace Go.Proofs.YthdgnfnalimcnaaGreatDoor
open Go Go.Ab
open Classical
variable [Sel]

@[simp] theorem fnok57 : fnOK Tryz.prog 57 = true := by kernel_rfl
@[simp] theorem isne57 : isNE Tryz.prog (.func 57) = false := isNE_func fnok57
@[simp] theorem fnok58 : fnOK Tryz.prog 58 = true := by kernel_rfl
@[simp] theorem isne58 : isNE Tryz.prog (.func 58) = false := isNE_func fnok58
@[simp] theorem fnok30 : fnOK Tryz.prog 30 = true := by kernel_rfl
@[simp] theorem isne30 : isNE Tryz.prog (.func 30) = false := isNE_func fnok30
@[simp] theorem fnok38 : fnOK Tryz.prog 38 = true := by kernel_rfl
@[simp] theorem isne38 : isNE Tryz.prog (.func 38) = false := isNE_func fnok38
theorem encMade_inj {a b : Made} : encMade a = encMade b ↔ a = b := by
  cases a; cases b; simp [encMade, encD_inj]
theorem map_get {α β : Type} (f : α → β) (l : List α) (k : Nat) (h : k < l.length) : (l.map f)[k]? = some (f l[k]) := by rw [List.getElem?_map, List.getElem?_eq_getElem h]; rfl
theorem eq_of_take {α : Type} {a b : List α} (hl : a.length = b.length) (h : ∀ i (h1 : i < a.length) (h2 : i < b.length), a[i] = b[i]) : a = b := List.ext_getElem hl fun i h1 h2 => h i h1 h2
set_option maxHeartbeats 4000000 in
theorem eqReads_ok (a b : List Read) (ha : a.length ≤ 9223372036854775807) (hb : b.length ≤ 9223372036854775807) :
    PC Tryz.prog 57 [.av (.slice 59) (encReads a), .av (.slice 59) (encReads b)] (.av .bool (.b (decide (a = b)))) := by
  refine PC.of <| ACalls.of_vc laid mixed Tryz.func57 rfl (by kernel_rfl) cf0 (by simp [Tryz.ntmps57]) fun imm0 w0 => ?_
  by_cases hab : a.length = b.length
  rotate_left
  · have h1 : ¬ (a.length : Int) = b.length := by omega
    have h2 : ¬ a = b := fun e => hab (by rw [e])
    (simp (maxSteps := 2000000) (disch := first | omega | assumption) [zz, h1, encReads, Tryz.f57, h2])
  have h1 : (a.length : Int) = b.length := by omega
  (simp (maxSteps := 2000000) (disch := first | omega | assumption) [zz, h1, encReads])
  refine AT.loop' (α := Nat) (fun k => St.of [(0, .av (.slice 59) (encReads a)), (1, .av (.slice 59) (encReads b)), (12, .av (.int .i64) (.i .i64 b.length)), (13, .av (.int .i64) (.i .i64 k))] [] (fun _ => 0) [])
    (fun k => k ≤ b.length ∧ ∀ i, i < k → ∀ (h1 : i < a.length) (h2 : i < b.length), a[i] = b[i]) (fun k => b.length - k) 0 ?_ ?_ ?_
  · refine Le.of ?_ ?_ ?_ ?_ ?_ <;> simp [leTV, locsIn, encDigs, encTraces, encWant, encTrace, encReads, encRead, encMades, encMade, encReads] <;> try omega
  · exact ⟨by omega, fun i h => by omega⟩
  rintro k ⟨hk, hall⟩ KL hN hE
  refine vc_sound (cf := cf0) laid mixed _ _ _ (by kernel_rfl) ?_
  by_cases hlt : k < b.length
  · have hlt' : (k : Int) < b.length := by omega
    have hga := map_get encRead a k (by omega)
    have hgb := map_get encRead b k hlt
    have hlta : (k : Int) < a.length := by omega
    by_cases hc : a[k] = b[k]
    · (simp (maxSteps := 2000000) (disch := first | omega | assumption) [zz, hlt', hlta, hga, hgb, encReads, encRead_inj, hc])
      (repeat ((with_reducible refine And.intro ?_ ?_); (· first | omega | (show barB _ _ = true; kernel_rfl) | (show rdJ _ _ _ _ _ = true; kernel_rfl) | (show tailB _ _ _ = true; kernel_rfl) | (show sftB _ _ _ = true; kernel_rfl))))
      refine hN _ (k+1) ?_ ⟨by omega, fun i hi h1 h2 => ?_⟩ (by omega)
      · refine Le.of ?_ ?_ ?_ ?_ ?_ <;> simp [leTV, locsIn, encDigs, encTraces, encWant, encTrace, encReads, encRead, encMades, encMade, encReads] <;> try omega
      · rcases Nat.lt_or_ge i k with h | h
        · exact hall i h h1 h2
        · have : i = k := by omega
          subst this; exact hc
    · have hne : ¬ a = b := fun e => hc (by subst e; rfl)
      (simp (maxSteps := 2000000) (disch := first | omega | assumption) [zz, hlt', hlta, hga, hgb, encReads, encRead_inj, hc])
      (repeat ((with_reducible refine And.intro ?_ ?_); (· first | omega | (show barB _ _ = true; kernel_rfl) | (show rdJ _ _ _ _ _ = true; kernel_rfl) | (show tailB _ _ _ = true; kernel_rfl) | (show sftB _ _ _ = true; kernel_rfl))))
      refine hE _ _ (by simp) ?_
      (simp (maxSteps := 2000000) (disch := first | omega | assumption) [zz, Tryz.f57, hne])
  · have hlt' : ¬ (k : Int) < b.length := by omega
    (simp (maxSteps := 2000000) (disch := first | omega | assumption) [zz, hlt', encReads])
    refine hE _ _ (by simp) ?_
    have : a = b := eq_of_take hab fun i h1 h2 => hall i (by omega) h1 h2
    (simp (maxSteps := 2000000) (disch := first | omega | assumption) [zz, Tryz.f57, this])
set_option maxHeartbeats 4000000 in
theorem eqMades_ok (a b : List Made) (ha : a.length ≤ 9223372036854775807) (hb : b.length ≤ 9223372036854775807) :
    PC Tryz.prog 58 [.av (.slice 73) (encMades a), .av (.slice 73) (encMades b)] (.av .bool (.b (decide (a = b)))) := by
  refine PC.of <| ACalls.of_vc laid mixed Tryz.func58 rfl (by kernel_rfl) cf0 (by simp [Tryz.ntmps58]) fun imm0 w0 => ?_
  by_cases hab : a.length = b.length
  rotate_left
  · have h1 : ¬ (a.length : Int) = b.length := by omega
    have h2 : ¬ a = b := fun e => hab (by rw [e])
    (simp (maxSteps := 2000000) (disch := first | omega | assumption) [zz, h1, encMades, Tryz.f58, h2])
  have h1 : (a.length : Int) = b.length := by omega
  (simp (maxSteps := 2000000) (disch := first | omega | assumption) [zz, h1, encMades])
  refine AT.loop' (α := Nat) (fun k => St.of [(0, .av (.slice 73) (encMades a)), (1, .av (.slice 73) (encMades b)), (12, .av (.int .i64) (.i .i64 b.length)), (13, .av (.int .i64) (.i .i64 k))] [] (fun _ => 0) [])
    (fun k => k ≤ b.length ∧ ∀ i, i < k → ∀ (h1 : i < a.length) (h2 : i < b.length), a[i] = b[i]) (fun k => b.length - k) 0 ?_ ?_ ?_
  · refine Le.of ?_ ?_ ?_ ?_ ?_ <;> simp [leTV, locsIn, encDigs, encTraces, encWant, encTrace, encReads, encRead, encMades, encMade, encMades] <;> try omega
  · exact ⟨by omega, fun i h => by omega⟩
  rintro k ⟨hk, hall⟩ KL hN hE
  refine vc_sound (cf := cf0) laid mixed _ _ _ (by kernel_rfl) ?_
  by_cases hlt : k < b.length
  · have hlt' : (k : Int) < b.length := by omega
    have hga := map_get encMade a k (by omega)
    have hgb := map_get encMade b k hlt
    have hlta : (k : Int) < a.length := by omega
    by_cases hc : a[k] = b[k]
    · (simp (maxSteps := 2000000) (disch := first | omega | assumption) [zz, hlt', hlta, hga, hgb, encMades, encMade_inj, hc])
      (repeat ((with_reducible refine And.intro ?_ ?_); (· first | omega | (show barB _ _ = true; kernel_rfl) | (show rdJ _ _ _ _ _ = true; kernel_rfl) | (show tailB _ _ _ = true; kernel_rfl) | (show sftB _ _ _ = true; kernel_rfl))))
      refine hN _ (k+1) ?_ ⟨by omega, fun i hi h1 h2 => ?_⟩ (by omega)
      · refine Le.of ?_ ?_ ?_ ?_ ?_ <;> simp [leTV, locsIn, encDigs, encTraces, encWant, encTrace, encReads, encRead, encMades, encMade, encMades] <;> try omega
      · rcases Nat.lt_or_ge i k with h | h
        · exact hall i h h1 h2
        · have : i = k := by omega
          subst this; exact hc
    · have hne : ¬ a = b := fun e => hc (by subst e; rfl)
      (simp (maxSteps := 2000000) (disch := first | omega | assumption) [zz, hlt', hlta, hga, hgb, encMades, encMade_inj, hc])
      (repeat ((with_reducible refine And.intro ?_ ?_); (· first | omega | (show barB _ _ = true; kernel_rfl) | (show rdJ _ _ _ _ _ = true; kernel_rfl) | (show tailB _ _ _ = true; kernel_rfl) | (show sftB _ _ _ = true; kernel_rfl))))
      refine hE _ _ (by simp) ?_
      (simp (maxSteps := 2000000) (disch := first | omega | assumption) [zz, Tryz.f58, hne])
  · have hlt' : ¬ (k : Int) < b.length := by omega
    (simp (maxSteps := 2000000) (disch := first | omega | assumption) [zz, hlt', encMades])
    refine hE _ _ (by simp) ?_
    have : a = b := eq_of_take hab fun i h1 h2 => hall i (by omega) h1 h2
    (simp (maxSteps := 2000000) (disch := first | omega | assumption) [zz, Tryz.f58, this])
def TrOK (t : Trace) : Prop := t.reads.length ≤ 9223372036854775807 ∧ t.outs.length ≤ 9223372036854775807
def sameV (a b : Trace) : Bool := decide (a.key = b.key ∧ a.reads = b.reads ∧ a.outs = b.outs)
theorem sameV_iff {a b : Trace} : sameV a b = true ↔ a = b := by cases a; cases b; simp [sameV]
set_option maxHeartbeats 4000000 in
theorem same_ok (a b : Trace) (ha : TrOK a) (hb : TrOK b) : PC Tryz.prog 30 [.av (tyOf Tryz.prog 34) (encTrace a), .av (tyOf Tryz.prog 34) (encTrace b)] (.av .bool (.b (sameV a b))) := by
  refine PC.of <| ACalls.of_vc laid mixed Tryz.func30 rfl (by kernel_rfl) cf0 (by simp [Tryz.ntmps30]) fun imm0 w0 => ?_
  by_cases h1 : a.key = b.key
  · (simp (maxSteps := 2000000) (disch := first | omega | assumption) [zz, encTrace, encD, encD_inj', h1])
    refine callV_pc (eqReads_ok a.reads b.reads ha.1 hb.1) rfl rfl (by simp) (by simp [argLe, TV.er]) ?_
    by_cases h2 : a.reads = b.reads
    · (simp (maxSteps := 2000000) (disch := first | omega | assumption) [zz, h2, encTrace])
      refine callV_pc (eqMades_ok a.outs b.outs ha.2 hb.2) rfl rfl (by simp) (by simp [argLe, TV.er]) ?_
      (simp (maxSteps := 2000000) (disch := first | omega | assumption) [zz, h2, Tryz.f30, sameV, h1])
    · (simp (maxSteps := 2000000) (disch := first | omega | assumption) [zz, h2, Tryz.f30, sameV, h1])
  · (simp (maxSteps := 2000000) (disch := first | omega | assumption) [zz, encTrace, encD, encD_inj', h1, Tryz.f30, sameV])
set_option maxHeartbeats 8000000 in
theorem rsame_ok (a b : Trace) (ha : TrOK a) (hb : TrOK b) : PC Tryz.prog 38 [.av (tyOf Tryz.prog 34) (encTrace a), .av (tyOf Tryz.prog 34) (encTrace b)] (.av .bool (.b (sameV a b))) := by
  obtain ⟨ha1, ha2⟩ := ha
  obtain ⟨hb1, hb2⟩ := hb
  refine PC.of <| ACalls.of_vc laid mixed Tryz.func38 rfl (by kernel_rfl) cf0 (by simp [Tryz.ntmps38]) fun imm0 w0 => ?_
  by_cases h1 : a.key = b.key
  rotate_left
  · (simp (maxSteps := 2000000) (disch := first | omega | assumption) [zz, encTrace, encD, encD_inj', h1, Tryz.f38, sameV])
  by_cases h2 : a.reads.length = b.reads.length
  rotate_left
  · have h2' : ¬ (a.reads.length : Int) = b.reads.length := by omega
    have h3 : ¬ a.reads = b.reads := fun e => h2 (by rw [e])
    (simp (maxSteps := 2000000) (disch := first | omega | assumption) [zz, encTrace, encReads, encD, encD_inj', h1, h2', Tryz.f38, sameV, h3])
  have h2' : (a.reads.length : Int) = b.reads.length := by omega
  by_cases h3 : a.outs.length = b.outs.length
  rotate_left
  · have h3' : ¬ (a.outs.length : Int) = b.outs.length := by omega
    have h4 : ¬ a.outs = b.outs := fun e => h3 (by rw [e])
    (simp (maxSteps := 2000000) (disch := first | omega | assumption) [zz, encTrace, encReads, encMades, encD, encD_inj', h1, h2', h3', Tryz.f38, sameV, h4])
  have h3' : (a.outs.length : Int) = b.outs.length := by omega
  (simp (maxSteps := 2000000) (disch := first | omega | assumption) [zz, encTrace, encReads, encMades, encD, encD_inj', h1, h2', h3'])
  refine AT.loop' (α := Nat) (fun k => St.of [(2, .loc 2 []), (3, .loc 3 []), (5, .av (.int .i64) (.i .i64 k))] [(2, (tyOf Tryz.prog 34, encTrace a)), (3, (tyOf Tryz.prog 34, encTrace b))] (fun _ => 0) [])
    (fun k => k ≤ b.reads.length ∧ ∀ i, i < k → ∀ (h1 : i < a.reads.length) (h2 : i < b.reads.length), a.reads[i] = b.reads[i]) (fun k => b.reads.length - k) 0 ?_ ?_ ?_
  · refine Le.of ?_ ?_ ?_ ?_ ?_ <;> simp [leTV, locsIn, encDigs, encTraces, encWant, encTrace, encReads, encRead, encMades, encMade, encTrace, encReads, encMades, encD, h1] <;> try omega
  · exact ⟨by omega, fun i h => by omega⟩
  rintro k ⟨hk, hall⟩ KL hN hE
  refine vc_sound (cf := cf0) laid mixed _ _ _ (by kernel_rfl) ?_
  by_cases hlt : k < b.reads.length
  · have hlt' : (k : Int) < b.reads.length := by omega
    have hga := map_get encRead a.reads k (by omega)
    have hgb := map_get encRead b.reads k hlt
    have hlta : (k : Int) < a.reads.length := by omega
    by_cases hc : a.reads[k] = b.reads[k]
    · (simp (maxSteps := 2000000) (disch := first | omega | assumption) [zz, hlt', hlta, hga, hgb, encTrace, encReads, encRead_inj, hc])
      (repeat ((with_reducible refine And.intro ?_ ?_); (· first | omega | (show barB _ _ = true; kernel_rfl) | (show rdJ _ _ _ _ _ = true; kernel_rfl) | (show tailB _ _ _ = true; kernel_rfl) | (show sftB _ _ _ = true; kernel_rfl))))
      refine hN _ (k+1) ?_ ⟨by omega, fun i hi h1 h2 => ?_⟩ (by omega)
      · refine Le.of ?_ ?_ ?_ ?_ ?_ <;> simp [leTV, locsIn, encDigs, encTraces, encWant, encTrace, encReads, encRead, encMades, encMade, encTrace, encReads] <;> try omega
      · rcases Nat.lt_or_ge i k with h | h
        · exact hall i h h1 h2
        · have : i = k := by omega
          subst this; exact hc
    · have hne : ¬ a.reads = b.reads := fun e => hc (by simp [e])
      (simp (maxSteps := 2000000) (disch := first | omega | assumption) [zz, hlt', hlta, hga, hgb, encTrace, encReads, encRead_inj, hc])
      (repeat ((with_reducible refine And.intro ?_ ?_); (· first | omega | (show barB _ _ = true; kernel_rfl) | (show rdJ _ _ _ _ _ = true; kernel_rfl) | (show tailB _ _ _ = true; kernel_rfl) | (show sftB _ _ _ = true; kernel_rfl))))
      refine hE _ _ (by simp) ?_
      (simp (maxSteps := 2000000) (disch := first | omega | assumption) [zz, Tryz.f38, sameV, hne])
  have hlt' : ¬ (k : Int) < a.reads.length := by omega
  have hr : a.reads = b.reads := eq_of_take h2 fun i h1 h2 => hall i (by omega) h1 h2
  (simp (maxSteps := 2000000) (disch := first | omega | assumption) [zz, hlt', encTrace, encReads])
  refine hE _ _ (by simp) ?_
  (simp (maxSteps := 2000000) (disch := first | omega | assumption) [zz, encTrace, encMades])
  refine AT.loop' (α := Nat) (fun k => St.of [(2, .loc 2 []), (3, .loc 3 []), (6, .av (.int .i64) (.i .i64 k))] [(2, (tyOf Tryz.prog 34, encTrace a)), (3, (tyOf Tryz.prog 34, encTrace b))] (fun _ => 0) [])
    (fun k => k ≤ b.outs.length ∧ ∀ i, i < k → ∀ (h1 : i < a.outs.length) (h2 : i < b.outs.length), a.outs[i] = b.outs[i]) (fun k => b.outs.length - k) 0 ?_ ?_ ?_
  · refine Le.of ?_ ?_ ?_ ?_ ?_ <;> simp [leTV, locsIn, encDigs, encTraces, encWant, encTrace, encReads, encRead, encMades, encMade, encTrace, encReads, encMades] <;> try omega
  · exact ⟨by omega, fun i h => by omega⟩
  rintro k2 ⟨hk2, hall2⟩ KL2 hN2 hE2
  refine vc_sound (cf := cf0) laid mixed _ _ _ (by kernel_rfl) ?_
  by_cases hlt2 : k2 < b.outs.length
  · have hlt2' : (k2 : Int) < b.outs.length := by omega
    have hga := map_get encMade a.outs k2 (by omega)
    have hgb := map_get encMade b.outs k2 hlt2
    have hlta : (k2 : Int) < a.outs.length := by omega
    by_cases hc : a.outs[k2] = b.outs[k2]
    · (simp (maxSteps := 2000000) (disch := first | omega | assumption) [zz, hlt2', hlta, hga, hgb, encTrace, encMades, encMade_inj, hc])
      (repeat ((with_reducible refine And.intro ?_ ?_); (· first | omega | (show barB _ _ = true; kernel_rfl) | (show rdJ _ _ _ _ _ = true; kernel_rfl) | (show tailB _ _ _ = true; kernel_rfl) | (show sftB _ _ _ = true; kernel_rfl))))
      refine hN2 _ (k2+1) ?_ ⟨by omega, fun i hi h1 h2 => ?_⟩ (by omega)
      · refine Le.of ?_ ?_ ?_ ?_ ?_ <;> simp [leTV, locsIn, encDigs, encTraces, encWant, encTrace, encReads, encRead, encMades, encMade, encTrace, encMades] <;> try omega
      · rcases Nat.lt_or_ge i k2 with h | h
        · exact hall2 i h h1 h2
        · have : i = k2 := by omega
          subst this; exact hc
    · have hne : ¬ a.outs = b.outs := fun e => hc (by simp [e])
      (simp (maxSteps := 2000000) (disch := first | omega | assumption) [zz, hlt2', hlta, hga, hgb, encTrace, encMades, encMade_inj, hc])
      (repeat ((with_reducible refine And.intro ?_ ?_); (· first | omega | (show barB _ _ = true; kernel_rfl) | (show rdJ _ _ _ _ _ = true; kernel_rfl) | (show tailB _ _ _ = true; kernel_rfl) | (show sftB _ _ _ = true; kernel_rfl))))
      refine hE2 _ _ (by simp) ?_
      (simp (maxSteps := 2000000) (disch := first | omega | assumption) [zz, Tryz.f38, sameV, hne])
  · have hlt2' : ¬ (k2 : Int) < a.outs.length := by omega
    have ho : a.outs = b.outs := eq_of_take h3 fun i h1 h2 => hall2 i (by omega) h1 h2
    (simp (maxSteps := 2000000) (disch := first | omega | assumption) [zz, hlt2', encTrace, encMades])
    refine hE2 _ _ (by simp) ?_
    (simp (maxSteps := 2000000) (disch := first | omega | assumption) [zz, Tryz.f38, sameV, hr, ho, h1])
end Go.Proofs.YthdgnfnalimcnaaGreatDoor
end
