/- Rows of traces held against one another; the document's example. No condition beyond each theorem's own. -/
import Derived.Test.YthdgnfnalimcnaaGreatDoorD6
import Derived.Test.YthdgnfnalimcnaaGreatDoorP25ToPW
set_option linter.unusedSimpArgs false
set_option linter.unusedVariables false
set_option linter.unusedSectionVars false
section
set_option maxRecDepth 100000
/-! Rows of traces held against one another; the document's example. -/
namespace Go.Proofs.YthdgnfnalimcnaaGreatDoor
open Go Go.Ab
open Classical
variable [Sel]

@[simp] theorem fnok21 : fnOK Tryz.prog 21 = true := by kernel_rfl
@[simp] theorem isne21 : isNE Tryz.prog (.func 21) = false := isNE_func fnok21
@[simp] theorem fnok8 : fnOK Tryz.prog 8 = true := by kernel_rfl
@[simp] theorem isne8 : isNE Tryz.prog (.func 8) = false := isNE_func fnok8
theorem great_ok (t : Trace) (hl : t.reads.length ≤ 9223372036854775807) (hm : t.outs.length ≤ 9223372036854775807) (hlp : ∀ r ∈ t.reads, r.path.length ≤ 9223372036854775807) (hmp : ∀ r ∈ t.outs, r.path.length ≤ 9223372036854775807) :
    PC Tryz.prog 10 [.av (tyOf Tryz.prog 34) (encTrace t)] (.av (.int .i64) (.i .i64 (if wideTV t = true then 1 else 0))) := by
  refine PC.of <| ACalls.of_vc laid mixed Tryz.func10 rfl (by kernel_rfl) cf0 (by simp [Tryz.ntmps10]) fun imm0 w0 => ?_
  (simp (maxSteps := 2000000) (disch := first | omega | assumption) [zz, -List.reduceReplicate])
  refine callV_pc (wide_ok t hl hm hlp hmp) rfl rfl (by simp) (by simp [argLe, TV.er]) ?_
  cases hw : wideTV t
  · (simp (maxSteps := 2000000) (disch := first | omega | assumption) [zz, -List.reduceReplicate, hw, Tryz.f10])
  · (simp (maxSteps := 2000000) (disch := first | omega | assumption) [zz, -List.reduceReplicate, hw, Tryz.f10])
theorem map_getT (l : List Trace) (k : Nat) (h : k < l.length) : (l.map encTrace)[k]? = some (encTrace l[k]) := map_get encTrace l k h
set_option maxHeartbeats 4000000 in
theorem sameTr_ok (a b : List Trace) (ha : ∀ x ∈ a, TrOK x) (hb : ∀ x ∈ b, TrOK x) (hla : a.length ≤ 9223372036854775807) (hlb : b.length ≤ 9223372036854775807) :
    PC Tryz.prog 21 [.av (.slice 34) (encTraces a), .av (.slice 34) (encTraces b)] (.av .bool (.b (decide (a = b)))) := by
  refine PC.of <| ACalls.of_vc laid mixed Tryz.func21 rfl (by kernel_rfl) cf0 (by simp [Tryz.ntmps21]) fun imm0 w0 => ?_
  by_cases hab : a.length = b.length
  rotate_left
  · have h1 : ¬ (a.length : Int) = b.length := by omega
    have h2 : ¬ a = b := fun e => hab (by rw [e])
    (simp (maxSteps := 2000000) (disch := first | omega | assumption) [zz, -List.reduceReplicate, h1, encTraces, Tryz.f21, h2])
  have h1 : (a.length : Int) = b.length := by omega
  (simp (maxSteps := 2000000) (disch := first | omega | assumption) [zz, -List.reduceReplicate, h1, encTraces])
  refine AT.loop' (α := Nat) (fun k => St.of [(0, .av (.slice 34) (encTraces a)), (1, .av (.slice 34) (encTraces b)), (5, .av (.int .i64) (.i .i64 k))] [] (fun _ => 0) [])
    (fun k => k ≤ b.length ∧ ∀ i, i < k → ∀ (h1 : i < a.length) (h2 : i < b.length), a[i] = b[i]) (fun k => b.length - k) 0 ?_ ?_ ?_
  · refine Le.of ?_ ?_ ?_ ?_ ?_ <;> simp [leTV, locsIn, encTraces] <;> try omega
  · exact ⟨by omega, fun i h => by omega⟩
  rintro k ⟨hk, hall⟩ KL hN hE
  refine vc_sound (cf := cf0) laid mixed _ _ _ (by kernel_rfl) ?_
  by_cases hlt : k < b.length
  · have hlt' : (k : Int) < b.length := by omega
    have hga := map_getT a k (by omega)
    have hgb := map_getT b k hlt
    have hlta : (k : Int) < a.length := by omega
    have hs := rsame_ok a[k] b[k] (ha _ (List.getElem_mem _)) (hb _ (List.getElem_mem _))
    (simp (maxSteps := 2000000) (disch := first | omega | assumption) [zz, -List.reduceReplicate, hlt', hlta, hga, hgb, encTraces])
    (repeat ((with_reducible refine And.intro ?_ ?_); (· first | omega | (show barB _ _ = true; kernel_rfl) | (show rdJ _ _ _ _ _ = true; kernel_rfl) | (show tailB _ _ _ = true; kernel_rfl) | (show sftB _ _ _ = true; kernel_rfl))))
    refine callD_pc hs rfl rfl (by simp) (by simp [argLe, TV.er]) ?_
    by_cases hc : sameV a[k] b[k] = true
    · (simp (maxSteps := 2000000) (disch := first | omega | assumption) [zz, -List.reduceReplicate, hc])
      (repeat ((with_reducible refine And.intro ?_ ?_); (· first | omega | (show barB _ _ = true; kernel_rfl) | (show rdJ _ _ _ _ _ = true; kernel_rfl) | (show tailB _ _ _ = true; kernel_rfl) | (show sftB _ _ _ = true; kernel_rfl))))
      refine hN _ (k+1) ?_ ⟨by omega, fun i hi h1 h2 => ?_⟩ (by omega)
      · refine Le.of ?_ ?_ ?_ ?_ ?_ <;> simp [leTV, locsIn, encTraces] <;> try omega
      · rcases Nat.lt_or_ge i k with h | h
        · exact hall i h h1 h2
        · have : i = k := by omega
          subst this; exact sameV_iff.1 hc
    · have hne : ¬ a = b := fun e => hc (sameV_iff.2 (by subst e; rfl))
      (simp (maxSteps := 2000000) (disch := first | omega | assumption) [zz, -List.reduceReplicate, hc])
      (repeat ((with_reducible refine And.intro ?_ ?_); (· first | omega | (show barB _ _ = true; kernel_rfl) | (show rdJ _ _ _ _ _ = true; kernel_rfl) | (show tailB _ _ _ = true; kernel_rfl) | (show sftB _ _ _ = true; kernel_rfl))))
      refine hE _ _ (by simp) ?_
      (simp (maxSteps := 2000000) (disch := first | omega | assumption) [zz, -List.reduceReplicate, Tryz.f21, hne])
  · have hlt' : ¬ (k : Int) < b.length := by omega
    have hlta : ¬ (k : Int) < a.length := by omega
    (simp (maxSteps := 2000000) (disch := first | omega | assumption) [zz, -List.reduceReplicate, hlt', hlta, encTraces])
    refine hE _ _ (by simp) ?_
    have : a = b := eq_of_take hab fun i h1 h2 => hall i (by omega) h1 h2
    (simp (maxSteps := 2000000) (disch := first | omega | assumption) [zz, -List.reduceReplicate, Tryz.f21, this])
def tE : Trace := ⟨zero32, [], []⟩
def tB : Trace := ⟨zero32, [⟨[98], false, zero32⟩], []⟩
def tC : Trace := ⟨zero32, [⟨[99], false, zero32⟩], []⟩
theorem tB_may : mayV [98] = true := by decide
theorem tC_may : mayV [99] = true := by decide
theorem tE_check : checkV tE = 0 := by simp [checkV, tE, readsV, outsV]
theorem tB_check : checkV tB = 0 := by simp [checkV, tB, readsV, tB_may, outsV]
theorem tC_check : checkV tC = 0 := by simp [checkV, tC, readsV, tC_may, outsV]
theorem al1 : getD (addD 2 (addD 2 (addD 2 [] tE) tB) tC) zero32 = [tC, tB] := by
  simp only [addD, tE_check, tB_check, tC_check, if_true]
  simp [getD, putD, addL, kp, tE, tB, tC, sameV]
theorem al2 : getD (addD 2 (addD 2 (addD 2 (addD 2 [] tE) tB) tC) tB) zero32 = [tB, tC] := by
  simp only [addD, tE_check, tB_check, tC_check, if_true]
  simp [getD, putD, addL, kp, tE, tB, tC, sameV]
theorem tr_P {t : Trace} (h1 : t.reads.length ≤ 1) (h2 : t.outs.length ≤ 1) (h3 : ∀ r ∈ t.reads, r.path.length ≤ 1) (h4 : ∀ r ∈ t.outs, r.path.length ≤ 1) : TrP t :=
  ⟨⟨by omega, fun r hr => by have := h3 r hr; omega⟩, by omega, fun r hr => by have := h4 r hr; omega⟩
theorem tE_P : TrP tE := tr_P (by simp [tE]) (by simp [tE]) (by simp [tE]) (by simp [tE])
theorem tB_P : TrP tB := tr_P (by simp [tB]) (by simp [tB]) (by simp [tB]) (by simp [tB])
theorem tC_P : TrP tC := tr_P (by simp [tC]) (by simp [tC]) (by simp [tC]) (by simp [tC])
theorem tB_OK : TrOK tB := ⟨by simp [tB], by simp [tB]⟩
theorem tC_OK : TrOK tC := ⟨by simp [tC], by simp [tC]⟩
abbrev cfAl : Cfg := ⟨fun _ => false, fun n => n == 1000005 || n == 2000031 || n == 2000034 || n == 2000037⟩
set_option maxHeartbeats 8000000 in
theorem dalive_ok : PC Tryz.prog 8 [] (.av .bool (.b true)) := by
  refine PC.of <| ACalls.of_vc laid mixed Tryz.func8 rfl (by kernel_rfl) cfAl (by simp [Tryz.ntmps8]) fun imm0 w0 => ?_
  (simp (maxSteps := 2000000) (disch := first | omega | assumption) [zz, -List.reduceReplicate])
  refine callV_sub (R := fun r H' => ∃ B M, r = .tup [(.ptr, .ptr B DbT []), (.int .i64, .i .i64 0)] ∧ H' = DbH B M 2 []) [] [] (by simp) rfl (by simp [argOK]) (by simp) ?_ ?_
  · exact ACalls.args (dbnew_ok 2 (by omega) (by omega)) (by simp [argLe, coC, TV.er, AV.er])
  rintro r' H' ⟨B, M, rfl, rfl⟩ _
  refine ⟨_, HSub.refl _, ?_⟩
  (simp (maxSteps := 2000000) (disch := first | omega | assumption) [zz, -List.reduceReplicate])
  refine vcSoft.of [0, 1, 3, 4, 6, 7, 2, 5, 8, 9, 10, 11] [0, 1, 3, 4, 6, 7, 9, 10, 11] (by kernel_rfl) ?_
  (simp (maxSteps := 2000000) (disch := first | omega | assumption) [zz, -List.reduceReplicate, isLt])
  (repeat ((with_reducible refine And.intro ?_ ?_); (· first | omega | (show barB _ _ = true; kernel_rfl) | (show rdJ _ _ _ _ _ = true; kernel_rfl) | (show tailB _ _ _ = true; kernel_rfl) | (show sftB _ _ _ = true; kernel_rfl))))
  refine callV_add tE tE_P 2 (by omega) (by omega) B M [] (by simp) [] (List.Perm.refl _) (by simp [AV.er, AV.ers, encTrace, tE, encReads, encMades, encD_zero]) fun cs1 hc1 ha1 => ?_
  (simp (maxSteps := 2000000) (disch := first | omega | assumption) [zz, -List.reduceReplicate, tE_check])
  (repeat ((with_reducible refine And.intro ?_ ?_); (· first | omega | (show barB _ _ = true; kernel_rfl) | (show rdJ _ _ _ _ _ = true; kernel_rfl) | (show tailB _ _ _ = true; kernel_rfl) | (show sftB _ _ _ = true; kernel_rfl))))
  refine callV_add tB tB_P 2 (by omega) (by omega) B M cs1 hc1 [] (by simp) (by simp [AV.er, AV.ers, encTrace, tB, encReads, encRead, encMades, encD_zero]) fun cs2 hc2 ha2 => ?_
  (simp (maxSteps := 2000000) (disch := first | omega | assumption) [zz, -List.reduceReplicate, tB_check])
  (repeat ((with_reducible refine And.intro ?_ ?_); (· first | omega | (show barB _ _ = true; kernel_rfl) | (show rdJ _ _ _ _ _ = true; kernel_rfl) | (show tailB _ _ _ = true; kernel_rfl) | (show sftB _ _ _ = true; kernel_rfl))))
  refine callV_add tC tC_P 2 (by omega) (by omega) B M cs2 hc2 [] (by simp) (by simp [AV.er, AV.ers, encTrace, tC, encReads, encRead, encMades, encD_zero]) fun cs3 hc3 ha3 => ?_
  (simp (maxSteps := 2000000) (disch := first | omega | assumption) [zz, -List.reduceReplicate, tC_check, isLt])
  (repeat ((with_reducible refine And.intro ?_ ?_); (· first | omega | (show barB _ _ = true; kernel_rfl) | (show rdJ _ _ _ _ _ = true; kernel_rfl) | (show tailB _ _ _ = true; kernel_rfl) | (show sftB _ _ _ = true; kernel_rfl))))
  refine callV_of zero32 2 B M cs3 hc3 [] (by simp) (by simp [AV.er, AV.ers, encD_zero]) ?_
  (simp (maxSteps := 2000000) (disch := first | omega | assumption) [zz, -List.reduceReplicate])
  refine callV_add tB tB_P 2 (by omega) (by omega) B M cs3 hc3 [] (by simp) (by simp [AV.er, AV.ers, encTrace, tB, encReads, encRead, encMades, encD_zero]) fun cs4 hc4 ha4 => ?_
  (simp (maxSteps := 2000000) (disch := first | omega | assumption) [zz, -List.reduceReplicate, tB_check])
  refine callV_of zero32 2 B M cs4 hc4 [] (by simp) (by simp [AV.er, AV.ers, encD_zero]) ?_
  have g1 : getD (absD cs3) zero32 = [tC, tB] := by rw [ha3, ha2, ha1]; exact al1
  have g2 : getD (absD cs4) zero32 = [tB, tC] := by rw [ha4, ha3, ha2, ha1]; exact al2
  have hok : ∀ x ∈ [tC, tB], TrOK x := by
    intro x hx
    simp only [List.mem_cons, List.not_mem_nil, or_false] at hx
    rcases hx with rfl | rfl
    · exact tC_OK
    · exact tB_OK
  have hok' : ∀ x ∈ [tB, tC], TrOK x := fun x hx => hok x (by simp at hx ⊢; rcases hx with h | h <;> simp [h])
  (simp (maxSteps := 2000000) (disch := first | omega | assumption) [zz, -List.reduceReplicate])
  refine callV_pc (sameTr_ok [tC, tB] [tC, tB] hok hok (by simp) (by simp)) rfl rfl (by simp) (by simp [argLe, TV.er, AV.er, AV.ers, g1, encTraces, encTrace, tB, tC, encReads, encRead, encMades, encD_zero]) ?_
  (simp (maxSteps := 2000000) (disch := first | omega | assumption) [zz, -List.reduceReplicate])
  refine callV_pc (sameTr_ok [tB, tC] [tB, tC] hok' hok' (by simp) (by simp)) rfl rfl (by simp) (by simp [argLe, TV.er, AV.er, AV.ers, g2, encTraces, encTrace, tB, tC, encReads, encRead, encMades, encD_zero]) ?_
  (simp (maxSteps := 2000000) (disch := first | omega | assumption) [zz, -List.reduceReplicate, Tryz.f8])
end Go.Proofs.YthdgnfnalimcnaaGreatDoor
end
section
set_option maxRecDepth 100000
/-! What a key's row is, behind many: the latest ones, each once. -/
namespace Go.Proofs.YthdgnfnalimcnaaGreatDoor
open Go Go.Ab
open Classical
variable [Sel]

theorem kp_eq (x : Trace) (ts : List Trace) : kp x ts = ts.filter (fun y => decide (y ≠ x)) := by
  unfold kp
  congr 1
  funext y
  by_cases h : y = x
  · subst h
    have : sameV y y = true := sameV_iff.2 rfl
    simp [this]
  · have : sameV y x = false := by
      cases hs : sameV y x
      · rfl
      · exact absurd (sameV_iff.1 hs) h
    simp [this, h]
theorem getD_put (k k' : Dig) (v : List Trace) : ∀ L : DbL, getD (putD k v L) k' = if k' = k then v else getD L k'
  | [] => by
    by_cases h : k' = k
    · simp [putD, getD, h]
    · simp [putD, getD, h, Ne.symm h]
  | (q, u) :: r => by
    have ih := getD_put k k' v r
    by_cases hq : q = k
    · subst hq
      by_cases h : k' = q
      · simp [putD, getD, h]
      · have h' : ¬ q = k' := fun e => h e.symm
        simp [putD, getD, h, h']
    · simp only [putD, hq, if_false]
      by_cases h2 : q = k'
      · have h3 : ¬ k' = k := fun e => hq (h2.trans e)
        simp [getD, h2, h3]
      · simp only [getD, List.find?_cons, h2, decide_false] at ih ⊢
        exact ih
noncomputable def stepK (mo : Nat) (k : Dig) (row : List Trace) (x : Trace) : List Trace := if x.key = k ∧ checkV x = 0 then addL mo x row else row
theorem getD_add (mo : Nat) (L : DbL) (x : Trace) (k : Dig) : getD (addD mo L x) k = stepK mo k (getD L k) x := by
  unfold addD stepK
  by_cases hc : checkV x = 0
  · rw [if_pos hc, getD_put]
    by_cases h : k = x.key
    · subst h; simp [hc]
    · have h' : ¬ x.key = k := fun e => h e.symm
      simp [h, h']
  · simp [hc]
end Go.Proofs.YthdgnfnalimcnaaGreatDoor
end
