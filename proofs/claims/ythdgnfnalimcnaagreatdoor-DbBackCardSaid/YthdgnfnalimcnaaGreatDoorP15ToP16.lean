/- May a trace be? The program's check. No condition beyond each theorem's own. -/
import Derived.Test.YthdgnfnalimcnaaGreatDoorP11ToP12
import Derived.Test.YthdgnfnalimcnaaGreatDoorP13ToP14
set_option linter.unusedSimpArgs false
set_option linter.unusedVariables false
set_option linter.unusedSectionVars false
section
set_option maxRecDepth 100000
/-! May a trace be? The program's check. -/
namespace Go.Proofs.YthdgnfnalimcnaaGreatDoor
open Go Go.Ab
open Classical
variable [Sel]

@[simp] theorem fnok54 : fnOK Tryz.prog 54 = true := by kernel_rfl
@[simp] theorem isne54 : isNE Tryz.prog (.func 54) = false := isNE_func fnok54
@[simp] theorem fnok55 : fnOK Tryz.prog 55 = true := by kernel_rfl
@[simp] theorem isne55 : isNE Tryz.prog (.func 55) = false := isNE_func fnok55
@[simp] theorem fnok27 : fnOK Tryz.prog 27 = true := by kernel_rfl
@[simp] theorem isne27 : isNE Tryz.prog (.func 27) = false := isNE_func fnok27
@[simp] theorem fnok18 : fnOK Tryz.prog 18 = true := by kernel_rfl
@[simp] theorem isne18 : isNE Tryz.prog (.func 18) = false := isNE_func fnok18
def zero32 : List UInt8 := List.replicate 32 0
theorem encD_zero : encD zero32 = .agg (List.replicate 32 (.i .u8 0)) := by simp [encD, zero32]
def outT : List UInt8 := [111, 117, 116]
noncomputable def readsV : List (List UInt8) → List Read → Int
  | _, [] => 0
  | met, r :: rs => if mayV r.path = false then 1 else if r.path ∈ met then 8 else if r.is = false ∧ r.sum ≠ zero32 then 5 else readsV (met ++ [r.path]) rs
noncomputable def outsV : Option (List UInt8) → List Made → Int
  | _, [] => 0
  | none, m :: ms => if underV m.path outT = false then 1 else outsV (some m.path) ms
  | some q, m :: ms => if underV m.path outT = false then 1 else if m.path = q then 8 else if Op.bytesLess m.path q = true then 2 else outsV (some m.path) ms
noncomputable def checkV (t : Trace) : Int := if 500 < t.reads.length ∨ 1000 < t.outs.length then 6 else if readsV [] t.reads ≠ 0 then readsV [] t.reads else outsV none t.outs
def metM (l : List (List UInt8)) : List (AV × AV) := l.map fun p => (.s p, .b true)
theorem mfind_met (p : List UInt8) : ∀ l, mfind (.s p) (metM l) = if p ∈ l then some (.b true) else none
  | [] => rfl
  | q :: l => by
    have := mfind_met p l
    simp only [metM, List.map_cons, mfind] at this ⊢
    by_cases h : q = p
    · simp [h]
    · have h' : ¬ p = q := fun e => h e.symm
      simp only [AV.s.injEq, h, if_false, this, List.mem_cons, h', false_or]
theorem mput_met {p : List UInt8} : ∀ {l}, p ∉ l → mput (.s p) (.b true) (metM l) = metM (l ++ [p])
  | [], _ => rfl
  | q :: l, h => by
    simp only [List.mem_cons, not_or] at h
    have := mput_met (l := l) h.2
    have h' : ¬ q = p := fun e => h.1 e.symm
    simp only [metM, List.map_cons, mput, AV.s.injEq, h', if_false] at this ⊢
    rw [this]; rfl
@[simp] theorem metM_er (l : List (List UInt8)) : (metM l).map (fun p => (p.1.er, p.2.er)) = metM l := by simp [metM, AV.er, Function.comp_def]
def RdOK (l : List Read) : Prop := l.length ≤ 9223372036854775807 ∧ ∀ r ∈ l, r.path.length ≤ 9223372036854775807
def MdOK (l : List Made) : Prop := l.length ≤ 9223372036854775807 ∧ ∀ r ∈ l, r.path.length ≤ 9223372036854775807
set_option maxHeartbeats 8000000 in
theorem reads_ok (l : List Read) (hl : RdOK l) : PC Tryz.prog 54 [.av (.slice 59) (encReads l)] (.av (.int .i64) (.i .i64 (readsV [] l))) := by
  obtain ⟨hl1, hl2⟩ := hl
  unfold PC
  refine ACalls.sub (R := fun r H' => r = .av (.int .i64) (.i .i64 (readsV [] l))) ?_ (fun r H' hr _ => ⟨[], HSub.of_sub (List.nil_sublist _), hr, rfl⟩)
  refine ACalls.of_vc laid mixed Tryz.func54 rfl (by kernel_rfl) cf0 (by simp [Tryz.ntmps54]) fun imm0 w0 => ?_
  (simp (maxSteps := 2000000) (disch := first | omega | assumption) [zz, encReads])
  intro b
  refine AT.loop' (α := Nat) (fun k => St.of [(3, .av (.map 9 4) (.map (some b))), (7, .av (.slice 59) (encReads l)), (8, .av (.int .i64) (.i .i64 l.length)), (9, .av (.int .i64) (.i .i64 k))] [] (fun _ => 0) [(b, .map 9 4 (metM ((l.take k).map (·.path))))])
    (fun k => k ≤ l.length ∧ readsV [] l = readsV ((l.take k).map (·.path)) (l.drop k)) (fun k => l.length - k) 0 ?_ ?_ ?_
  · refine Le.of ?_ ?_ ?_ ?_ ?_ <;> simp [leTV, locsIn, encDigs, encTraces, encWant, encTrace, encReads, encRead, encMades, encMade, encReads, metM] <;> try omega
  · simp
  rintro k ⟨hk, hpk⟩ KL hN hE
  refine vc_sound (cf := cf0) laid mixed _ _ _ (by kernel_rfl) ?_
  by_cases hlt : k < l.length
  · have hlt' : (k : Int) < l.length := by omega
    have hdr : l.drop k = l[k] :: l.drop (k+1) := (List.getElem_cons_drop hlt).symm
    have htk : (l.take (k+1)).map (·.path) = (l.take k).map (·.path) ++ [l[k].path] := by
      rw [List.take_succ_eq_append_getElem hlt]
      simp only [List.map_append, List.map_cons, List.map_nil]
    have hg := map_get encRead l k hlt
    have hpl := hl2 l[k] (List.getElem_mem _)
    obtain ⟨r, hr⟩ : ∃ r, r = l[k] := ⟨_, rfl⟩
    rw [← hr] at hdr htk hg hpl
    generalize hmet : (l.take k).map (·.path) = met at *
    have hfd := mfind_met r.path met
    rw [hdr, readsV] at hpk
    (simp (maxSteps := 2000000) (disch := first | omega | assumption) [zz, hlt', hg, encReads, encRead])
    refine callV_pc (may_ok r.path (by omega)) rfl rfl (by simp) (by simp [argLe, TV.er, AV.er]) ?_
    cases hm : mayV r.path
    · rw [if_pos hm] at hpk
      (simp (maxSteps := 2000000) (disch := first | omega | assumption) [zz])
      refine hE _ _ (by simp) ?_
      (simp (maxSteps := 2000000) (disch := first | omega | assumption) [zz, Tryz.f54, hpk])
    rw [if_neg (by simp [hm])] at hpk
    by_cases hin : r.path ∈ met
    · rw [if_pos hin] at hpk hfd
      (simp (maxSteps := 2000000) (disch := first | omega | assumption) [zz, hfd])
      refine hE _ _ (by simp) ?_
      (simp (maxSteps := 2000000) (disch := first | omega | assumption) [zz, Tryz.f54, hpk])
    rw [if_neg hin] at hpk hfd
    have hmp := mput_met hin
    cases his : r.is
    · by_cases hz : r.sum = zero32
      · rw [if_neg (by simp [hz])] at hpk
        (simp (maxSteps := 2000000) (disch := first | omega | assumption) [zz, hfd, his, hz, encD_zero, hmp, -List.reduceReplicate])
        refine hN _ (k+1) ?_ ⟨by omega, by rw [htk]; exact hpk⟩ (by omega)
        refine Le.of ?_ ?_ ?_ ?_ ?_ <;> simp [leTV, locsIn, encDigs, encTraces, encWant, encTrace, encReads, encRead, encMades, encMade, encReads, htk] <;> try omega
      · rw [if_pos ⟨his, hz⟩] at hpk
        have hz' : ¬ r.sum.map (fun b => AV.i .u8 b.toNat) = List.replicate 32 (.i .u8 0) := by
          intro h
          have := encD_zero
          simp only [encD, AV.agg.injEq] at this
          exact hz (encD_inj'.1 (h.trans this.symm))
        (simp (maxSteps := 2000000) (disch := first | omega | assumption) [zz, hfd, his, encD, hz', -List.reduceReplicate])
        refine hE _ _ (by simp) ?_
        (simp (maxSteps := 2000000) (disch := first | omega | assumption) [zz, Tryz.f54, hpk])
    · rw [if_neg (by simp [his])] at hpk
      (simp (maxSteps := 2000000) (disch := first | omega | assumption) [zz, hfd, his, hmp])
      refine hN _ (k+1) ?_ ⟨by omega, by rw [htk]; exact hpk⟩ (by omega)
      refine Le.of ?_ ?_ ?_ ?_ ?_ <;> simp [leTV, locsIn, encDigs, encTraces, encWant, encTrace, encReads, encRead, encMades, encMade, encReads, htk] <;> try omega
  · have hlt' : ¬ (k : Int) < l.length := by omega
    (simp (maxSteps := 2000000) (disch := first | omega | assumption) [zz, hlt'])
    refine hE _ _ (by simp) ?_
    rw [List.drop_of_length_le (by omega), readsV] at hpk
    (simp (maxSteps := 2000000) (disch := first | omega | assumption) [zz, Tryz.f54, hpk])
end Go.Proofs.YthdgnfnalimcnaaGreatDoor
end
section
set_option maxRecDepth 100000
/-! May a trace be? The program's check of outs. -/
namespace Go.Proofs.YthdgnfnalimcnaaGreatDoor
open Go Go.Ab
open Classical
variable [Sel]

def prevO (l : List Made) (k : Nat) : Option (List UInt8) := if k = 0 then none else (l[k-1]?).map (·.path)
set_option maxHeartbeats 8000000 in
theorem outs_ok (l : List Made) (hl : MdOK l) : PC Tryz.prog 55 [.av (.slice 73) (encMades l)] (.av (.int .i64) (.i .i64 (outsV none l))) := by
  obtain ⟨hl1, hl2⟩ := hl
  refine PC.of <| ACalls.of_vc laid mixed Tryz.func55 rfl (by kernel_rfl) cf0 (by simp [Tryz.ntmps55]) fun imm0 w0 => ?_
  (simp (maxSteps := 2000000) (disch := first | omega | assumption) [zz, encMades])
  refine AT.loop' (α := Nat) (fun k => St.of [(0, .av (.slice 73) (encMades l)), (5, .av (.slice 73) (encMades l)), (6, .av (.int .i64) (.i .i64 l.length)), (7, .av (.int .i64) (.i .i64 k))] [] (fun _ => 0) [])
    (fun k => k ≤ l.length ∧ outsV none l = outsV (prevO l k) (l.drop k)) (fun k => l.length - k) 0 ?_ ?_ ?_
  · refine Le.of ?_ ?_ ?_ ?_ ?_ <;> simp [leTV, locsIn, encDigs, encTraces, encWant, encTrace, encReads, encRead, encMades, encMade, encMades] <;> try omega
  · simp [prevO]
  rintro k ⟨hk, hpk⟩ KL hN hE
  refine vc_sound (cf := cf0) laid mixed _ _ _ (by kernel_rfl) ?_
  by_cases hlt : k < l.length
  · have hlt' : (k : Int) < l.length := by omega
    have hdr : l.drop k = l[k] :: l.drop (k+1) := (List.getElem_cons_drop hlt).symm
    have hpn : prevO l (k+1) = some l[k].path := by simp [prevO, List.getElem?_eq_getElem hlt]
    have hg := map_get encMade l k hlt
    have hpl := hl2 l[k] (List.getElem_mem _)
    by_cases h0 : k = 0
    · have h0' : ¬ 0 < k := by omega
      obtain ⟨m, hm⟩ : ∃ m, m = l[k] := ⟨_, rfl⟩
      rw [← hm] at hdr hpn hg hpl
      rw [hdr, prevO, if_pos h0, outsV] at hpk
      (simp (maxSteps := 2000000) (disch := first | omega | assumption) [zz, hlt', hg, encMades, encMade])
      refine callV_pc (under_ok m.path outT (by omega) (by decide)) rfl rfl (by simp) (by simp [argLe, TV.er, AV.er, coC, outT]) ?_
      cases hu : underV m.path outT
      · rw [if_pos hu] at hpk
        (simp (maxSteps := 2000000) (disch := first | omega | assumption) [zz])
        refine hE _ _ (by simp) ?_
        (simp (maxSteps := 2000000) (disch := first | omega | assumption) [zz, Tryz.f55, hpk])
      · rw [if_neg (by simp [hu])] at hpk
        (simp (maxSteps := 2000000) (disch := first | omega | assumption) [zz, h0'])
        refine hN _ (k+1) ?_ ⟨by omega, by rw [hpn]; exact hpk⟩ (by omega)
        refine Le.of ?_ ?_ ?_ ?_ ?_ <;> simp [leTV, locsIn, encDigs, encTraces, encWant, encTrace, encReads, encRead, encMades, encMade, encMades] <;> try omega
    · have h0' : 0 < k := by omega
      have hk1 : k - 1 < l.length := by omega
      have hk1' : (k : Int) - 1 < l.length := by omega
      have hk1'' : (1 : Int) ≤ k := by omega
      have hgp := map_get encMade l (k-1) hk1
      have hprev : prevO l k = some l[k-1].path := by simp [prevO, h0, List.getElem?_eq_getElem hk1]
      obtain ⟨q, hq⟩ : ∃ q, q = l[k-1] := ⟨_, rfl⟩
      obtain ⟨m, hm⟩ : ∃ m, m = l[k] := ⟨_, rfl⟩
      rw [← hm] at hdr hpn hg hpl
      rw [← hq] at hgp hprev
      rw [hdr, hprev, outsV] at hpk
      (simp (maxSteps := 2000000) (disch := first | omega | assumption) [zz, hlt', hg, encMades, encMade])
      refine callV_pc (under_ok m.path outT (by omega) (by decide)) rfl rfl (by simp) (by simp [argLe, TV.er, AV.er, coC, outT]) ?_
      cases hu : underV m.path outT
      · rw [if_pos hu] at hpk
        (simp (maxSteps := 2000000) (disch := first | omega | assumption) [zz])
        refine hE _ _ (by simp) ?_
        (simp (maxSteps := 2000000) (disch := first | omega | assumption) [zz, Tryz.f55, hpk])
      rw [if_neg (by simp [hu])] at hpk
      by_cases he : m.path = q.path
      · rw [if_pos he] at hpk
        (simp (maxSteps := 2000000) (disch := first | omega | assumption) [zz, h0', hk1', hk1'', hgp, he, encMade])
        (repeat ((with_reducible refine And.intro ?_ ?_); (· first | omega | (show barB _ _ = true; kernel_rfl) | (show rdJ _ _ _ _ _ = true; kernel_rfl) | (show tailB _ _ _ = true; kernel_rfl) | (show sftB _ _ _ = true; kernel_rfl))))
        refine hE _ _ (by simp) ?_
        (simp (maxSteps := 2000000) (disch := first | omega | assumption) [zz, Tryz.f55, hpk])
      rw [if_neg he] at hpk
      cases hbl : Op.bytesLess m.path q.path
      · rw [if_neg (by simp [hbl])] at hpk
        (simp (maxSteps := 2000000) (disch := first | omega | assumption) [zz, h0', hk1', hk1'', hgp, he, encMade, hbl])
        (repeat ((with_reducible refine And.intro ?_ ?_); (· first | omega | (show barB _ _ = true; kernel_rfl) | (show rdJ _ _ _ _ _ = true; kernel_rfl) | (show tailB _ _ _ = true; kernel_rfl) | (show sftB _ _ _ = true; kernel_rfl))))
        refine hN _ (k+1) ?_ ⟨by omega, by rw [hpn]; exact hpk⟩ (by omega)
        refine Le.of ?_ ?_ ?_ ?_ ?_ <;> simp [leTV, locsIn, encDigs, encTraces, encWant, encTrace, encReads, encRead, encMades, encMade, encMades] <;> try omega
      · rw [if_pos hbl] at hpk
        (simp (maxSteps := 2000000) (disch := first | omega | assumption) [zz, h0', hk1', hk1'', hgp, he, encMade, hbl])
        (repeat ((with_reducible refine And.intro ?_ ?_); (· first | omega | (show barB _ _ = true; kernel_rfl) | (show rdJ _ _ _ _ _ = true; kernel_rfl) | (show tailB _ _ _ = true; kernel_rfl) | (show sftB _ _ _ = true; kernel_rfl))))
        refine hE _ _ (by simp) ?_
        (simp (maxSteps := 2000000) (disch := first | omega | assumption) [zz, Tryz.f55, hpk])
  · have hlt' : ¬ (k : Int) < l.length := by omega
    (simp (maxSteps := 2000000) (disch := first | omega | assumption) [zz, hlt'])
    refine hE _ _ (by simp) ?_
    rw [List.drop_of_length_le (by omega)] at hpk
    have hz : ∀ o, outsV o [] = 0 := fun o => by cases o <;> rfl
    rw [hz] at hpk
    (simp (maxSteps := 2000000) (disch := first | omega | assumption) [zz, Tryz.f55, hpk])
def TrP (t : Trace) : Prop := RdOK t.reads ∧ MdOK t.outs
set_option maxHeartbeats 4000000 in
theorem check_ok (t : Trace) (ht : TrP t) : PC Tryz.prog 27 [.av (tyOf Tryz.prog 34) (encTrace t)] (.av (.int .i64) (.i .i64 (checkV t))) := by
  refine PC.of <| ACalls.of_vc laid mixed Tryz.func27 rfl (by kernel_rfl) cf0 (by simp [Tryz.ntmps27]) fun imm0 w0 => ?_
  by_cases h1 : 500 < t.reads.length
  · have h1' : (500 : Int) < t.reads.length := by omega
    (simp (maxSteps := 2000000) (disch := first | omega | assumption) [zz, encTrace, encReads, encMades, h1', Tryz.f27, checkV, h1])
  have h1' : ¬ (500 : Int) < t.reads.length := by omega
  by_cases h2 : 1000 < t.outs.length
  · have h2' : (1000 : Int) < t.outs.length := by omega
    (simp (maxSteps := 2000000) (disch := first | omega | assumption) [zz, encTrace, encReads, encMades, h1', h2', Tryz.f27, checkV, h1, h2])
  have h2' : ¬ (1000 : Int) < t.outs.length := by omega
  (simp (maxSteps := 2000000) (disch := first | omega | assumption) [zz, encTrace, encReads, encMades, h1', h2'])
  refine callV_pc (reads_ok t.reads ht.1) rfl rfl (by simp) (by simp [argLe, TV.er, AV.er, AV.ers_eq, Function.comp_def, encReads]) ?_
  by_cases h3 : readsV [] t.reads = 0
  · (simp (maxSteps := 2000000) (disch := first | omega | assumption) [zz, h3])
    refine callV_pc (outs_ok t.outs ht.2) rfl rfl (by simp) (by simp [argLe, TV.er, AV.er, AV.ers_eq, Function.comp_def, encMades]) ?_
    (simp (maxSteps := 2000000) (disch := first | omega | assumption) [zz, Tryz.f27, checkV, h1, h2, h3])
  · (simp (maxSteps := 2000000) (disch := first | omega | assumption) [zz, h3, Tryz.f27, checkV, h1, h2])
end Go.Proofs.YthdgnfnalimcnaaGreatDoor
end
