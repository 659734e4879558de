/- May a trace be? The reference's check. No condition beyond each theorem's own. -/
import Derived.Test.YthdgnfnalimcnaaGreatDoorP15ToP16
import Derived.Test.YthdgnfnalimcnaaGreatDoorB0
import Derived.Test.YthdgnfnalimcnaaGreatDoorAbXToY
set_option linter.unusedSimpArgs false
set_option linter.unusedVariables false
set_option linter.unusedSectionVars false
section
set_option maxRecDepth 100000
/-! May a trace be? The reference's check. -/
namespace Go.Proofs.YthdgnfnalimcnaaGreatDoor
open Go Go.Ab
open Classical
variable [Sel]

theorem bl_not : ∀ (a b : List UInt8), a ≠ b → Op.bytesLess a b = !Op.bytesLess b a
  | [], [], h => absurd rfl h
  | [], _ :: _, _ => by simp [Op.bytesLess]
  | _ :: _, [], _ => by simp [Op.bytesLess]
  | a :: x, b :: y, h => by
    simp only [Op.bytesLess]
    by_cases hab : a = b
    · subst hab
      have := bl_not x y (fun e => h (by rw [e]))
      simp [this]
    · have hba : ¬ b = a := fun e => hab e.symm
      simp only [beq_iff_eq, hab, hba, Bool.false_and, Bool.or_false, beq_eq_false_iff_ne.2 hab, beq_eq_false_iff_ne.2 hba]
      rw [Bool.eq_iff_iff]
      simp only [decide_eq_true_eq, Bool.not_eq_true', decide_eq_false_iff_not, UInt8.lt_iff_toNat_lt]
      have : a.toNat ≠ b.toNat := fun e => hab (UInt8.toNat_inj.1 e)
      omega
set_option maxHeartbeats 16000000 in
theorem rcheck_ok (t : Trace) (ht : TrP t) (hr2 : ∀ r ∈ t.reads, r.path.length ≤ 1000000000) (ho2 : ∀ r ∈ t.outs, r.path.length ≤ 1000000000) : PC Tryz.prog 18 [.av (tyOf Tryz.prog 34) (encTrace t)] (.av (.int .i64) (.i .i64 (checkV t))) := by
  obtain ⟨⟨hr1, _⟩, ho1, _⟩ := ht
  refine PC.of <| ACalls.of_vc laid mixed Tryz.func18 rfl (by kernel_rfl) cf0 (by simp [Tryz.ntmps18]) fun imm0 w0 => ?_
  by_cases h1 : 500 < t.reads.length
  · have h1' : (500 : Int) < t.reads.length := by omega
    (simp (maxSteps := 2000000) (disch := first | omega | assumption) [zz, encTrace, encReads, encMades, h1', Tryz.f18, checkV, h1])
  have h1' : ¬ (500 : Int) < t.reads.length := by omega
  by_cases h2 : 1000 < t.outs.length
  · have h2' : (1000 : Int) < t.outs.length := by omega
    (simp (maxSteps := 2000000) (disch := first | omega | assumption) [zz, encTrace, encReads, encMades, h1', h2', Tryz.f18, checkV, h1, h2])
  have h2' : ¬ (1000 : Int) < t.outs.length := by omega
  have hcv : checkV t = if readsV [] t.reads ≠ 0 then readsV [] t.reads else outsV none t.outs := by simp [checkV, h1, h2]
  (simp (maxSteps := 2000000) (disch := first | omega | assumption) [zz, encTrace, encReads, encMades, h1', h2'])
  refine AT.loop' (α := Nat) (fun k => St.of [(1, .loc 1 []), (3, .av (.int .i64) (.i .i64 k))] [(1, (tyOf Tryz.prog 34, encTrace t))] (fun _ => 0) [])
    (fun k => k ≤ t.reads.length ∧ readsV [] t.reads = readsV ((t.reads.take k).map (·.path)) (t.reads.drop k)) (fun k => t.reads.length - k) 0 ?_ ?_ ?_
  · refine Le.of ?_ ?_ ?_ ?_ ?_ <;> simp [leTV, locsIn, encDigs, encTraces, encWant, encTrace, encReads, encRead, encMades, encMade, encTrace, encReads, encMades] <;> try omega
  · simp
  rintro k ⟨hk, hpk⟩ KL hN hE
  refine vc_sound (cf := cf0) laid mixed _ _ _ (by kernel_rfl) ?_
  by_cases hlt : k < t.reads.length
  · have hlt' : (k : Int) < t.reads.length := by omega
    have hdr : t.reads.drop k = t.reads[k] :: t.reads.drop (k+1) := (List.getElem_cons_drop hlt).symm
    have htk : (t.reads.take (k+1)).map (·.path) = (t.reads.take k).map (·.path) ++ [t.reads[k].path] := by
      rw [List.take_succ_eq_append_getElem hlt]
      simp only [List.map_append, List.map_cons, List.map_nil]
    have hg := map_get encRead t.reads k hlt
    have hpl := hr2 t.reads[k] (List.getElem_mem _)
    obtain ⟨r, hr⟩ : ∃ r, r = t.reads[k] := ⟨_, rfl⟩
    rw [← hr] at hdr htk hg hpl
    have hml : ((t.reads.take k).map (·.path)).length = k := by simp; omega
    have hmg : ∀ j (hj : j < k) (hj2 : j < t.reads.length), t.reads[j].path = ((t.reads.take k).map (·.path))[j]'(by rw [hml]; exact hj) := by
      intro j hj hj2; simp
    obtain ⟨met, hmet⟩ : ∃ met, met = (t.reads.take k).map (·.path) := ⟨_, rfl⟩
    have hin0 : r.path ∈ met ↔ ∃ j, ∃ (hj : j < k) (hj2 : j < t.reads.length), t.reads[j].path = r.path := by
      rw [hmet]
      constructor
      · intro h
        obtain ⟨j, hj, he⟩ := List.mem_iff_getElem.1 h
        rw [hml] at hj
        exact ⟨j, hj, by omega, by rw [hmg j hj (by omega)]; exact he⟩
      · rintro ⟨j, hj, hj2, he⟩
        rw [← he, hmg j hj hj2]
        exact List.getElem_mem _
    rw [← hmet] at hpk htk
    rw [hdr, readsV] at hpk
    (simp (maxSteps := 2000000) (disch := first | omega | assumption) [zz, hlt', hg, encTrace, encReads, encRead])
    refine callV_pc (rmay_ok r.path (by omega)) rfl rfl (by simp) (by simp [argLe, TV.er, AV.er]) ?_
    cases hm : mayV r.path
    · rw [if_pos hm] at hpk
      (simp (maxSteps := 2000000) (disch := first | omega | assumption) [zz])
      refine hE _ _ (by simp) ?_
      (simp (maxSteps := 2000000) (disch := first | omega | assumption) [zz, Tryz.f18, hcv, hpk])
    rw [if_neg (by simp [hm])] at hpk
    (simp (maxSteps := 2000000) (disch := first | omega | assumption) [zz])
    refine AT.loop' (α := Nat) (fun j => St.of [(1, .loc 1 []), (3, .av (.int .i64) (.i .i64 k)), (4, .loc 4 []), (5, .av (.int .i64) (.i .i64 j))] [(1, (tyOf Tryz.prog 34, encTrace t)), (4, (tyOf Tryz.prog 59, encRead r))] (fun _ => 0) [])
      (fun j => j ≤ k ∧ ∀ i, i < j → ∀ (h : i < t.reads.length), t.reads[i].path ≠ r.path) (fun j => k - j) 0 ?_ ?_ ?_
    · refine Le.of ?_ ?_ ?_ ?_ ?_ <;> simp [leTV, locsIn, encDigs, encTraces, encWant, encTrace, encReads, encRead, encMades, encMade, encTrace, encReads, encMades, encRead] <;> try omega
    · exact ⟨by omega, fun i h => by omega⟩
    rintro j ⟨hj, hall⟩ KL2 hN2 hE2
    refine vc_sound (cf := cf0) laid mixed _ _ _ (by kernel_rfl) ?_
    by_cases hjk : j < k
    · have hjk' : (j : Int) < k := by omega
      have hjl : j < t.reads.length := by omega
      have hjl' : (j : Int) < t.reads.length := by omega
      have hgj := map_get encRead t.reads j hjl
      obtain ⟨q, hq⟩ : ∃ q, q = t.reads[j] := ⟨_, rfl⟩
      rw [← hq] at hgj
      by_cases he : q.path = r.path
      · have hin : r.path ∈ met := hin0.2 ⟨j, hjk, hjl, by rw [← hq]; exact he⟩
        rw [if_pos hin] at hpk
        (simp (maxSteps := 2000000) (disch := first | omega | assumption) [zz, hjk, hjk', hjl', hgj, encTrace, encReads, encRead, he])
        (repeat ((with_reducible refine And.intro ?_ ?_); (· first | omega | (show barB _ _ = true; kernel_rfl) | (show rdJ _ _ _ _ _ = true; kernel_rfl) | (show tailB _ _ _ = true; kernel_rfl) | (show sftB _ _ _ = true; kernel_rfl))))
        refine hE2 _ _ (by simp) ?_
        (simp (maxSteps := 2000000) (disch := first | omega | assumption) [zz])
        refine hE _ _ (by simp) ?_
        (simp (maxSteps := 2000000) (disch := first | omega | assumption) [zz, Tryz.f18, hcv, hpk])
      · (simp (maxSteps := 2000000) (disch := first | omega | assumption) [zz, hjk, hjk', hjl', hgj, encTrace, encReads, encRead, he])
        (repeat ((with_reducible refine And.intro ?_ ?_); (· first | omega | (show barB _ _ = true; kernel_rfl) | (show rdJ _ _ _ _ _ = true; kernel_rfl) | (show tailB _ _ _ = true; kernel_rfl) | (show sftB _ _ _ = true; kernel_rfl))))
        refine hN2 _ (j+1) ?_ ⟨by omega, fun i hi h => ?_⟩ (by omega)
        · refine Le.of ?_ ?_ ?_ ?_ ?_ <;> simp [leTV, locsIn, encDigs, encTraces, encWant, encTrace, encReads, encRead, encMades, encMade, encTrace, encReads, encMades, encRead] <;> try omega
        · rcases Nat.lt_or_ge i j with h3 | h3
          · exact hall i h3 h
          · have : i = j := by omega
            subst this; rw [← hq]; exact he
    have hjk' : ¬ (j : Int) < k := by omega
    have hin : ¬ r.path ∈ met := fun h => by
      obtain ⟨i, hi, hi2, he⟩ := hin0.1 h
      exact hall i (by omega) hi2 he
    rw [if_neg hin] at hpk
    (simp (maxSteps := 2000000) (disch := first | omega | assumption) [zz, hjk, hjk'])
    refine hE2 _ _ (by simp) ?_
    cases his : r.is
    · by_cases hz : r.sum = zero32
      · rw [if_neg (by simp [hz])] at hpk
        (simp (maxSteps := 2000000) (disch := first | omega | assumption) [zz, encRead, his, hz, encD_zero, -List.reduceReplicate])
        refine hN _ (k+1) ?_ ⟨by omega, by rw [htk]; exact hpk⟩ (by omega)
        refine Le.of ?_ ?_ ?_ ?_ ?_ <;> simp [leTV, locsIn, encDigs, encTraces, encWant, encTrace, encReads, encRead, encMades, encMade, encTrace, encReads, encMades] <;> try omega
      · rw [if_pos ⟨his, hz⟩] at hpk
        have hz' : ¬ r.sum.map (fun b => AV.i .u8 b.toNat) = List.replicate 32 (.i .u8 0) := by
          intro h
          have := encD_zero
          simp only [encD, AV.agg.injEq] at this
          exact hz (encD_inj'.1 (h.trans this.symm))
        (simp (maxSteps := 2000000) (disch := first | omega | assumption) [zz, encRead, his, encD, hz', -List.reduceReplicate])
        refine hE _ _ (by simp) ?_
        (simp (maxSteps := 2000000) (disch := first | omega | assumption) [zz, Tryz.f18, hcv, hpk])
    · rw [if_neg (by simp [his])] at hpk
      (simp (maxSteps := 2000000) (disch := first | omega | assumption) [zz, encRead, his])
      refine hN _ (k+1) ?_ ⟨by omega, by rw [htk]; exact hpk⟩ (by omega)
      refine Le.of ?_ ?_ ?_ ?_ ?_ <;> simp [leTV, locsIn, encDigs, encTraces, encWant, encTrace, encReads, encRead, encMades, encMade, encTrace, encReads, encMades] <;> try omega
  have hlt' : ¬ (k : Int) < t.reads.length := by omega
  rw [List.drop_of_length_le (by omega), readsV] at hpk
  have hcv2 : checkV t = outsV none t.outs := by rw [hcv, hpk]; simp
  (simp (maxSteps := 2000000) (disch := first | omega | assumption) [zz, hlt', encTrace, encReads])
  refine hE _ _ (by simp) ?_
  (simp (maxSteps := 2000000) (disch := first | omega | assumption) [zz, encTrace, encMades])
  refine AT.loop' (α := Nat) (fun k => St.of [(1, .loc 1 []), (6, .av (.int .i64) (.i .i64 k))] [(1, (tyOf Tryz.prog 34, encTrace t))] (fun _ => 0) [])
    (fun k => k ≤ t.outs.length ∧ outsV none t.outs = outsV (prevO t.outs k) (t.outs.drop k)) (fun k => t.outs.length - k) 0 ?_ ?_ ?_
  · refine Le.of ?_ ?_ ?_ ?_ ?_ <;> simp [leTV, locsIn, encDigs, encTraces, encWant, encTrace, encReads, encRead, encMades, encMade, encTrace, encReads, encMades] <;> try omega
  · simp [prevO]
  rintro k2 ⟨hk2, hpk2⟩ KL2 hN2 hE2
  refine vc_sound (cf := cf0) laid mixed _ _ _ (by kernel_rfl) ?_
  by_cases hlt2 : k2 < t.outs.length
  · have hlt2' : (k2 : Int) < t.outs.length := by omega
    have hdr : t.outs.drop k2 = t.outs[k2] :: t.outs.drop (k2+1) := (List.getElem_cons_drop hlt2).symm
    have hpn : prevO t.outs (k2+1) = some t.outs[k2].path := by simp [prevO, List.getElem?_eq_getElem hlt2]
    have hg := map_get encMade t.outs k2 hlt2
    have hpl := ho2 t.outs[k2] (List.getElem_mem _)
    obtain ⟨m, hm⟩ : ∃ m, m = t.outs[k2] := ⟨_, rfl⟩
    rw [← hm] at hdr hpn hg hpl
    by_cases h0 : k2 = 0
    · have h0' : ¬ 0 < k2 := by omega
      rw [hdr, prevO, if_pos h0, outsV] at hpk2
      (simp (maxSteps := 2000000) (disch := first | omega | assumption) [zz, hlt2', hg, encTrace, encMades, encMade])
      refine callV_pc (runder_ok outT (by decide) m.path.length m.path (by omega) (by omega)) rfl rfl (by simp) (by simp [argLe, TV.er, AV.er, coC, outT]) ?_
      cases hu : underV m.path outT
      · rw [if_pos hu] at hpk2
        (simp (maxSteps := 2000000) (disch := first | omega | assumption) [zz])
        refine hE2 _ _ (by simp) ?_
        (simp (maxSteps := 2000000) (disch := first | omega | assumption) [zz, Tryz.f18, hcv2, hpk2])
      · rw [if_neg (by simp [hu])] at hpk2
        (simp (maxSteps := 2000000) (disch := first | omega | assumption) [zz, h0'])
        refine hN2 _ (k2+1) ?_ ⟨by omega, by rw [hpn]; exact hpk2⟩ (by omega)
        refine Le.of ?_ ?_ ?_ ?_ ?_ <;> simp [leTV, locsIn, encDigs, encTraces, encWant, encTrace, encReads, encRead, encMades, encMade, encTrace, encReads, encMades] <;> try omega
    · have h0' : 0 < k2 := by omega
      have hk1 : k2 - 1 < t.outs.length := by omega
      have hk1' : (k2 : Int) - 1 < t.outs.length := by omega
      have hk1'' : (1 : Int) ≤ k2 := by omega
      have hgp := map_get encMade t.outs (k2-1) hk1
      have hprev : prevO t.outs k2 = some t.outs[k2-1].path := by simp [prevO, h0, List.getElem?_eq_getElem hk1]
      obtain ⟨q, hq⟩ : ∃ q, q = t.outs[k2-1] := ⟨_, rfl⟩
      rw [← hq] at hgp hprev
      rw [hdr, hprev, outsV] at hpk2
      (simp (maxSteps := 2000000) (disch := first | omega | assumption) [zz, hlt2', hg, encTrace, encMades, encMade])
      refine callV_pc (runder_ok outT (by decide) m.path.length m.path (by omega) (by omega)) rfl rfl (by simp) (by simp [argLe, TV.er, AV.er, coC, outT]) ?_
      cases hu : underV m.path outT
      · rw [if_pos hu] at hpk2
        (simp (maxSteps := 2000000) (disch := first | omega | assumption) [zz])
        refine hE2 _ _ (by simp) ?_
        (simp (maxSteps := 2000000) (disch := first | omega | assumption) [zz, Tryz.f18, hcv2, hpk2])
      rw [if_neg (by simp [hu])] at hpk2
      by_cases he : m.path = q.path
      · rw [if_pos he] at hpk2
        (simp (maxSteps := 2000000) (disch := first | omega | assumption) [zz, h0', hk1', hk1'', hgp, he, encTrace, encMades, encMade])
        (repeat ((with_reducible refine And.intro ?_ ?_); (· first | omega | (show barB _ _ = true; kernel_rfl) | (show rdJ _ _ _ _ _ = true; kernel_rfl) | (show tailB _ _ _ = true; kernel_rfl) | (show sftB _ _ _ = true; kernel_rfl))))
        refine hE2 _ _ (by simp) ?_
        (simp (maxSteps := 2000000) (disch := first | omega | assumption) [zz, Tryz.f18, hcv2, hpk2])
      rw [if_neg he] at hpk2
      have he' : ¬ q.path = m.path := fun e => he e.symm
      have hbn := bl_not m.path q.path he
      cases hbl : Op.bytesLess m.path q.path
      · rw [if_neg (by simp [hbl])] at hpk2
        have hbl2 : Op.bytesLess q.path m.path = true := by rw [hbl] at hbn; simpa using hbn.symm
        (simp (maxSteps := 2000000) (disch := first | omega | assumption) [zz, h0', hk1', hk1'', hgp, he', encTrace, encMades, encMade, hbl2])
        (repeat ((with_reducible refine And.intro ?_ ?_); (· first | omega | (show barB _ _ = true; kernel_rfl) | (show rdJ _ _ _ _ _ = true; kernel_rfl) | (show tailB _ _ _ = true; kernel_rfl) | (show sftB _ _ _ = true; kernel_rfl))))
        refine hN2 _ (k2+1) ?_ ⟨by omega, by rw [hpn]; exact hpk2⟩ (by omega)
        refine Le.of ?_ ?_ ?_ ?_ ?_ <;> simp [leTV, locsIn, encDigs, encTraces, encWant, encTrace, encReads, encRead, encMades, encMade, encTrace, encReads, encMades] <;> try omega
      · rw [if_pos hbl] at hpk2
        have hbl2 : Op.bytesLess q.path m.path = false := by rw [hbl] at hbn; simpa using hbn.symm
        (simp (maxSteps := 2000000) (disch := first | omega | assumption) [zz, h0', hk1', hk1'', hgp, he', encTrace, encMades, encMade, hbl2])
        (repeat ((with_reducible refine And.intro ?_ ?_); (· first | omega | (show barB _ _ = true; kernel_rfl) | (show rdJ _ _ _ _ _ = true; kernel_rfl) | (show tailB _ _ _ = true; kernel_rfl) | (show sftB _ _ _ = true; kernel_rfl))))
        refine hE2 _ _ (by simp) ?_
        (simp (maxSteps := 2000000) (disch := first | omega | assumption) [zz, Tryz.f18, hcv2, hpk2])
  · have hlt2' : ¬ (k2 : Int) < t.outs.length := by omega
    (simp (maxSteps := 2000000) (disch := first | omega | assumption) [zz, hlt2', encTrace, encMades])
    refine hE2 _ _ (by simp) ?_
    rw [List.drop_of_length_le (by omega)] at hpk2
    have hz : ∀ o, outsV o [] = 0 := fun o => by cases o <;> rfl
    rw [hz] at hpk2
    (simp (maxSteps := 2000000) (disch := first | omega | assumption) [zz, Tryz.f18, hcv2, hpk2])
end Go.Proofs.YthdgnfnalimcnaaGreatDoor
end
section
set_option maxRecDepth 100000
/-! What a reading of the arguments tells: traces, reads. Go's own tables as the row lists them. -/
namespace Go.Proofs.YthdgnfnalimcnaaGreatDoor
open Go Go.Ab
open Classical
variable [Sel]

theorem list_dec {α : Type} {f : α → AV} {q : AV → Prop} {r : α → Prop} {xs : List AV} (h : ∀ y ∈ xs, q y) (hd : ∀ y, q y → ∃ a, y = f a ∧ r a) : ∃ l : List α, xs = l.map f ∧ ∀ a ∈ l, r a := by
  induction xs with
  | nil => exact ⟨[], rfl, by simp⟩
  | cons y ys ih =>
    obtain ⟨a, ha, hr⟩ := hd y (h y (by simp))
    obtain ⟨l, hl, hl2⟩ := ih fun z hz => h z (by simp [hz])
    exact ⟨a :: l, by simp [ha, hl], by simpa using ⟨hr, hl2⟩⟩

theorem decDig {n : Nat} {x : AV} (h : WTy Tryz.prog (n + 2) 30 x) : ∃ d : Dig, x = encD d ∧ d.length = 32 := by
  simp only [WTy, ty30, ty5] at h
  obtain ⟨xs, rfl, hlen, h⟩ := h
  obtain ⟨l, hl, _⟩ := list_dec (α := UInt8) (f := fun b => AV.i .u8 b.toNat) (r := fun _ => True) h (by
    rintro y ⟨m, rfl, hm⟩
    have hx : 0 ≤ m ∧ m ≤ 255 := by simpa [Lit.wf, IntKind.min, IntKind.max, IntKind.signed, IntKind.bits] using hm
    refine ⟨UInt8.ofNat m.toNat, ?_, trivial⟩
    simp only [AV.i.injEq, true_and]
    have : (UInt8.ofNat m.toNat).toNat = m.toNat := by simp; omega
    rw [this]; omega)
  subst hl
  exact ⟨l, rfl, by simpa using hlen⟩
def okR (r : Read) : Prop := r.sum.length = 32 ∧ r.path.length ≤ maxLen
def okM (r : Made) : Prop := r.sum.length = 32 ∧ r.path.length ≤ maxLen
theorem decRead {n : Nat} {x : AV} (h : WTy Tryz.prog (n + 3) 59 x) : ∃ r : Read, x = encRead r ∧ okR r := by
  rw [WTy] at h
  simp only [ty59] at h
  obtain ⟨xs, rfl, hlen, h⟩ := h
  match xs, hlen with
  | [a, b, c], _ =>
    have h1 := h 0 9 a rfl rfl
    have h2 := h 1 4 b rfl rfl
    have h3 := h 2 30 c rfl rfl
    simp only [WTy, ty9] at h1
    simp only [WTy, ty4] at h2
    obtain ⟨s, rfl, hs⟩ := h1
    obtain ⟨q, rfl⟩ := h2
    obtain ⟨d, rfl, hd⟩ := decDig h3
    exact ⟨⟨s, q, d⟩, rfl, hd, hs⟩
theorem decMade {n : Nat} {x : AV} (h : WTy Tryz.prog (n + 3) 73 x) : ∃ r : Made, x = encMade r ∧ okM r := by
  rw [WTy] at h
  simp only [ty73] at h
  obtain ⟨xs, rfl, hlen, h⟩ := h
  match xs, hlen with
  | [a, c], _ =>
    have h1 := h 0 9 a rfl rfl
    have h3 := h 1 30 c rfl rfl
    simp only [WTy, ty9] at h1
    obtain ⟨s, rfl, hs⟩ := h1
    obtain ⟨d, rfl, hd⟩ := decDig h3
    exact ⟨⟨s, d⟩, rfl, hd, hs⟩
theorem decReads {n : Nat} {x : AV} (h : WTy Tryz.prog (n + 4) 31 x) : ∃ l : List Read, x = encReads l ∧ l.length ≤ maxLen ∧ ∀ r ∈ l, okR r := by
  rw [WTy] at h
  simp only [ty31] at h
  obtain ⟨xs, rfl, hlen, h⟩ := h
  obtain ⟨l, rfl, h2⟩ := list_dec h fun y hy => decRead hy
  exact ⟨l, rfl, by simpa using hlen, h2⟩
theorem decMades {n : Nat} {x : AV} (h : WTy Tryz.prog (n + 4) 32 x) : ∃ l : List Made, x = encMades l ∧ l.length ≤ maxLen ∧ ∀ r ∈ l, okM r := by
  rw [WTy] at h
  simp only [ty32] at h
  obtain ⟨xs, rfl, hlen, h⟩ := h
  obtain ⟨l, rfl, h2⟩ := list_dec h fun y hy => decMade hy
  exact ⟨l, rfl, by simpa using hlen, h2⟩
def okTrace (t : Trace) : Prop := t.key.length = 32 ∧ (t.reads.length ≤ maxLen ∧ ∀ r ∈ t.reads, okR r) ∧ t.outs.length ≤ maxLen ∧ ∀ r ∈ t.outs, okM r
theorem decTrace {n : Nat} {x : AV} (h : WTy Tryz.prog (n + 5) 34 x) : ∃ t : Trace, x = encTrace t ∧ okTrace t := by
  rw [WTy] at h
  simp only [ty34] at h
  obtain ⟨xs, rfl, hlen, h⟩ := h
  match xs, hlen with
  | [a, b, c], _ =>
    obtain ⟨k, rfl, h1⟩ := decDig (h 0 30 a rfl rfl)
    obtain ⟨r, rfl, h2⟩ := decReads (h 1 31 b rfl rfl)
    obtain ⟨o, rfl, h3⟩ := decMades (h 2 32 c rfl rfl)
    exact ⟨⟨k, r, o⟩, rfl, h1, h2, h3⟩
theorem max63 : maxLen ≤ 9223372036854775807 := by decide
end Go.Proofs.YthdgnfnalimcnaaGreatDoor
end
