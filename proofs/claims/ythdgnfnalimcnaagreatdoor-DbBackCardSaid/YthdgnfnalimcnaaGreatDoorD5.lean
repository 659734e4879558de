/- A trace is kept. No condition beyond each theorem's own. -/
import Derived.Test.YthdgnfnalimcnaaGreatDoorD4
set_option linter.unusedSimpArgs false
set_option linter.unusedVariables false
set_option linter.unusedSectionVars false
set_option maxRecDepth 100000
/-! A trace is kept. -/
namespace Go.Proofs.YthdgnfnalimcnaaGreatDoor
open Go Go.Ab
open Classical
variable [Sel]

@[simp] theorem fnok11 : fnOK Tryz.prog 11 = true := by kernel_rfl
@[simp] theorem isne11 : isNE Tryz.prog (.func 11) = false := isNE_func fnok11
theorem EK_iff {es : List (AV × AV)} : EK es ↔ ∀ p ∈ es, p.1.er = p.1 ∧ p.2.er = p.2 := by
  unfold EK
  constructor
  · intro h p hp
    have h1 : ∀ x ∈ es, (fun p : AV × AV => (p.1.er, p.2.er)) x = x := by
      have : es.map (fun p : AV × AV => (p.1.er, p.2.er)) = es.map id := by rw [h]; simp
      exact fun x hx => (List.map_inj_left.1 this) x hx
    have := h1 p hp
    obtain ⟨a, b⟩ := p
    simpa using this
  · intro h
    conv => rhs; rw [← List.map_id es]
    exact List.map_congr_left fun p hp => by obtain ⟨a, b⟩ := p; have := h _ hp; simp at this; simp [this]
theorem EK_mput {k v : AV} (hk : k.er = k) (hv : v.er = v) : ∀ {es : List (AV × AV)}, EK es → EK (mput k v es)
  | [], _ => by simp [mput, EK, hk, hv]
  | (x, y) :: r, h => by
    rw [EK_iff] at h
    have hr : EK r := EK_iff.2 fun p hp => h p (List.mem_cons_of_mem _ hp)
    have h0 := h (x, y) (by simp)
    have ih := EK_mput hk hv hr
    unfold mput
    split
    · rw [EK_iff]; intro p hp
      rcases List.mem_cons.1 hp with rfl | hp
      · exact ⟨hk, hv⟩
      · exact (EK_iff.1 hr) p hp
    · rw [EK_iff]; intro p hp
      rcases List.mem_cons.1 hp with rfl | hp
      · exact h0
      · exact (EK_iff.1 ih) p hp
theorem checkV_S {t : Trace} (h : checkV t = 0) : TrS t := by
  unfold checkV at h
  split at h
  · cases h
  · exact ⟨by omega, by omega⟩
theorem insNil_c (x : Trace) (bv : Nat) :
    ACalls Tryz.prog 31 [.av (.slice 34) .nsl, .cst (.int .i64 0), .av (.slice 34) (.msl bv 34 0 1 1)] [(bv, oneO x)] (InsR x []) :=
  ACalls.args (insNil_ok x bv) (by simp [argLe, coC, AV.er])
theorem insTr_c (x : Trace) (ts : List Trace) (b bv cap : Nat) (j : List AV) (hj : JK j) (hb : b ≠ bv) (hcap : ts.length + j.length = cap) (hn : ts.length ≤ 1000) :
    ACalls Tryz.prog 31 [.av (.slice 34) (.msl b 34 0 ts.length cap), .cst (.int .i64 0), .av (.slice 34) (.msl bv 34 0 1 1)] [(b, rowO cap ts j), (bv, oneO x)] (InsR x ts) :=
  ACalls.args (insTr_ok x ts b bv cap j hj hb hcap hn) (by simp [argLe, coC, AV.er])
abbrev cfAdd : Cfg := ⟨fun n => n == 3, fun n => n == 26 || n == 1000006 || n == 2000022 || n == 1000008⟩
theorem add_bad (t : Trace) (ht : TrP t) (hc : ¬ checkV t = 0) (B : Nat) :
    ACalls Tryz.prog 11 [.av .ptr (.ptr B DbT []), .av (tyOf Tryz.prog 34) (encTrace t)] [] fun r H' => r = .av (.int .i64) (.i .i64 (checkV t)) ∧ H' = [] := by
  refine ACalls.sub (R := fun r H' => r = .av (.int .i64) (.i .i64 (checkV t))) ?_ fun r H' h _ => ⟨[], HSub.of_sub (List.nil_sublist _), h, rfl⟩
  refine ACalls.of_vc laid mixed Tryz.func11 rfl (by kernel_rfl) cfAdd (by simp [Tryz.ntmps11]) fun imm0 w0 => ?_
  (simp (maxSteps := 2000000) (disch := first | omega | assumption) [zz, -List.reduceReplicate])
  intro bt
  refine callV_pc (check_ok t ht) rfl rfl (by simp) (by simp [argLe, TV.er]) ?_
  (simp (maxSteps := 2000000) (disch := first | omega | assumption) [zz, -List.reduceReplicate, hc, Tryz.f11])
def addL (mo : Nat) (t : Trace) (ts : List Trace) : List Trace := (t :: kp t ts).take mo
set_option maxHeartbeats 8000000 in
theorem add_new (t : Trace) (ht : TrP t) (hc : checkV t = 0) (es : List (AV × AV)) (he : EK es) (mo : Nat) (hm : 1 ≤ mo) (hm8 : mo ≤ 8) (B M : Nat) (hBM : B ≠ M) (hf : mfind (encD t.key) es = none) :
    ACalls Tryz.prog 11 [.av .ptr (.ptr B DbT []), .av (tyOf Tryz.prog 34) (encTrace t)] [(B, dbO M mo), (M, mpO es)]
      fun r H' => r = .av (.int .i64) (.i .i64 0) ∧ ∃ b' cap' j', JK j' ∧ 1 + j'.length = cap' ∧ H' = [(B, dbO M mo), (M, mpO (mput (encD t.key) (mslT b' 1 cap') es)), (b', rowO cap' [t] j')] := by
  have hBM' : ¬ M = B := fun e => hBM e.symm
  refine ACalls.sub (R := fun r H' => r = .av (.int .i64) (.i .i64 0) ∧ ∃ b' cap' j', JK j' ∧ 1 + j'.length = cap' ∧ HSub [(B, dbO M mo), (M, mpO (mput (encD t.key) (mslT b' 1 cap') es)), (b', rowO cap' [t] j')] H') ?_ fun r H' ⟨h1, b', cap', j', h2, h3, h4⟩ _ => ⟨_, h4, h1, b', cap', j', h2, h3, rfl⟩
  refine ACalls.of_vc laid mixed Tryz.func11 rfl (by kernel_rfl) cfAdd (by simp [Tryz.ntmps11]) fun imm0 w0 => ?_
  (simp (maxSteps := 2000000) (disch := first | omega | assumption) [zz, -List.reduceReplicate, dbO, mpO])
  intro bt hb1 hb2
  have hb1' : ¬ B = bt := fun e => hb1 e.symm
  have hb2' : ¬ M = bt := fun e => hb2 e.symm
  refine callV_pc (check_ok t ht) rfl rfl (by simp) (by simp [argLe, TV.er]) ?_
  (simp (maxSteps := 2000000) (disch := first | omega | assumption) [zz, -List.reduceReplicate, hc])
  refine vcSoft.of [0, 1, 2, 3, 4, 5, 6, 7, 8, 9] [] (by kernel_rfl) ?_
  (simp (maxSteps := 2000000) (disch := first | omega | assumption) [zz, -List.reduceReplicate, hBM, hBM', hb1, hb2, hb1', hb2', zN, encTrace, hf])
  (repeat ((with_reducible refine And.intro ?_ ?_); (· first | omega | (show barB _ _ = true; kernel_rfl) | (show rdJ _ _ _ _ _ = true; kernel_rfl) | (show tailB _ _ _ = true; kernel_rfl) | (show sftB _ _ _ = true; kernel_rfl))))
  refine callV_sub (R := fun r H' => r = .av (.slice 34) .nsl ∧ H' = [(bt, tvO t)]) [(bt, tvO t)] [(B, dbO M mo), (M, mpO es)] (List.Perm.refl _) rfl (by simp [argOK]) (by simp) ?_ ?_
  · have := delNil_ok t bt
    simpa [TV.er, AV.er, AV.ers, tvO, Heap.er_cons, Heap.er_nil, HObj.er_var] using this
  rintro r' H' ⟨rfl, rfl⟩ _
  refine ⟨_, HSub.refl _, ?_⟩
  (simp (maxSteps := 2000000) (disch := first | omega | assumption) [zz, -List.reduceReplicate, tvO, encTrace, dbO, mpO])
  refine callV_pc (dclone_ok t (checkV_S hc)) rfl rfl (by simp) (by simp [argLe, TV.er, encTrace]) ?_
  (simp (maxSteps := 2000000) (disch := first | omega | assumption) [zz, -List.reduceReplicate, encTrace])
  intro bv hv1 hv2 hv3
  refine callV_sub (R := InsR t []) [(bv, oneO t)] [(bt, tvO t), (B, dbO M mo), (M, mpO es)] (List.Perm.refl _) rfl (by simp [argOK]) (by simp) ?_ ?_
  · have := insNil_c t bv
    simpa [TV.er, AV.er, AV.ers, oneO, Heap.er_cons, Heap.er_nil, HObj.er_var, AV.erk, AV.erks] using this
  rintro r' H' ⟨b', cap', j', hj', hcap', rfl, rfl⟩ hnd
  simp [Heap.keys] at hnd hcap'
  obtain ⟨⟨hn1, hn2, hn3⟩, _⟩ := hnd
  refine ⟨[(b', rowO cap' [t] j'), (bt, tvO t), (B, dbO M mo), (M, mpO es)], HSub.refl _, ?_⟩
  have hn1' : ¬ bt = b' := fun e => hn1 e.symm
  have hn2' : ¬ B = b' := fun e => hn2 e.symm
  have hn3' : ¬ M = b' := fun e => hn3 e.symm
  have hmin : ¬ (mo : Int) < 1 := by omega
  (simp (maxSteps := 2000000) (disch := first | omega | assumption) [zz, -List.reduceReplicate])
  refine vcSoft.of [0, 1, 2, 3, 4, 5, 6, 7, 8, 9, 10, 11, 12, 13, 14, 15] [] (by kernel_rfl) ?_
  (simp (maxSteps := 2000000) (disch := first | omega | assumption) [zz, -List.reduceReplicate, hBM, hBM', hb1, hb2, hb1', hb2', hn1, hn2, hn3, hn1', hn2', hn3', encTrace, dbO, mpO, tvO, hmin])
  (repeat ((with_reducible refine And.intro ?_ ?_); (· first | omega | (show barB _ _ = true; kernel_rfl) | (show rdJ _ _ _ _ _ = true; kernel_rfl) | (show tailB _ _ _ = true; kernel_rfl) | (show sftB _ _ _ = true; kernel_rfl))))
  have hek := EK_mput (er_encD t.key) (v := mslT b' 1 cap') rfl he
  unfold EK mslT at hek
  have hje : AV.erks j' = j' := hj'
  (simp (maxSteps := 2000000) (disch := first | omega | assumption) [zz, -List.reduceReplicate, Tryz.f11, hek, rowO, trs, hje])
  refine ⟨b', cap', j', hj', hcap', ⟨_, List.perm_append_comm (l₁ := [_]), (List.Sublist.refl _).cons _⟩⟩
set_option maxHeartbeats 8000000 in
theorem add_old (t : Trace) (ht : TrP t) (hc : checkV t = 0) (es : List (AV × AV)) (he : EK es) (mo : Nat) (hm : 1 ≤ mo) (hm8 : mo ≤ 8) (B M b cap : Nat) (hBM : B ≠ M) (hbB : b ≠ B) (hbM : b ≠ M) (ts : List Trace) (hts : ∀ x ∈ ts, TrS x) (j : List AV) (hj : JK j)
    (hf : mfind (encD t.key) es = some (mslT b ts.length cap)) (hcap : ts.length + j.length = cap) (hn : ts.length ≤ 100) :
    ACalls Tryz.prog 11 [.av .ptr (.ptr B DbT []), .av (tyOf Tryz.prog 34) (encTrace t)] [(B, dbO M mo), (M, mpO es), (b, rowO cap ts j)]
      fun r H' => r = .av (.int .i64) (.i .i64 0) ∧ ∃ b' cap' j', JK j' ∧ (addL mo t ts).length + j'.length = cap' ∧ H' = [(B, dbO M mo), (M, mpO (mput (encD t.key) (mslT b' (addL mo t ts).length cap') es)), (b', rowO cap' (addL mo t ts) j')] := by
  have hBM' : ¬ M = B := fun e => hBM e.symm
  have hbB' : ¬ B = b := fun e => hbB e.symm
  have hbM' : ¬ M = b := fun e => hbM e.symm
  refine ACalls.sub (R := fun r H' => r = .av (.int .i64) (.i .i64 0) ∧ ∃ b' cap' j', JK j' ∧ (addL mo t ts).length + j'.length = cap' ∧ HSub [(B, dbO M mo), (M, mpO (mput (encD t.key) (mslT b' (addL mo t ts).length cap') es)), (b', rowO cap' (addL mo t ts) j')] H') ?_ fun r H' ⟨h1, b', cap', j', h2, h3, h4⟩ _ => ⟨_, h4, h1, b', cap', j', h2, h3, rfl⟩
  refine ACalls.of_vc laid mixed Tryz.func11 rfl (by kernel_rfl) cfAdd (by simp [Tryz.ntmps11]) fun imm0 w0 => ?_
  (simp (maxSteps := 2000000) (disch := first | omega | assumption) [zz, -List.reduceReplicate, dbO, mpO])
  intro bt hb1 hb2 hb3
  have hb1' : ¬ B = bt := fun e => hb1 e.symm
  have hb2' : ¬ M = bt := fun e => hb2 e.symm
  have hb3' : ¬ b = bt := fun e => hb3 e.symm
  refine callV_pc (check_ok t ht) rfl rfl (by simp) (by simp [argLe, TV.er]) ?_
  (simp (maxSteps := 2000000) (disch := first | omega | assumption) [zz, -List.reduceReplicate, hc])
  refine vcSoft.of [0, 1, 2, 3, 4, 5, 6, 7, 8, 9] [] (by kernel_rfl) ?_
  (simp (maxSteps := 2000000) (disch := first | omega | assumption) [zz, -List.reduceReplicate, hBM, hBM', hb1, hb2, hb3, hb1', hb2', hb3', hbB, hbM, hbB', hbM', zN, encTrace, hf, mslT])
  (repeat ((with_reducible refine And.intro ?_ ?_); (· first | omega | (show barB _ _ = true; kernel_rfl) | (show rdJ _ _ _ _ _ = true; kernel_rfl) | (show tailB _ _ _ = true; kernel_rfl) | (show sftB _ _ _ = true; kernel_rfl))))
  refine callV_sub (R := fun r H' => ∃ j', JK j' ∧ (kp t ts).length + j'.length = cap ∧ r = .av (.slice 34) (.msl b 34 0 (kp t ts).length cap) ∧ H' = [(b, rowO cap (kp t ts) j'), (bt, tvO t)]) [(b, rowO cap ts j), (bt, tvO t)] [(B, dbO M mo), (M, mpO es)] (List.perm_append_comm (l₁ := [(bt, tvO t), (B, dbO M mo), (M, mpO es)]) |>.trans (List.Perm.cons _ (List.Perm.refl _))) rfl (by simp [argOK]) (by simp) ?_ ?_
  · have := delTr_ok ts t (fun x hx => (hts x hx).ok) (checkV_S hc).ok b bt cap j hj hb3' hcap (by omega)
    simpa [TV.er, AV.er, AV.ers, tvO, Heap.er_cons, Heap.er_nil, HObj.er_var, rowO_er hj, TrT] using this
  rintro r' H' ⟨j1, hj1, hcap1, rfl, rfl⟩ _
  refine ⟨_, HSub.refl _, ?_⟩
  (simp (maxSteps := 2000000) (disch := first | omega | assumption) [zz, -List.reduceReplicate, tvO, encTrace, dbO, mpO, hb1, hb2, hb3, hb1', hb2', hb3', rowO])
  refine callV_pc (dclone_ok t (checkV_S hc)) rfl rfl (by simp) (by simp [argLe, TV.er, encTrace]) ?_
  (simp (maxSteps := 2000000) (disch := first | omega | assumption) [zz, -List.reduceReplicate, encTrace])
  intro bv hv0 hv1 hv2 hv3
  have hv0' : ¬ b = bv := fun e => hv0 e.symm
  have hkl : (kp t ts).length ≤ 100 := Nat.le_trans (kp_len t ts) hn
  refine callV_sub (R := InsR t (kp t ts)) [(b, rowO cap (kp t ts) j1), (bv, oneO t)] [(bt, tvO t), (B, dbO M mo), (M, mpO es)] (List.Perm.swap _ _ _) rfl (by simp [argOK]) (by simp) ?_ ?_
  · have := insTr_c t (kp t ts) b bv cap j1 hj1 hv0' hcap1 (by omega)
    simpa [TV.er, AV.er, AV.ers, oneO, Heap.er_cons, Heap.er_nil, HObj.er_var, AV.erk, AV.erks, rowO_er hj1] using this
  rintro r' H' ⟨b', cap', j', hj', hcap', rfl, rfl⟩ hnd
  simp [Heap.keys] at hnd
  obtain ⟨⟨hn1, hn2, hn3⟩, _⟩ := hnd
  refine ⟨[(b', rowO cap' (t :: kp t ts) j'), (bt, tvO t), (B, dbO M mo), (M, mpO es)], HSub.refl _, ?_⟩
  have hn1' : ¬ bt = b' := fun e => hn1 e.symm
  have hn2' : ¬ B = b' := fun e => hn2 e.symm
  have hn3' : ¬ M = b' := fun e => hn3 e.symm
  have hts' : trs (t :: kp t ts) ++ j' = trs (addL mo t ts) ++ (trs ((t :: kp t ts).drop mo) ++ j') := by
    rw [← List.append_assoc, ← trs_app]; unfold addL; rw [List.take_append_drop]
  have hlen : (addL mo t ts).length + (trs ((t :: kp t ts).drop mo) ++ j').length = cap' := by
    have := congrArg List.length hts'
    simp only [List.length_append, trs_length, List.length_cons] at this ⊢
    omega
  have hjj : JK (trs ((t :: kp t ts).drop mo) ++ j') := (JK.trs _).app hj'
  have hal : (addL mo t ts).length = if mo < (kp t ts).length + 1 then mo else (kp t ts).length + 1 := by
    unfold addL; rw [List.length_take, List.length_cons]; split <;> omega
  have hek := EK_mput (er_encD t.key) (v := mslT b' (addL mo t ts).length cap') rfl he
  by_cases hmin : mo < (kp t ts).length + 1
  · have hmin' : (mo : Int) < (kp t ts).length + 1 := by omega
    rw [if_pos hmin] at hal
    unfold EK mslT at hek
    rw [hal] at hek
    (simp (maxSteps := 2000000) (disch := first | omega | assumption) [zz, -List.reduceReplicate])
    refine vcSoft.of [0, 1, 2, 3, 4, 5, 6, 7, 8, 9, 10, 11, 12, 13, 14, 15] [] (by kernel_rfl) ?_
    (simp (maxSteps := 2000000) (disch := first | omega | assumption) [zz, -List.reduceReplicate, hBM, hBM', hb1, hb2, hb1', hb2', hn1, hn2, hn3, hn1', hn2', hn3', encTrace, dbO, mpO, tvO, hmin'])
    (repeat ((with_reducible refine And.intro ?_ ?_); (· first | omega | (show barB _ _ = true; kernel_rfl) | (show rdJ _ _ _ _ _ = true; kernel_rfl) | (show tailB _ _ _ = true; kernel_rfl) | (show sftB _ _ _ = true; kernel_rfl))))
    have hje := (JK.trs (addL mo t ts)).app hjj
    rw [← hts'] at hje
    unfold JK at hje
    (simp (maxSteps := 2000000) (disch := first | omega | assumption) [zz, -List.reduceReplicate, Tryz.f11, hek, rowO, hje])
    refine ⟨b', cap', _, hjj, hlen, ⟨_, List.perm_append_comm (l₁ := [_]), ?_⟩⟩
    rw [hal, ← hts']
    exact (List.Sublist.refl _).cons _
  · have hmin' : ¬ (mo : Int) < (kp t ts).length + 1 := by omega
    rw [if_neg hmin] at hal
    unfold EK mslT at hek
    rw [hal] at hek
    (simp (maxSteps := 2000000) (disch := first | omega | assumption) [zz, -List.reduceReplicate])
    refine vcSoft.of [0, 1, 2, 3, 4, 5, 6, 7, 8, 9, 10, 11, 12, 13, 14, 15] [] (by kernel_rfl) ?_
    (simp (maxSteps := 2000000) (disch := first | omega | assumption) [zz, -List.reduceReplicate, hBM, hBM', hb1, hb2, hb1', hb2', hn1, hn2, hn3, hn1', hn2', hn3', encTrace, dbO, mpO, tvO, hmin'])
    (repeat ((with_reducible refine And.intro ?_ ?_); (· first | omega | (show barB _ _ = true; kernel_rfl) | (show rdJ _ _ _ _ _ = true; kernel_rfl) | (show tailB _ _ _ = true; kernel_rfl) | (show sftB _ _ _ = true; kernel_rfl))))
    have hje := (JK.trs (addL mo t ts)).app hjj
    rw [← hts'] at hje
    unfold JK at hje
    (simp (maxSteps := 2000000) (disch := first | omega | assumption) [zz, -List.reduceReplicate, Tryz.f11, hek, rowO, hje])
    refine ⟨b', cap', _, hjj, hlen, ⟨_, List.perm_append_comm (l₁ := [_]), ?_⟩⟩
    rw [hal, ← hts']
    exact (List.Sublist.refl _).cons _
end Go.Proofs.YthdgnfnalimcnaaGreatDoor
