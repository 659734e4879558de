/- Copies of traces; what is kept of a key. No condition beyond each theorem's own. -/
import Derived.Test.YthdgnfnalimcnaaGreatDoorD1To
import Derived.Test.YthdgnfnalimcnaaGreatDoorP15ToP16
set_option linter.unusedSimpArgs false
set_option linter.unusedVariables false
set_option linter.unusedSectionVars false
set_option maxRecDepth 100000
/-! Copies of traces; what is kept of a key. -/
namespace Go.Proofs.YthdgnfnalimcnaaGreatDoor
open Go Go.Ab
open Classical
variable [Sel]

@[simp] theorem fnok9 : fnOK Tryz.prog 9 = true := by kernel_rfl
@[simp] theorem isne9 : isNE Tryz.prog (.func 9) = false := isNE_func fnok9
@[simp] theorem fnok22 : fnOK Tryz.prog 22 = true := by kernel_rfl
@[simp] theorem isne22 : isNE Tryz.prog (.func 22) = false := isNE_func fnok22
theorem cloneR_ok (l : List Read) (hl : l.length ≤ 1000) : PC Tryz.prog 61 [.av (.slice 59) (encReads l)] (.av (.slice 59) (encReads l)) := by
  refine PC.of <| ACalls.of_vc laid mixed Tryz.func61 rfl (by kernel_rfl) cf0 (by simp [Tryz.ntmps61]) fun imm0 w0 => ?_
  (simp (maxSteps := 2000000) (disch := first | omega | assumption) [zz, encReads])
  refine ⟨?_, ?_⟩
  · intro h
    subst h
    (simp (maxSteps := 2000000) (disch := first | omega | assumption) [zz, Tryz.f61])
  · (simp (maxSteps := 2000000) (disch := first | omega | assumption) [zz, appendV, Tryz.f61])
    exact ⟨by omega, by omega, by simp [AV.ers_eq, Function.comp_def]⟩
theorem cloneM_ok (l : List Made) (hl : l.length ≤ 1000) : PC Tryz.prog 62 [.av (.slice 73) (encMades l)] (.av (.slice 73) (encMades l)) := by
  refine PC.of <| ACalls.of_vc laid mixed Tryz.func62 rfl (by kernel_rfl) cf0 (by simp [Tryz.ntmps62]) fun imm0 w0 => ?_
  (simp (maxSteps := 2000000) (disch := first | omega | assumption) [zz, encMades])
  refine ⟨?_, ?_⟩
  · intro h
    subst h
    (simp (maxSteps := 2000000) (disch := first | omega | assumption) [zz, Tryz.f62])
  · (simp (maxSteps := 2000000) (disch := first | omega | assumption) [zz, appendV, Tryz.f62])
    exact ⟨by omega, by omega, by simp [AV.ers_eq, Function.comp_def]⟩
def TrS (t : Trace) : Prop := t.reads.length ≤ 1000 ∧ t.outs.length ≤ 1000
theorem TrS.ok {t : Trace} (h : TrS t) : TrOK t := ⟨Nat.le_trans h.1 (by decide), Nat.le_trans h.2 (by decide)⟩
abbrev cfDc : Cfg := ⟨fun _ => false, fun n => n == 9 || n == 10⟩
theorem dclone_ok (t : Trace) (ht : TrS t) : PC Tryz.prog 32 [.av (tyOf Tryz.prog 34) (encTrace t)] (.av (tyOf Tryz.prog 34) (encTrace t)) := by
  obtain ⟨h1, h2⟩ := ht
  refine PC.of <| ACalls.of_vc laid mixed Tryz.func32 rfl (by kernel_rfl) cfDc (by simp [Tryz.ntmps32]) fun imm0 w0 => ?_
  (simp (maxSteps := 2000000) (disch := first | omega | assumption) [zz, -List.reduceReplicate, encTrace])
  (repeat ((with_reducible refine And.intro ?_ ?_); (· first | omega | (show barB _ _ = true; kernel_rfl) | (show rdJ _ _ _ _ _ = true; kernel_rfl) | (show tailB _ _ _ = true; kernel_rfl) | (show sftB _ _ _ = true; kernel_rfl))))
  refine callD_pc (cloneR_ok t.reads h1) rfl rfl (by simp) (by simp [argLe, TV.er]) ?_
  (simp (maxSteps := 2000000) (disch := first | omega | assumption) [zz, -List.reduceReplicate])
  (repeat ((with_reducible refine And.intro ?_ ?_); (· first | omega | (show barB _ _ = true; kernel_rfl) | (show rdJ _ _ _ _ _ = true; kernel_rfl) | (show tailB _ _ _ = true; kernel_rfl) | (show sftB _ _ _ = true; kernel_rfl))))
  refine callD_pc (cloneM_ok t.outs h2) rfl rfl (by simp) (by simp [argLe, TV.er]) ?_
  (simp (maxSteps := 2000000) (disch := first | omega | assumption) [zz, -List.reduceReplicate, Tryz.f32])
  (repeat ((with_reducible refine And.intro ?_ ?_); (· first | omega | (show barB _ _ = true; kernel_rfl) | (show rdJ _ _ _ _ _ = true; kernel_rfl) | (show tailB _ _ _ = true; kernel_rfl) | (show sftB _ _ _ = true; kernel_rfl))))
  kernel_rfl
abbrev cfCl : Cfg := ⟨fun _ => false, fun n => n == 5⟩
theorem cloneTr_ok (ts : List Trace) (b cap : Nat) (j : List AV) (hj : JK j) (hcap : ts.length + j.length = cap) (hn : ts.length ≤ 1000) :
    ACalls Tryz.prog 42 [.av (.slice 34) (.msl b 34 0 ts.length cap)] [(b, rowO cap ts j)]
      fun r H' => ∃ b' cap' j', JK j' ∧ ts.length + j'.length = cap' ∧ r = .av (.slice 34) (.msl b' 34 0 ts.length cap') ∧ H' = [(b', rowO cap' ts j'), (b, rowO cap ts j)] := by
  refine ACalls.sub (R := fun r H' => ∃ b' cap' j', JK j' ∧ ts.length + j'.length = cap' ∧ r = .av (.slice 34) (.msl b' 34 0 ts.length cap') ∧ HSub [(b', rowO cap' ts j'), (b, rowO cap ts j)] H') ?_ fun r H' ⟨b', cap', j', h1, h2, h3, h4⟩ _ => ⟨_, h4, b', cap', j', h1, h2, h3, rfl⟩
  have htk : (trs ts ++ j).take ts.length = trs ts := by rw [List.take_append_of_le_length (by simp)]; exact List.take_of_length_le (by simp)
  have her : AV.erks (trs ts ++ j) = trs ts ++ j := JK.app (JK.trs ts) hj
  refine ACalls.of_vc laid mixed Tryz.func42 rfl (by kernel_rfl) cfCl (by simp [Tryz.ntmps42]) fun imm0 w0 => ?_
  (simp (maxSteps := 2000000) (disch := first | omega | assumption) [zz, -List.reduceReplicate, rowO])
  intro b5 hb5
  (simp (maxSteps := 2000000) (disch := first | omega | assumption) [zz, -List.reduceReplicate, hb5, htk])
  have hb5' : ¬ b = b5 := fun e => hb5 e.symm
  refine ⟨by omega, ⟨by omega, by omega⟩, fun h0 => ?_, fun h0 b' cap' h1 h2 hc => ?_⟩
  · have : ts = [] := by
      rcases h0 with h0 | h0
      · exact h0
      · simpa [trs] using h0.1
    subst this
    (simp (maxSteps := 2000000) (disch := first | omega | assumption) [zz, -List.reduceReplicate, Tryz.f42, trs, hj, her])
    refine ⟨b5, 0, [], JK.nil, by simp, by simp, HSub.of_sub ?_⟩
    have : AV.erks j = j := hj
    simp [this]
  · have hz := JK.app (JK.trs ts) (JK.zeros (cap' - ts.length))
    unfold JK tr0A at hz
    (simp (maxSteps := 2000000) (disch := first | omega | assumption) [zz, -List.reduceReplicate, Tryz.f42, hz, her])
    refine ⟨b', cap', List.replicate (cap' - ts.length) tr0A, JK.zeros _, by simp; omega, ⟨rfl, rfl⟩, ⟨_, List.Perm.refl _, ?_⟩⟩
    exact ((List.Sublist.refl _).cons _).cons_cons _
theorem cloneNil_ok : ACalls Tryz.prog 42 [.av (.slice 34) .nsl] [] fun r H' => r = .av (.slice 34) (.sl .no []) ∧ H' = [] := by
  refine ACalls.of_vc laid mixed Tryz.func42 rfl (by kernel_rfl) cfCl (by simp [Tryz.ntmps42]) fun imm0 w0 => ?_
  (simp (maxSteps := 2000000) (disch := first | omega | assumption) [zz, -List.reduceReplicate, Tryz.f42])
/-! ### a db -/
noncomputable abbrev DbT : TyD := .struct [3, 60]
noncomputable def dbO (M : Nat) (most : Int) : HObj := .var DbT (.agg [.i .i64 most, .map (some M)])
noncomputable def mpO (es : List (AV × AV)) : HObj := .map 30 22 es
def EK (es : List (AV × AV)) : Prop := es.map (fun p => (p.1.er, p.2.er)) = es
def mslT (b n cap : Nat) : AV := .msl b 34 0 n cap
abbrev cfNw : Cfg := ⟨fun n => n == 13, fun _ => false⟩
theorem new_ok (most : Int) (h1 : 1 ≤ most) (h8 : most ≤ 8) : ACalls Tryz.prog 9 [.av (.int .i64) (.i .i64 most)] [] fun r H' => ∃ B M, M ≠ B ∧ r = .tup [(.ptr, .ptr B DbT []), (.int .i64, .i .i64 0)] ∧ H' = [(B, dbO M most), (M, mpO [])] := by
  refine ACalls.of_vc laid mixed Tryz.func9 rfl (by kernel_rfl) cfNw (by simp [Tryz.ntmps9]) fun imm0 w0 => ?_
  have e1 : ¬ most < 1 := by omega
  have e2 : ¬ 8 < most := by omega
  (simp (maxSteps := 2000000) (disch := first | omega | assumption) [zz, -List.reduceReplicate, e1, e2])
  intro M B hB
  (simp (maxSteps := 2000000) (disch := first | omega | assumption) [zz, -List.reduceReplicate, Tryz.f9, dbO, mpO])
  exact fun e => hB e.symm
abbrev cfDof : Cfg := ⟨fun _ => false, fun n => n == 1000003 || n == 2000015⟩
set_option maxHeartbeats 4000000 in
theorem of0_ok (k : Dig) (es : List (AV × AV)) (he : EK es) (most : Int) (B M b cap : Nat) (hBM : B ≠ M) (ts : List Trace) (hts : ∀ x ∈ ts, TrS x) (j : List AV) (hj : JK j) (hf : mfind (encD k) es = some (mslT b ts.length cap)) (hcap : ts.length + j.length = cap) (hn : ts.length ≤ 1000) :
    ACalls Tryz.prog 22 [.av .ptr (.ptr B DbT []), .av (tyOf Tryz.prog 30) (encD k)] [(B, dbO M most), (M, mpO es), (b, rowO cap ts j)]
      fun r H' => ∃ b' cap' j', JK j' ∧ ts.length + j'.length = cap' ∧ r = .av (.slice 34) (.msl b' 34 0 ts.length cap') ∧ H' = [(b', rowO cap' ts j'), (B, dbO M most), (M, mpO es), (b, rowO cap ts j)] := by
  have hBM' : ¬ M = B := fun e => hBM e.symm
  refine ACalls.of_vc laid mixed Tryz.func22 rfl (by kernel_rfl) cfDof (by simp [Tryz.ntmps22]) fun imm0 w0 => ?_
  (simp (maxSteps := 2000000) (disch := first | omega | assumption) [zz, -List.reduceReplicate, dbO, mpO])
  refine vcSoft.of [0, 1, 2, 3, 4, 5, 6, 7] [] (by kernel_rfl) ?_
  (simp (maxSteps := 2000000) (disch := first | omega | assumption) [zz, -List.reduceReplicate, dbO, mpO, hBM, hBM', hf, mslT])
  (repeat ((with_reducible refine And.intro ?_ ?_); (· first | omega | (show barB _ _ = true; kernel_rfl) | (show rdJ _ _ _ _ _ = true; kernel_rfl) | (show tailB _ _ _ = true; kernel_rfl) | (show sftB _ _ _ = true; kernel_rfl))))
  refine callV_sub (R := fun r H' => ∃ b' cap' j', JK j' ∧ ts.length + j'.length = cap' ∧ r = .av (.slice 34) (.msl b' 34 0 ts.length cap') ∧ H' = [(b', rowO cap' ts j'), (b, rowO cap ts j)]) [(b, rowO cap ts j)] [(B, dbO M most), (M, mpO es)] (List.perm_append_comm (l₁ := [(B, dbO M most), (M, mpO es)])) rfl (by simp [argOK]) (by simp) ?_ ?_
  · have := cloneTr_ok ts b cap j hj hcap hn
    simpa [TV.er, AV.er, rowO_er hj] using this
  rintro r' H' ⟨b', cap', j', hj', hcap', rfl, rfl⟩ hnd
  refine ⟨[(b', rowO cap' ts j'), (B, dbO M most), (M, mpO es), (b, rowO cap ts j)], HSub.of_perm (List.Perm.cons _ (List.perm_append_comm (l₁ := [(b, rowO cap ts j)]))), ?_⟩
  simp [Heap.keys] at hnd
  (simp (maxSteps := 2000000) (disch := first | omega | assumption) [zz, -List.reduceReplicate])
  refine AT.loop' (α := Nat) (fun k => St.of [(5, .av (.slice 34) (.msl b' 34 0 ts.length cap')), (17, .av (.int .i64) (.i .i64 ts.length)), (18, .av (.int .i64) (.i .i64 k))] [] (fun _ => 0) [(b', rowO cap' ts j'), (B, dbO M most), (M, mpO es), (b, rowO cap ts j)])
    (fun k => k ≤ ts.length) (fun k => ts.length - k) 0 ?_ ?_ ?_
  · refine Le.of ?_ ?_ ?_ ?_ ?_ <;> simp [leTV, locsIn, lk_nil] <;> try omega
  · simp
  rintro k hk KL hN hE
  refine vc_sound (cf := cfDof) laid mixed _ _ _ (by kernel_rfl) ?_
  by_cases hlt : k < ts.length
  · have hlt' : (k : Int) < ts.length := by omega
    have hg := trs_getJ ts j' k hlt
    have hset : (trs ts ++ j').set k (encTrace ts[k]) = trs ts ++ j' := by
      have h1 : k < (trs ts ++ j').length := by simp; omega
      have h2 : (trs ts ++ j')[k] = encTrace ts[k] := by
        rw [List.getElem?_eq_getElem h1] at hg; exact Option.some.inj hg
      rw [← h2]; exact List.set_getElem_self h1
    (simp (maxSteps := 2000000) (disch := first | omega | assumption) [zz, -List.reduceReplicate, hlt', rowO, hg])
    (repeat ((with_reducible refine And.intro ?_ ?_); (· first | omega | (show barB _ _ = true; kernel_rfl) | (show rdJ _ _ _ _ _ = true; kernel_rfl) | (show tailB _ _ _ = true; kernel_rfl) | (show sftB _ _ _ = true; kernel_rfl))))
    refine callV_pc (dclone_ok ts[k] (hts _ (List.getElem_mem hlt))) rfl rfl (by simp) (by simp [argLe, TV.er]) ?_
    (simp (maxSteps := 2000000) (disch := first | omega | assumption) [zz, -List.reduceReplicate, hlt', hg, hset])
    (repeat ((with_reducible refine And.intro ?_ ?_); (· first | omega | (show barB _ _ = true; kernel_rfl) | (show rdJ _ _ _ _ _ = true; kernel_rfl) | (show tailB _ _ _ = true; kernel_rfl) | (show sftB _ _ _ = true; kernel_rfl))))
    refine hN _ (k+1) ?_ (by omega) (by omega)
    refine Le.of ?_ ?_ ?_ ?_ ?_ <;> simp [leTV, locsIn, rowO] <;> try omega
  · have hlt' : ¬ (k : Int) < ts.length := by omega
    (simp (maxSteps := 2000000) (disch := first | omega | assumption) [zz, -List.reduceReplicate, hlt'])
    refine hE _ _ (by simp) ?_
    have he' : es.map (fun p => (p.1.er, p.2.er)) = es := he
    have h1 : AV.erks (trs ts ++ j') = trs ts ++ j' := JK.app (JK.trs _) hj'
    have h2 : AV.erks (trs ts ++ j) = trs ts ++ j := JK.app (JK.trs _) hj
    (simp (maxSteps := 2000000) (disch := first | omega | assumption) [zz, -List.reduceReplicate, Tryz.f22, rowO, dbO, mpO, he', h1, h2])
    exact ⟨b', cap', j', hj', hcap', by simp⟩
theorem of_some (k : Dig) (es : List (AV × AV)) (he : EK es) (most : Int) (B M b cap : Nat) (hBM : B ≠ M) (ts : List Trace) (hts : ∀ x ∈ ts, TrS x) (j : List AV) (hj : JK j) (hf : mfind (encD k) es = some (mslT b ts.length cap)) (hcap : ts.length + j.length = cap) (hn : ts.length ≤ 1000) :
    ACalls Tryz.prog 22 [.av .ptr (.ptr B DbT []), .av (tyOf Tryz.prog 30) (encD k)] [(B, dbO M most), (M, mpO es), (b, rowO cap ts j)]
      fun r H' => r = .av (.slice 34) (.sl .no (trs ts)) ∧ H' = [(B, dbO M most), (M, mpO es), (b, rowO cap ts j)] := by
  refine (of0_ok k es he most B M b cap hBM ts hts j hj hf hcap hn).freeze laid ?_
  rintro r H' ⟨b', cap', j', hj', hcap', rfl, rfl⟩ hnd
  refine .inl ⟨b', cap', 34, trs ts ++ j', _, List.Perm.refl _, ?_, rfl⟩
  have htk : (trs ts ++ j').take ts.length = trs ts := by rw [List.take_append_of_le_length (by simp)]; exact List.take_of_length_le (by simp)
  simp [fzTV, fzA, hcap', htk]
  omega
theorem of_none (k : Dig) (es : List (AV × AV)) (he : EK es) (most : Int) (B M : Nat) (hBM : B ≠ M) (hf : mfind (encD k) es = none) :
    ACalls Tryz.prog 22 [.av .ptr (.ptr B DbT []), .av (tyOf Tryz.prog 30) (encD k)] [(B, dbO M most), (M, mpO es)]
      fun r H' => r = .av (.slice 34) (.sl .no []) ∧ H' = [(B, dbO M most), (M, mpO es)] := by
  have hBM' : ¬ M = B := fun e => hBM e.symm
  refine ACalls.of_vc laid mixed Tryz.func22 rfl (by kernel_rfl) cfDof (by simp [Tryz.ntmps22]) fun imm0 w0 => ?_
  (simp (maxSteps := 2000000) (disch := first | omega | assumption) [zz, -List.reduceReplicate, dbO, mpO])
  refine vcSoft.of [0, 1, 2, 3, 4, 5, 6, 7] [] (by kernel_rfl) ?_
  (simp (maxSteps := 2000000) (disch := first | omega | assumption) [zz, -List.reduceReplicate, dbO, mpO, hBM, hBM', hf, zN])
  (repeat ((with_reducible refine And.intro ?_ ?_); (· first | omega | (show barB _ _ = true; kernel_rfl) | (show rdJ _ _ _ _ _ = true; kernel_rfl) | (show tailB _ _ _ = true; kernel_rfl) | (show sftB _ _ _ = true; kernel_rfl))))
  refine callV_sub (R := fun r H' => r = .av (.slice 34) (.sl .no []) ∧ H' = []) [] [(B, dbO M most), (M, mpO es)] (List.Perm.refl _) rfl (by simp [argOK]) (by simp) ?_ ?_
  · exact cloneNil_ok
  rintro r' H' ⟨rfl, rfl⟩ hnd
  refine ⟨[(B, dbO M most), (M, mpO es)], HSub.refl _, ?_⟩
  (simp (maxSteps := 2000000) (disch := first | omega | assumption) [zz, -List.reduceReplicate])
  refine AT.loop' (α := Nat) (fun k => St.of [(5, .av (.slice 34) (.sl .no [])), (17, .av (.int .i64) (.i .i64 0)), (18, .av (.int .i64) (.i .i64 0))] [] (fun _ => 0) [(B, dbO M most), (M, mpO es)])
    (fun k => True) (fun k => 0) 0 ?_ ?_ ?_
  · refine Le.of ?_ ?_ ?_ ?_ ?_ <;> simp [leTV, locsIn, lk_nil] <;> try omega
  · simp
  rintro k - KL hN hE
  refine vc_sound (cf := cfDof) laid mixed _ _ _ (by kernel_rfl) ?_
  (simp (maxSteps := 2000000) (disch := first | omega | assumption) [zz, -List.reduceReplicate])
  refine hE _ _ (by simp) ?_
  have he' : es.map (fun p => (p.1.er, p.2.er)) = es := he
  (simp (maxSteps := 2000000) (disch := first | omega | assumption) [zz, -List.reduceReplicate, Tryz.f22, dbO, mpO, he'])
end Go.Proofs.YthdgnfnalimcnaaGreatDoor
