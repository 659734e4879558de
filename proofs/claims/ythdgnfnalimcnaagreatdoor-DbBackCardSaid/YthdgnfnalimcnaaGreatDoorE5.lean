/- A db's keys, rising. No condition beyond each theorem's own. -/
import Derived.Test.YthdgnfnalimcnaaGreatDoorE3To
import Derived.Test.YthdgnfnalimcnaaGreatDoorE2
set_option linter.unusedSimpArgs false
set_option linter.unusedVariables false
set_option linter.unusedSectionVars false
set_option maxRecDepth 100000
/-! A db's keys, rising. -/
namespace Go.Proofs.YthdgnfnalimcnaaGreatDoor
open Go Go.Ab
open Classical
variable [Sel]

@[simp] theorem fnok43 : fnOK Tryz.prog 43 = true := by kernel_rfl
@[simp] theorem isne43 : isNE Tryz.prog (.func 43) = false := isNE_func fnok43
@[simp] theorem fnok76 : fnOK Tryz.prog 76 = true := by kernel_rfl
@[simp] theorem isne76 : isNE Tryz.prog (.func 76) = false := isNE_func fnok76
@[simp] theorem fnok23 : fnOK Tryz.prog 23 = true := by kernel_rfl
@[simp] theorem isne23 : isNE Tryz.prog (.func 23) = false := isNE_func fnok23
theorem sortNil_ok : ACalls Tryz.prog 76 [.av DgS .nsl, .av .func (.fn 45 [])] [] fun r H' => r = .tup [] ∧ H' = [] := by
  intro imm w vs hrep hargs
  obtain ⟨vs⟩ := vs
  match vs, hargs with
  | [v1, v2], ⟨h1, h2, _⟩ =>
    obtain ⟨f1, h1⟩ := h1
    simp only [VC] at h1
    obtain ⟨_, _, h1⟩ := h1
    rw [cells_one rfl f1] at h1
    have e1 : v1 = .slice none 0 0 := by simpa using h1
    subst e1
    have hcall := AnyF.slices_SortFunc_none Tryz.sortD none 0 v2 w
    refine Calls.mono hcall ?_
    rintro e w' ⟨rfl, rfl⟩
    exact ⟨.tuple #[], .tup [], imm, [], rfl, ⟨rfl, rfl⟩, ⟨[], rfl, trivial⟩, hrep, Step.refl⟩
def KO (ks ks' : List Dig) : Prop := ks'.Perm ks ∧ ks'.Pairwise (fun x y => ltL y x = false)
def sR (ks : List Dig) (rest : Heap) (r : TV) (H' : Heap) : Prop :=
  ∃ ks', KO ks ks' ∧ ((ks' = [] ∧ r = .av DgS .nsl ∧ H' = rest) ∨ ∃ b cap j, JK j ∧ ks'.length + j.length = cap ∧ r = .av DgS (.msl b 30 0 ks'.length cap) ∧ H' = (b, kRow cap ks' j) :: rest)
set_option maxHeartbeats 4000000 in
theorem sortedFunc_ok (c M : Nat) (hcM : c ≠ M) (cs : List Cel) (hlen : cs.length ≤ 1000) (h32 : ∀ c ∈ cs, c.key.length = 32) :
    ACalls Tryz.prog 43 [.av .func (.fn 77 [.ptr c MpT []]), .av .func (.fn 45 [])] [(M, mpO (cs.map celE)), (c, mbO M)]
      (sR (cs.map (·.key)) [(M, mpO (cs.map celE)), (c, mbO M)]) := by
  have hek := EK_cel cs
  unfold EK at hek
  have hme : (mpO (cs.map celE)).er = mpO (cs.map celE) := by simp only [mpO, HObj.er_map, hek]
  have hmb : (mbO M).er = mbO M := rfl
  refine ACalls.of_vc laid mixed Tryz.func43 rfl (by kernel_rfl) cf0 (by simp [Tryz.ntmps43]) fun imm0 w0 => ?_
  (simp (maxSteps := 2000000) (disch := first | omega | assumption) [zz, -List.reduceReplicate])
  refine callV_all (R := kR (cs.map (·.key)) [(M, mpO (cs.map celE)), (c, mbO M)]) rfl (by simp [argOK]) (by simp) ?_ ?_
  · have := collect_ok c M hcM cs hlen
    simpa [TV.er, AV.er, AV.ers, Heap.er_cons, Heap.er_nil, hme, hmb] using this
  rintro r' H' ⟨done, hp, ⟨rfl, rfl, rfl⟩ | ⟨b, cap, j, hj, hcap, rfl, rfl⟩⟩
  · (simp (maxSteps := 2000000) (disch := first | omega | assumption) [zz, -List.reduceReplicate])
    refine callV_sub (R := fun r H' => r = .tup [] ∧ H' = []) [] [(M, mpO (cs.map celE)), (c, mbO M)] (List.Perm.refl _) rfl (by simp [argOK]) (by simp) ?_ ?_
    · have := sortNil_ok
      simpa [TV.er, AV.er, AV.ers, Heap.er_nil] using this
    rintro r' H' ⟨rfl, rfl⟩ _
    refine ⟨_, HSub.refl _, ?_⟩
    (simp (maxSteps := 2000000) (disch := first | omega | assumption) [zz, -List.reduceReplicate, hme, hmb, Tryz.f43])
    exact ⟨[], ⟨hp, List.Pairwise.nil⟩, .inl ⟨rfl, rfl, rfl⟩⟩
  · have hkr := fun ks => kRow_er (cap := cap) (ks := ks) hj
    have hd32 : ∀ k ∈ done, k.length = 32 := fun k hk => by
      obtain ⟨c, hc, rfl⟩ := List.mem_map.1 (hp.mem_iff.1 hk)
      exact h32 c hc
    have hdl : done.length = cs.length := by simpa using hp.length_eq
    (simp (maxSteps := 2000000) (disch := first | omega | assumption) [zz, -List.reduceReplicate])
    refine callV_sub (R := fun r H' => r = .tup [] ∧ ∃ ks' : List Dig, ks'.Perm done ∧ ks'.Pairwise (fun x y => ltL y x = false) ∧ H' = [(b, kRow cap ks' j)]) [(b, kRow cap done j)] [(M, mpO (cs.map celE)), (c, mbO M)] (List.Perm.refl _) rfl (by simp [argOK]) (by simp) ?_ ?_
    · have := sort_ok done hd32 b cap j hcap (by omega)
      have e : Heap.er [(b, kRow cap done j)] = [(b, kRow cap done j)] := by rw [Heap.er_cons, hkr]; rfl
      rw [e]
      simpa [TV.er, AV.er, AV.ers, kRow] using this
    rintro r' H' ⟨rfl, ks', hp', hs', rfl⟩ _
    refine ⟨_, HSub.refl _, ?_⟩
    have hkl : ks'.length = done.length := hp'.length_eq
    (simp (maxSteps := 2000000) (disch := first | omega | assumption) [zz, -List.reduceReplicate, hme, hmb, hkr, Tryz.f43])
    exact ⟨ks', ⟨hp'.trans hp, hs'⟩, .inr ⟨b, cap, j, hj, by omega, by rw [hkl], rfl⟩⟩
set_option maxHeartbeats 4000000 in
theorem keys0_ok (B M mo : Nat) (hBM : B ≠ M) (cs : List Cel) (hlen : cs.length ≤ 1000) (h32 : ∀ c ∈ cs, c.key.length = 32) :
    ACalls Tryz.prog 23 [.av .ptr (.ptr B DbT [])] [(B, dbO M mo), (M, mpO (cs.map celE))] fun r H' => ∃ rest H2, sR (cs.map (·.key)) rest r H2 ∧ Ab.HSub H2 H' ∧ rest = [(B, dbO M mo), (M, mpO (cs.map celE))] := by
  have hMB : ¬ M = B := fun e => hBM e.symm
  have hek := EK_cel cs
  unfold EK at hek
  have hme : (mpO (cs.map celE)).er = mpO (cs.map celE) := by simp only [mpO, HObj.er_map, hek]
  refine ACalls.of_vc laid mixed Tryz.func23 rfl (by kernel_rfl) cf0 (by simp [Tryz.ntmps23]) fun imm0 w0 => ?_
  (simp (maxSteps := 2000000) (disch := first | omega | assumption) [zz, -List.reduceReplicate, dbO])
  refine callV_sub (R := fun r H' => ∃ c, r = .av .func (.fn 77 [.ptr c MpT []]) ∧ H' = [(c, mbO M)]) [] [(B, dbO M mo), (M, mpO (cs.map celE))] (List.Perm.refl _) rfl (by simp [argOK]) (by simp) ?_ ?_
  · have := mkeys_ok M
    simpa [TV.er, AV.er, AV.ers, Heap.er_nil] using this
  rintro r' H' ⟨c, rfl, rfl⟩ hnd
  simp [Heap.keys] at hnd
  refine ⟨[(c, mbO M), (B, dbO M mo), (M, mpO (cs.map celE))], HSub.refl _, ?_⟩
  (simp (maxSteps := 2000000) (disch := first | omega | assumption) [zz, -List.reduceReplicate])
  refine callV_sub (R := sR (cs.map (·.key)) [(M, mpO (cs.map celE)), (c, mbO M)]) [(M, mpO (cs.map celE)), (c, mbO M)] [(B, dbO M mo)] ((List.perm_append_comm (l₁ := [_, _]) (l₂ := [_])).trans (List.Perm.cons _ (List.Perm.refl _))) rfl (by simp [argOK]) (by simp) ?_ ?_
  · have := sortedFunc_ok c M hnd.1.2 cs hlen h32
    simpa [TV.er, AV.er, AV.ers, Heap.er_cons, Heap.er_nil, hme, mbO] using this
  rintro r' H' ⟨ks', hko, ⟨rfl, rfl, rfl⟩ | ⟨b, cap, j, hj, hcap, rfl, rfl⟩⟩ _
  · refine ⟨[(B, dbO M mo), (M, mpO (cs.map celE))], ⟨_, List.perm_append_comm (l₁ := [_, _]), ?_⟩, ?_⟩
    · exact ((List.nil_sublist _).cons_cons _).cons_cons _
    (simp (maxSteps := 2000000) (disch := first | omega | assumption) [zz, -List.reduceReplicate, hme, dbO, Tryz.f23])
    exact ⟨_, _, ⟨[], hko, .inl ⟨rfl, rfl, rfl⟩⟩, HSub.refl _, rfl⟩
  · refine ⟨[(b, kRow cap ks' j), (B, dbO M mo), (M, mpO (cs.map celE))], ⟨_, List.Perm.cons _ (List.perm_append_comm (l₁ := [_, _])), ?_⟩, ?_⟩
    · exact (((List.nil_sublist _).cons_cons _).cons_cons _).cons_cons _
    have hkr := kRow_er (cap := cap) (ks := ks') hj
    (simp (maxSteps := 2000000) (disch := first | omega | assumption) [zz, -List.reduceReplicate, hme, dbO, hkr, Tryz.f23])
    exact ⟨_, _, ⟨ks', hko, .inr ⟨b, cap, j, hj, hcap, rfl, rfl⟩⟩, HSub.refl _, rfl⟩
theorem ACalls.nilR {P : Program} {f : FuncId} {args : List TV} {H : Heap} {R R' : TV → Heap → Prop} (h : ACalls P f args H R) (hr : ∀ r H', R r H' → R' r H' ∨ ∃ e, r = .av (.slice e) .nsl ∧ R' (.av (.slice e) (.sl .no [])) H') : ACalls P f args H R' :=
  fun imm w vs h1 h2 => (h imm w vs h1 h2).mono fun e w' ⟨v, r, imm', H', a, b, c, d, st⟩ => by
    rcases hr _ _ b with h3 | ⟨e, rfl, h3⟩
    · exact ⟨v, r, imm', H', a, h3, c, d, st⟩
    · obtain ⟨f, hv⟩ := c
      simp only [VC] at hv
      obtain ⟨_, _, hv⟩ := hv
      exact ⟨v, _, imm', H', a, h3, ⟨f, by simp only [VC]; exact ⟨e, none, 0, rfl, hv, by simp, by simp [tokOK]⟩⟩, d, st⟩
theorem dbkeys_ok (B M mo : Nat) (cs : List Cel) (hlen : cs.length ≤ 1000) (h32 : ∀ c ∈ cs, c.key.length = 32) :
    ACalls Tryz.prog 23 [.av .ptr (.ptr B DbT [])] (DbH B M mo cs) fun r H' => ∃ ks', KO (cs.map (·.key)) ks' ∧ r = .av DgS (encDigs ks') ∧ H' = DbH B M mo cs := by
  refine ACalls.nodup fun hnd => ?_
  obtain ⟨hBM, hbs⟩ := dbH_ne hnd
  have h1 : ACalls Tryz.prog 23 [.av .ptr (.ptr B DbT [])] [(B, dbO M mo), (M, mpO (cs.map celE))] fun r H' => ∃ ks', KO (cs.map (·.key)) ks' ∧ r = .av DgS (encDigs ks') ∧ H' = [(B, dbO M mo), (M, mpO (cs.map celE))] := by
    have g1 := ACalls.sub (R' := sR (List.map Cel.key cs) [(B, dbO M mo), (M, mpO (cs.map celE))]) (keys0_ok B M mo hBM cs hlen h32) (by
      rintro r H' ⟨rest, H2, h1, h2, rfl⟩ _
      exact ⟨H2, h2, h1⟩)
    have g2 := ACalls.nilR (R' := fun r H' => ∃ ks' : List Dig, KO (List.map Cel.key cs) ks' ∧ ((ks' = [] ∧ r = .av DgS (.sl .no []) ∧ H' = [(B, dbO M mo), (M, mpO (cs.map celE))]) ∨ ∃ b cap j, JK j ∧ ks'.length + j.length = cap ∧ r = .av DgS (.msl b 30 0 ks'.length cap) ∧ H' = (b, kRow cap ks' j) :: [(B, dbO M mo), (M, mpO (cs.map celE))])) g1 (by
      rintro r H' ⟨ks', hko, ⟨rfl, rfl, rfl⟩ | h⟩
      · exact .inr ⟨_, rfl, [], hko, .inl ⟨rfl, rfl, rfl⟩⟩
      · exact .inl ⟨ks', hko, .inr h⟩)
    refine g2.freeze laid ?_
    rintro r H' ⟨ks', hko, ⟨rfl, rfl, rfl⟩ | ⟨b, cap, j, hj, hcap, rfl, rfl⟩⟩ _
    · exact .inr ⟨[], hko, rfl, rfl⟩
    · refine .inl ⟨b, cap, 30, ks'.map encD ++ j, _, List.Perm.refl _, ks', hko, ?_, rfl⟩
      have htk : (ks'.map encD ++ j).take ks'.length = ks'.map encD := by rw [List.take_append_of_le_length (by simp)]; exact List.take_of_length_le (by simp)
      simp [fzTV, fzA, hcap, htk, encDigs]
      omega
  refine ACalls.use (Hs := [(B, dbO M mo), (M, mpO (cs.map celE))]) (rest := cs.map celO) (List.Perm.refl _) h1 ?_
  rintro r H1 ⟨ks', hko, rfl, rfl⟩ _
  exact ⟨_, HSub.refl _, ks', hko, rfl, rfl⟩
end Go.Proofs.YthdgnfnalimcnaaGreatDoor
