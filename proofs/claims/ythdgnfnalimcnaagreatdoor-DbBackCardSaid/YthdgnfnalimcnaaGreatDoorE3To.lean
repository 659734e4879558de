/- A map's keys, one by one. No condition beyond each theorem's own. -/
import Derived.Test.YthdgnfnalimcnaaGreatDoorE1
import Derived.Test.YthdgnfnalimcnaaGreatDoorD6
import Derived.Test.YthdgnfnalimcnaaGreatDoorP5ToP7
set_option linter.unusedSimpArgs false
set_option linter.unusedVariables false
set_option linter.unusedSectionVars false
section
set_option maxRecDepth 100000
/-! A map's keys, one by one. -/
namespace Go.Proofs.YthdgnfnalimcnaaGreatDoor
open Go Go.Ab
open Classical
variable [Sel]

@[simp] theorem fnok44 : fnOK Tryz.prog 44 = true := by kernel_rfl
@[simp] theorem isne44 : isNE Tryz.prog (.func 44) = false := isNE_func fnok44
@[simp] theorem fnok77 : fnOK Tryz.prog 77 = true := by kernel_rfl
@[simp] theorem isne77 : isNE Tryz.prog (.func 77) = false := isNE_func fnok77
abbrev MpT : TyD := .map 30 22
noncomputable def mbO (M : Nat) : HObj := .var MpT (.map (some M))
abbrev cfMk : Cfg := ⟨fun n => n == 1, fun _ => false⟩
theorem mkeys_ok (M : Nat) : ACalls Tryz.prog 44 [.av MpT (.map (some M))] [] fun r H' => ∃ c, r = .av .func (.fn 77 [.ptr c MpT []]) ∧ H' = [(c, mbO M)] := by
  refine ACalls.of_vc laid mixed Tryz.func44 rfl (by kernel_rfl) cfMk (by simp [Tryz.ntmps44]) fun imm0 w0 => ?_
  (simp (maxSteps := 2000000) (disch := first | omega | assumption) [zz, -List.reduceReplicate])
  intro c
  (simp (maxSteps := 2000000) (disch := first | omega | assumption) [zz, -List.reduceReplicate, Tryz.f44, mbO, AV.ers])
def seenOf (en : Array MapEntry) (ids : List Nat) : Array Nat := (ids.map fun i => (en[i]?.map (·.born)).getD 0).toArray
theorem seenOf_mem {en : Array MapEntry} {ck : Nat} (hst : StampOK en.toList ck) {ids : List Nat} (hids : ∀ i ∈ ids, i < en.size) {i : Nat} {me : MapEntry} (hi : en[i]? = some me) : me.born ∈ seenOf en ids ↔ i ∈ ids := by
  unfold seenOf
  rw [List.mem_toArray, List.mem_map]
  constructor
  · rintro ⟨j, hj, e⟩
    have hjs := hids j hj
    rw [Array.getElem?_eq_getElem hjs] at e
    simp only [Option.map_some, Option.getD_some] at e
    obtain ⟨his, rfl⟩ := Array.getElem?_eq_some_iff.1 hi
    have hnd := hst.2
    have h1 : (en.toList.map (·.born))[j]'(by simpa using hjs) = (en.toList.map (·.born))[i]'(by simpa using his) := by simpa using e
    have := (List.getElem_inj hnd).1 h1
    rw [← this]; exact hj
  · intro h
    exact ⟨i, h, by rw [hi]; rfl⟩
theorem seenOf_push (en : Array MapEntry) (ids : List Nat) {i : Nat} {me : MapEntry} (hi : en[i]? = some me) : (seenOf en ids).push me.born = seenOf en (ids ++ [i]) := by
  unfold seenOf
  apply Array.toList_inj.1
  simp [hi]
def keysAt (ks : List Dig) (ids : List Nat) : List Dig := ids.map fun i => (ks[i]?).getD []
theorem keysAt_perm {ks : List Dig} {ids : List Nat} (hn : ids.Nodup) (hlt : ∀ i ∈ ids, i < ks.length) (hall : ∀ i, i < ks.length → i ∈ ids) : (keysAt ks ids).Perm ks := by
  have h1 : ids.Perm (List.range ks.length) := by
    rw [List.perm_ext_iff_of_nodup hn List.nodup_range]
    intro i
    rw [List.mem_range]
    exact ⟨hlt i, hall i⟩
  have h2 : (List.range ks.length).map (fun i => (ks[i]?).getD []) = ks := by
    refine List.ext_getElem (by simp) fun t h1 h2 => ?_
    simp only [List.getElem_map, List.getElem_range]
    rw [List.getElem?_eq_getElem h2]; rfl
  have := h1.map (fun i => (ks[i]?).getD ([] : Dig))
  rw [h2] at this
  exact this
theorem nodup_len : ∀ (n : Nat) (l : List Nat), l.Nodup → (∀ i ∈ l, i < n) → l.length ≤ n
  | 0, l, _, h => by
    cases l with
    | nil => simp
    | cons x r => exact absurd (h x (by simp)) (Nat.not_lt_zero _)
  | n + 1, l, hn, h => by
    by_cases hm : n ∈ l
    · have := nodup_len n (l.erase n) (hn.erase n) (fun i hi => by
        have h1 := (List.Nodup.mem_erase_iff hn).1 hi
        have := h i h1.2
        have := h1.1
        omega)
      rw [List.length_erase_of_mem hm] at this
      omega
    · have := nodup_len n l hn (fun i hi => by
        have h1 := h i hi
        have : i ≠ n := fun e => hm (e ▸ hi)
        omega)
      omega
set_option maxHeartbeats 4000000 in
theorem keys1_raw {G : List Dig → Heap → Prop} (y c M : Nat) (hcM : c ≠ M) (cs : List Cel) (en : Array MapEntry) (ck : Nat) (i0 : Nat → Nat) (w1 : World) (hop : Opened Tryz.prog 30 22 (cs.map celE) en ck i0 w1)
    (hGe : ∀ done H, G done H → H.er = H)
    (hY : ∀ done (k : Dig) H, k ∈ cs.map (·.key) → done.length < cs.length → G done H → YC Tryz.prog y [.av (.arr 32 5) (encD k)] H fun r H' => r = .av .bool (.b true) ∧ G (done ++ [k]) H') :
    ∀ H, G [] H → ACalls Tryz.prog 77 [.av .func (.yl y), .av .ptr (.ptr c MpT [])] ((c, mbO M) :: (M, .raw (.map en ck) i0 w1) :: H)
      fun r H' => r = .tup [] ∧ ∃ done H1 it o, done.Perm (cs.map (·.key)) ∧ G done H1 ∧ H' = (it, o) :: (c, mbO M) :: (M, .raw (.map en ck) i0 w1) :: H1 := by
  intro H hG
  have hMc : ¬ M = c := fun e => hcM e.symm
  refine ACalls.of_vc laid mixed Tryz.func77 rfl (by kernel_rfl) cf0 (by simp [Tryz.ntmps77]) fun imm0 w0 => ?_
  (simp (maxSteps := 2000000) (disch := first | omega | assumption) [zz, -List.reduceReplicate, mbO, hcM, hMc])
  intro it hit hiM _
  have hit' : ¬ c = it := fun e => hit e.symm
  have hiM' : ¬ M = it := fun e => hiM e.symm
  have hsz : en.size = cs.length := by have := EntsRel_len hop.ents; simpa using this.symm
  refine AT.loop' (α := List Nat × Heap) (fun p => St.of [(0, .av .func (.yl y)), (1, .av .ptr (.ptr c MpT [])), (5, .av .ptr (.ptr it .other []))] [] (fun _ => 0) ((it, .raw (.mapIter (some M) ck (seenOf en p.1) ck) (fun _ => 0) default) :: (c, mbO M) :: (M, .raw (.map en ck) i0 w1) :: p.2))
    (fun p => p.1.Nodup ∧ (∀ i ∈ p.1, i < en.size) ∧ G (keysAt (cs.map (·.key)) p.1) p.2) (fun p => en.size - p.1.length) ([], H) ?_ ?_ ?_
  · refine Le.of ?_ ?_ ?_ ?_ ?_ <;> simp [leTV, locsIn, mbO, seenOf] <;> try omega
  · exact ⟨List.nodup_nil, by simp, hG⟩
  rintro ⟨ids, H1⟩ ⟨hnd, hlt, hG1⟩ KL hN hE
  simp only at hnd hlt hG1
  refine vc_sound (cf := cf0) laid mixed _ _ _ (by kernel_rfl) ?_
  (simp (maxSteps := 2000000) (disch := first | omega | assumption) [zz, -List.reduceReplicate, mbO, hit, hiM, hit', hiM', hcM, hMc, nextMV])
  refine ⟨30, 22, cs.map celE, hop, fun hall => ?_, fun i me u v hi hns hes => ?_⟩
  · refine hE _ _ (by simp) ?_
    have hperm : (keysAt (cs.map (·.key)) ids).Perm (cs.map (·.key)) := by
      refine keysAt_perm hnd (fun i hi => by have := hlt i hi; simpa [hsz] using this) fun i hi => ?_
      have hi' : i < en.size := by simpa [hsz] using hi
      exact (seenOf_mem hop.st hlt (Array.getElem?_eq_getElem hi')).1 (hall i _ (Array.getElem?_eq_getElem hi'))
    have hH := hGe _ _ hG1
    (simp (maxSteps := 2000000) (disch := first | omega | assumption) [zz, -List.reduceReplicate, Tryz.f77, hH, HObj.er])
    exact ⟨_, hperm, hG1⟩
  · have hil : i < en.size := (Array.getElem?_eq_some_iff.1 hi).1
    have hni : i ∉ ids := fun h => hns ((seenOf_mem hop.st hlt hi).2 h)
    have hic : i < cs.length := by omega
    have hu : u = encD cs[i].key := by
      rw [List.getElem?_map, List.getElem?_eq_getElem hic] at hes
      have := Option.some.inj hes
      exact (congrArg Prod.fst this).symm
    subst hu
    rw [seenOf_push en ids hi]
    refine ⟨30, 22, cs.map celE, hop, i, me, hi, encD cs[i].key, v, hes, rfl, ?_⟩
    (simp (maxSteps := 2000000) (disch := first | omega | assumption) [zz, -List.reduceReplicate])
    have hkm : cs[i].key ∈ cs.map (·.key) := List.mem_map.2 ⟨cs[i], List.getElem_mem hic, rfl⟩
    have hGn : keysAt (cs.map (·.key)) (ids ++ [i]) = keysAt (cs.map (·.key)) ids ++ [cs[i].key] := by
      simp [keysAt, List.getElem?_eq_getElem hic]
    have hnd2 : (ids ++ [i]).Nodup := List.nodup_append.2 ⟨hnd, by simp, fun a ha b hb e => by simp only [List.mem_singleton] at hb; subst hb; exact hni (e ▸ ha)⟩
    have hlt2 : ∀ k ∈ ids ++ [i], k < en.size := fun k hk => by
      rcases List.mem_append.1 hk with h | h
      · exact hlt k h
      · simp only [List.mem_singleton] at h; omega
    have hle2 := nodup_len en.size _ hnd2 hlt2
    refine callV_yield (R := fun r H' => r = .av .bool (.b true) ∧ G (keysAt (cs.map (·.key)) (ids ++ [i])) H') H1 [(it, .raw (.mapIter (some M) ck (seenOf en (ids ++ [i])) ck) (fun _ => 0) default), (c, mbO M), (M, .raw (.map en ck) i0 w1)] (List.perm_append_comm (l₁ := [_, _, _])) (by simp [argOK]) ?_ ?_
    · rw [hGe _ _ hG1, hGn]
      have := hY _ _ _ hkm (by simp only [keysAt, List.length_map]; simp at hle2; omega) hG1
      simpa [TV.er] using this
    rintro r H2 ⟨rfl, hG2⟩ _
    refine ⟨(it, .raw (.mapIter (some M) ck (seenOf en (ids ++ [i])) ck) (fun _ => 0) default) :: (c, mbO M) :: (M, .raw (.map en ck) i0 w1) :: H2, HSub.of_perm (List.perm_append_comm (l₂ := [_, _, _])), ?_⟩
    (simp (maxSteps := 2000000) (disch := first | omega | assumption) [zz, -List.reduceReplicate])
    refine hN _ (ids ++ [i], H2) ?_ ⟨hnd2, hlt2, hG2⟩ (by simp at hle2 ⊢; omega)
    refine Le.of ?_ ?_ ?_ ?_ ?_ <;> simp [leTV, locsIn, mbO] <;> try omega
theorem keys1_ok {G : List Dig → Heap → Prop} (y c M : Nat) (hcM : c ≠ M) (cs : List Cel) (hGe : ∀ done H, G done H → H.er = H)
    (hY : ∀ done (k : Dig) H, k ∈ cs.map (·.key) → done.length < cs.length → G done H → YC Tryz.prog y [.av (.arr 32 5) (encD k)] H fun r H' => r = .av .bool (.b true) ∧ G (done ++ [k]) H') (H : Heap) (hG : G [] H) :
    ACalls Tryz.prog 77 [.av .func (.yl y), .av .ptr (.ptr c MpT [])] ((M, mpO (cs.map celE)) :: (c, mbO M) :: H)
      fun r H' => r = .tup [] ∧ ∃ done H1, done.Perm (cs.map (·.key)) ∧ G done H1 ∧ H' = (M, mpO (cs.map celE)) :: (c, mbO M) :: H1 := by
  refine ACalls.openMap fun en ck i0 w1 hop => ?_
  refine ACalls.conv (R := fun r H' => r = .tup [] ∧ ∃ done H1, done.Perm (cs.map (·.key)) ∧ G done H1 ∧ H' = (M, .raw (.map en ck) i0 w1) :: (c, mbO M) :: H1) ?_ ?_
  · refine ACalls.sub (((keys1_raw y c M hcM cs en ck i0 w1 hop hGe hY H hG)).perm (List.Perm.swap _ _ _)) ?_
    rintro r H' ⟨rfl, done, H1, it, o, hp, hg, rfl⟩ _
    exact ⟨_, ⟨_, List.Perm.cons _ (List.Perm.swap _ _ _), (List.Sublist.refl _).cons _⟩, rfl, done, H1, hp, hg, rfl⟩
  · rintro r H' ⟨rfl, done, H1, hp, hg, rfl⟩
    exact ⟨(M, mpO (cs.map celE)) :: (c, mbO M) :: H1, fun b hb => hb, fun imm w h => h.shutMap hop, rfl, done, H1, hp, hg, rfl⟩
end Go.Proofs.YthdgnfnalimcnaaGreatDoor
end
section
set_option maxRecDepth 100000
/-! A map's keys, in a row. -/
namespace Go.Proofs.YthdgnfnalimcnaaGreatDoor
open Go Go.Ab
open Classical
variable [Sel]

@[simp] theorem fnok96 : fnOK Tryz.prog 96 = true := by kernel_rfl
@[simp] theorem isne96 : isNE Tryz.prog (.func 96) = false := isNE_func fnok96
@[simp] theorem fnok75 : fnOK Tryz.prog 75 = true := by kernel_rfl
@[simp] theorem isne75 : isNE Tryz.prog (.func 75) = false := isNE_func fnok75
abbrev DgS : TyD := .slice 30
noncomputable def kRow (cap : Nat) (ks : List Dig) (j : List AV) : HObj := .var (.arr cap 30) (.agg (ks.map encD ++ j))
def kG (y b2 : Nat) (done : List Dig) (H : Heap) : Prop :=
  (done = [] ∧ H = [(b2, .var DgS .nsl)]) ∨ ∃ b cap j, JK j ∧ b ≠ b2 ∧ b ≠ y ∧ done.length + j.length = cap ∧ H = [(b2, .var DgS (.msl b 30 0 done.length cap)), (b, kRow cap done j)]
def kR (ks : List Dig) (rest : Heap) (r : TV) (H' : Heap) : Prop :=
  ∃ done, done.Perm ks ∧ ((done = [] ∧ r = .av DgS .nsl ∧ H' = rest) ∨ ∃ b cap j, JK j ∧ done.length + j.length = cap ∧ r = .av DgS (.msl b 30 0 done.length cap) ∧ H' = (b, kRow cap done j) :: rest)
theorem kRow_er {cap : Nat} {ks : List Dig} {j : List AV} (h : JK j) : (kRow cap ks j).er = kRow cap ks j := by
  simp only [kRow, HObj.er_var, AV.erk, erks_app']
  rw [show AV.erks j = j from h]
  congr 3
  simp [AV.erks_eq, Function.comp_def]
theorem kG_er {y b2 : Nat} {done : List Dig} {H : Heap} (h : kG y b2 done H) : H.er = H := by
  rcases h with ⟨_, rfl⟩ | ⟨b, cap, j, hj, _, _, _, rfl⟩
  · rfl
  · rw [Heap.er_cons, Heap.er_cons, kRow_er hj]; rfl
def zD : AV := .agg (List.replicate 32 (.i .u8 0))
theorem JK_zD (n : Nat) : JK (List.replicate n zD) := by
  unfold JK; rw [AV.erks_eq, List.map_replicate]; congr 1
theorem JK_encD (l : List Dig) : JK (l.map encD) := by
  unfold JK; simp [AV.erks_eq, Function.comp_def]
theorem YC_sub {P : Program} {l : Nat} {args : List TV} {H : Heap} {R R' : TV → Heap → Prop} (h : YC P l args H R) (hr : ∀ r H', R r H' → H'.keys.Nodup → ∃ H'' : Heap, Ab.HSub H'' H' ∧ R' r H'') : YC P l args H R' := by
  intro imm w vs h1 h2
  obtain ⟨f, tmps, as', bo, h3, h4⟩ := h imm w vs h1 h2
  refine ⟨f, tmps, as', bo, h3, RoundIn.mono h4 ?_⟩
  rintro e w' ⟨v, r, imm', H', a, b, c, d, st⟩
  obtain ⟨H'', hs, hR⟩ := hr _ _ b d.nodup
  exact ⟨v, r, imm', H'', a, hR, c, ⟨d.imm, hs.nodup d.nodup, fun b o ho => d.obj b o (hs.subset ho), d.tab⟩, ⟨st.os, st.tape, st.output, st.size, st.frame, st.imm, st.kept, fun b hb => st.dom b (hs.keys hb), st.drawn⟩⟩
abbrev cfAs : Cfg := ⟨fun n => n == 2, fun _ => false⟩
set_option maxHeartbeats 8000000 in
theorem appendSeq_ok (c M : Nat) (hcM : c ≠ M) (cs : List Cel) (hlen : cs.length ≤ 1000) :
    ACalls Tryz.prog 96 [.av DgS .nsl, .av .func (.fn 77 [.ptr c MpT []])] [(M, mpO (cs.map celE)), (c, mbO M)]
      (kR (cs.map (·.key)) [(M, mpO (cs.map celE)), (c, mbO M)]) := by
  have hek := EK_cel cs
  unfold EK at hek
  refine ACalls.sub (R := fun r H' => ∃ H2, Ab.HSub H2 H' ∧ kR (cs.map (·.key)) [(M, mpO (cs.map celE)), (c, mbO M)] r H2) ?_ fun r H' ⟨H2, h1, h2⟩ _ => ⟨H2, h1, h2⟩
  refine ACalls.of_vc laid mixed Tryz.func96 rfl (by kernel_rfl) cfAs (by simp [Tryz.ntmps96]) fun imm0 w0 => ?_
  (simp (maxSteps := 2000000) (disch := first | omega | assumption) [zz, -List.reduceReplicate])
  intro b2 h1 h2
  have h1' : ¬ M = b2 := fun e => h1 e.symm
  have h2' : ¬ c = b2 := fun e => h2 e.symm
  refine AT.range (gf := 77) rfl rfl rfl (by simp) ?_
  intro y D r i0 w1 hy hrec hready hpend hpar has hbo
  simp at hy
  obtain ⟨hy2, hyM, hyc⟩ := hy
  have hy2' : ¬ b2 = y := fun e => hy2 e.symm
  refine ⟨[(M, mpO (cs.map celE)), (c, mbO M), (y, .lrec r i0 w1), (b2, .var DgS .nsl)], [], fun t H' => t = .tup [] ∧ ∃ done H1, done.Perm (cs.map (·.key)) ∧ (∃ H2, H1 = (y, .lrec r i0 w1) :: H2 ∧ kG y b2 done H2) ∧ H' = (M, mpO (cs.map celE)) :: (c, mbO M) :: H1, ?_, ?_, ?_⟩
  · rw [List.append_nil]
    exact (List.perm_append_comm (l₁ := [_, _]) (l₂ := [_, _])).trans (List.Perm.refl _)
  · have he : Heap.er [(M, mpO (cs.map celE)), (c, mbO M), (y, .lrec r i0 w1), (b2, .var DgS .nsl)] = [(M, mpO (cs.map celE)), (c, mbO M), (y, .lrec r i0 w1), (b2, .var DgS .nsl)] := by
      have : (mpO (cs.map celE)).er = mpO (cs.map celE) := by simp only [mpO, HObj.er_map, hek]
      simp only [Heap.er_cons, Heap.er_nil, this]; rfl
    rw [he]
    refine keys1_ok (G := fun done H => ∃ H2, H = (y, .lrec r i0 w1) :: H2 ∧ kG y b2 done H2) y c M hcM cs ?_ ?_ _ ⟨_, rfl, .inl ⟨rfl, rfl⟩⟩
    · rintro done H ⟨H2, rfl, hg⟩
      rw [Heap.er_cons, kG_er hg]; rfl
    · rintro done k H hk hdl ⟨H2, rfl, hg⟩
      have hrd := YC.of_round (l := y) hrec hready (args := [.av (.arr 32 5) (encD k)]) (H := H2) (R := fun rr H' => rr = .av .bool (.b true) ∧ ∃ H3, Ab.HSub ((y, .lrec r i0 w1) :: H3) H' ∧ kG y b2 (done ++ [k]) H3) (by rw [hpar]; rfl) (by rw [hpar]; simp) (fun imm w => ?_)
      · exact YC_sub hrd fun rr H' ⟨e1, H3, e2, e3⟩ _ => ⟨_, e2, e1, H3, rfl, e3⟩
      rw [has, hbo, hpar]
      refine vc_sound (cf := cfAs) laid mixed _ _ _ (by kernel_rfl) ?_
      (simp (maxSteps := 2000000) (disch := first | omega | assumption) [zz, -List.reduceReplicate, roundS, withArgs, rdTV])
      refine vc_sound (cf := cfAs) laid mixed _ _ _ (by kernel_rfl) ?_
      have hrl : ∀ (p : Array Nat) (a b : Code), p = r.params → a = r.assign → b = r.body → ({ state := .ready, pending := none, fn := r.fn, tmps := r.tmps, params := p, assign := a, body := b, defers := r.defers } : Loop) = r := by
        rintro _ _ _ rfl rfl rfl; exact ready_eta hready hpend
      have her : ∀ r', (HObj.lrec r' i0 w1).er = HObj.lrec r' i0 w1 := fun _ => rfl
      rcases hg with ⟨rfl, rfl⟩ | ⟨b, cap, j, hj, hbb, hby, hcap, rfl⟩
      · (simp (maxSteps := 2000000) (disch := first | omega | assumption) [zz, -List.reduceReplicate, hy2, hy2'])
        intro b' cap' hb1 hb2 hc
        have hb1' : ¬ y = b' := fun e => hb1 e.symm
        have hb2' : ¬ b2 = b' := fun e => hb2 e.symm
        (simp (maxSteps := 2000000) (disch := first | omega | assumption) [zz, -List.reduceReplicate, hy2, hy2', hb1, hb2, hb1', hb2', KBody, KEnd])
        rw [her, hrl _ _ _ hpar.symm has.symm hbo.symm]
        refine ⟨[(b2, .var DgS (.msl b' 30 0 1 cap')), (b', kRow cap' [k] (List.replicate (cap' - 1) zD))], HSub.of_perm ?_, .inr ⟨b', cap', _, JK_zD _, hb2, hb1, by simp; omega, rfl⟩⟩
        have := JK_zD (cap' - 1)
        unfold JK zD at this
        rw [this]
        exact List.perm_append_comm (l₁ := [_]) (l₂ := [_, _])
      · have hbb' : ¬ b2 = b := fun e => hbb e.symm
        have hby' : ¬ y = b := fun e => hby e.symm
        (simp (maxSteps := 2000000) (disch := first | omega | assumption) [zz, -List.reduceReplicate, hy2, hy2', hbb, hbb', hby, hby', kRow])
        refine ⟨by omega, ⟨by omega, by omega⟩, fun hc => ?_, fun hc b' cap' hb1 hb2 hb3 hc' => ?_⟩
        · (simp (maxSteps := 2000000) (disch := first | omega | assumption) [zz, -List.reduceReplicate, hy2, hy2', hbb, hbb', hby, hby', KBody, KEnd])
          rw [her, hrl _ _ _ hpar.symm has.symm hbo.symm]
          have h2 : (done.map encD ++ j).take done.length ++ encD k :: (done.map encD ++ j).drop (done.length + 1) = (done ++ [k]).map encD ++ j.drop 1 := by
            have e1 : (done.map encD ++ j).take done.length = done.map encD := by rw [List.take_append_of_le_length (by simp)]; exact List.take_of_length_le (by simp)
            have e2 : (done.map encD ++ j).drop (done.length + 1) = j.drop 1 := by
              rw [List.drop_append, List.drop_of_length_le (by simp)]; simp
            rw [e1, e2]; simp
          have h3 := (JK_encD (done ++ [k])).app (hj.drop 1)
          unfold JK at h3
          rw [h2, h3]
          refine ⟨[(b2, .var DgS (.msl b 30 0 (done.length + 1) cap)), (b, kRow cap (done ++ [k]) (j.drop 1))], HSub.refl _, .inr ⟨b, cap, _, hj.drop 1, hbb, hby, by simp; omega, by simp⟩⟩
        · have hb1' : ¬ y = b' := fun e => hb1 e.symm
          have hb2' : ¬ b2 = b' := fun e => hb2 e.symm
          have hb3' : ¬ b = b' := fun e => hb3 e.symm
          (simp (maxSteps := 2000000) (disch := first | omega | assumption) [zz, -List.reduceReplicate, hy2, hy2', hbb, hbb', hby, hby', hb1, hb2, hb3, hb1', hb2', hb3', KBody, KEnd])
          rw [her, hrl _ _ _ hpar.symm has.symm hbo.symm]
          have h2 : (done.map encD ++ j).take done.length ++ encD k :: List.replicate (cap' - (done.length + 1)) zD = (done ++ [k]).map encD ++ List.replicate (cap' - (done.length + 1)) zD := by
            have e1 : (done.map encD ++ j).take done.length = done.map encD := by rw [List.take_append_of_le_length (by simp)]; exact List.take_of_length_le (by simp)
            rw [e1]; simp
          have h3 := (JK_encD (done ++ [k])).app (JK_zD (cap' - (done.length + 1)))
          unfold JK at h3
          unfold zD at h2 h3
          rw [h2, h3]
          refine ⟨[(b2, .var DgS (.msl b' 30 0 (done.length + 1) cap')), (b', kRow cap' (done ++ [k]) (List.replicate (cap' - (done.length + 1)) zD))], ⟨_, List.perm_append_comm (l₁ := [_]) (l₂ := [_, _, _]), ?_⟩, .inr ⟨b', cap', List.replicate (cap' - (done.length + 1)) zD, JK_zD _, hb2, hb1, by simp; omega, by simp⟩⟩
          exact ((((List.nil_sublist _).cons_cons _).cons _).cons_cons _).cons_cons _
  · rintro t H' ⟨rfl, done, H1, hp, ⟨H2, rfl, hg⟩, rfl⟩ hnd
    refine ⟨r, (M, mpO (cs.map celE)) :: (c, mbO M) :: H2, HSub.of_perm (by rw [List.append_nil]; exact List.perm_middle (l₁ := [_, _])), by rw [hready]; simp, ?_⟩
    rw [hpend]
    have hme : (mpO (cs.map celE)).er = mpO (cs.map celE) := by simp only [mpO, HObj.er_map, hek]
    have hmb : (mbO M).er = mbO M := rfl
    rcases hg with ⟨rfl, rfl⟩ | ⟨b, cap, j, hj, hbb, hby, hcap, rfl⟩
    · (simp (maxSteps := 2000000) (disch := first | omega | assumption) [zz, -List.reduceReplicate, KJump, h1', h2', hme, hmb, Tryz.f96])
      exact ⟨[(M, mpO (cs.map celE)), (c, mbO M)], HSub.of_sub (((List.nil_sublist _).cons_cons _).cons_cons _), [], hp, .inl ⟨rfl, rfl, rfl⟩⟩
    · have hkr := kRow_er (cap := cap) (ks := done) hj
      (simp (maxSteps := 2000000) (disch := first | omega | assumption) [zz, -List.reduceReplicate, KJump, h1', h2', hme, hmb, hkr, Tryz.f96])
      exact ⟨(b, kRow cap done j) :: [(M, mpO (cs.map celE)), (c, mbO M)], ⟨_, List.perm_append_comm (l₁ := [_, _, _]) (l₂ := [_]), (((List.nil_sublist _).cons_cons _).cons_cons _).cons_cons _⟩, done, hp, .inr ⟨b, cap, j, hj, hcap, rfl, rfl⟩⟩
theorem ACalls.argNil {P : Program} {f : FuncId} {e : TypeId} {args : List TV} {H : Heap} {R : TV → Heap → Prop} (h : ACalls P f (.av (.slice e) .nsl :: args) H R) : ACalls P f (.cst (.slice none 0 0) :: args) H R := by
  intro imm w vs h1 h2
  refine h imm w vs h1 ?_
  obtain ⟨vs⟩ := vs
  match vs, h2 with
  | v :: r, ⟨e1, e2⟩ =>
    have e1' : v = .slice none 0 0 := e1
    subst e1'
    exact ⟨⟨rfl, by simp [VC, Value.cells]⟩, e2⟩
theorem collect_ok (c M : Nat) (hcM : c ≠ M) (cs : List Cel) (hlen : cs.length ≤ 1000) :
    ACalls Tryz.prog 75 [.av .func (.fn 77 [.ptr c MpT []])] [(M, mpO (cs.map celE)), (c, mbO M)]
      (kR (cs.map (·.key)) [(M, mpO (cs.map celE)), (c, mbO M)]) := by
  have hek := EK_cel cs
  unfold EK at hek
  have hme : (mpO (cs.map celE)).er = mpO (cs.map celE) := by simp only [mpO, HObj.er_map, hek]
  have hmb : (mbO M).er = mbO M := rfl
  refine ACalls.of_vc laid mixed Tryz.func75 rfl (by kernel_rfl) cf0 (by simp [Tryz.ntmps75]) fun imm0 w0 => ?_
  (simp (maxSteps := 2000000) (disch := first | omega | assumption) [zz, -List.reduceReplicate])
  refine callV_all (R := kR (cs.map (·.key)) [(M, mpO (cs.map celE)), (c, mbO M)]) rfl (by simp [argOK]) (by simp) ?_ ?_
  · have := ACalls.argNil (appendSeq_ok c M hcM cs hlen)
    simpa [TV.er, AV.er, AV.ers, Heap.er_cons, Heap.er_nil, hme, hmb] using this
  rintro r' H' ⟨done, hp, ⟨rfl, rfl, rfl⟩ | ⟨b, cap, j, hj, hcap, rfl, rfl⟩⟩
  · (simp (maxSteps := 2000000) (disch := first | omega | assumption) [zz, -List.reduceReplicate, hme, hmb, Tryz.f75])
    exact ⟨[], hp, .inl ⟨rfl, rfl, rfl⟩⟩
  · have hkr := kRow_er (cap := cap) (ks := done) hj
    (simp (maxSteps := 2000000) (disch := first | omega | assumption) [zz, -List.reduceReplicate, hme, hmb, hkr, Tryz.f75])
    exact ⟨done, hp, .inr ⟨b, cap, j, hj, hcap, rfl, rfl⟩⟩
end Go.Proofs.YthdgnfnalimcnaaGreatDoor
end
