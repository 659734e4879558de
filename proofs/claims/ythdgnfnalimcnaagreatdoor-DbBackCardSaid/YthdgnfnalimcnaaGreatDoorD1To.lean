/- A key's row of traces: found, taken out, put in front. No condition beyond each theorem's own. -/
import Derived.Test.YthdgnfnalimcnaaGreatDoorP13ToP14
set_option linter.unusedSimpArgs false
set_option linter.unusedVariables false
set_option linter.unusedSectionVars false
section
set_option maxRecDepth 100000
/-! A key's row of traces: found, taken out, put in front. -/
namespace Go.Proofs.YthdgnfnalimcnaaGreatDoor
open Go Go.Ab
open Classical
variable [Sel]

@[simp] theorem fnok29 : fnOK Tryz.prog 29 = true := by kernel_rfl
@[simp] theorem isne29 : isNE Tryz.prog (.func 29) = false := isNE_func fnok29
@[simp] theorem fnok56 : fnOK Tryz.prog 56 = true := by kernel_rfl
@[simp] theorem isne56 : isNE Tryz.prog (.func 56) = false := isNE_func fnok56
@[simp] theorem fnok28 : fnOK Tryz.prog 28 = true := by kernel_rfl
@[simp] theorem isne28 : isNE Tryz.prog (.func 28) = false := isNE_func fnok28
@[simp] theorem fnok31 : fnOK Tryz.prog 31 = true := by kernel_rfl
@[simp] theorem isne31 : isNE Tryz.prog (.func 31) = false := isNE_func fnok31
@[simp] theorem fnok32 : fnOK Tryz.prog 32 = true := by kernel_rfl
@[simp] theorem isne32 : isNE Tryz.prog (.func 32) = false := isNE_func fnok32
@[simp] theorem fnok42 : fnOK Tryz.prog 42 = true := by kernel_rfl
@[simp] theorem isne42 : isNE Tryz.prog (.func 42) = false := isNE_func fnok42
@[simp] theorem fnok61 : fnOK Tryz.prog 61 = true := by kernel_rfl
@[simp] theorem isne61 : isNE Tryz.prog (.func 61) = false := isNE_func fnok61
@[simp] theorem fnok62 : fnOK Tryz.prog 62 = true := by kernel_rfl
@[simp] theorem isne62 : isNE Tryz.prog (.func 62) = false := isNE_func fnok62
def trs (l : List Trace) : List AV := l.map encTrace
@[simp] theorem trs_length (l : List Trace) : (trs l).length = l.length := by simp [trs]
@[simp] theorem ers_trs (l : List Trace) : AV.ers (trs l) = trs l := by simp [trs, AV.ers_eq, Function.comp_def]
@[simp] theorem erks_trs (l : List Trace) : AV.erks (trs l) = trs l := by simp [trs, AV.erks_eq, Function.comp_def]
theorem erks_app' (a b : List AV) : AV.erks (a ++ b) = AV.erks a ++ AV.erks b := by simp [AV.erks_eq]
theorem trs_app (a b : List Trace) : trs (a ++ b) = trs a ++ trs b := by simp [trs]
theorem trs_get (l : List Trace) (k : Nat) (h : k < l.length) : (trs l)[k]? = some (encTrace l[k]) := by simp [trs, List.getElem?_eq_getElem h]
theorem trs_getJ (l : List Trace) (j : List AV) (k : Nat) (h : k < l.length) : (trs l ++ j)[k]? = some (encTrace l[k]) := by
  rw [List.getElem?_append_left (by simpa using h), trs_get l k h]
def JK (j : List AV) : Prop := AV.erks j = j
theorem JK.app {a b : List AV} (ha : JK a) (hb : JK b) : JK (a ++ b) := by unfold JK at *; rw [erks_app', ha, hb]
theorem JK.nil : JK [] := rfl
theorem JK.trs (l : List Trace) : JK (trs l) := erks_trs l
theorem JK.take {a : List AV} (h : JK a) (n : Nat) : JK (a.take n) := by
  unfold JK at *; rw [AV.erks_eq] at *; rw [List.map_take, h]
theorem JK.drop {a : List AV} (h : JK a) (n : Nat) : JK (a.drop n) := by
  unfold JK at *; rw [AV.erks_eq] at *; rw [List.map_drop, h]
def tr0A : AV := .agg [.agg (List.replicate 32 (.i .u8 0)), .sl .full [], .sl .full []]
theorem JK.zeros (n : Nat) : JK (List.replicate n tr0A) := by
  unfold JK; rw [AV.erks_eq, List.map_replicate]
  congr 1
noncomputable def rowO (cap : Nat) (ts : List Trace) (j : List AV) : HObj := .var (.arr cap 34) (.agg (trs ts ++ j))
theorem rowO_er {cap : Nat} {ts : List Trace} {j : List AV} (h : JK j) : (rowO cap ts j).er = rowO cap ts j := by
  simp only [rowO, HObj.er_var, AV.erk, erks_app', erks_trs]
  rw [show AV.erks j = j from h]
abbrev TrT : TyD := .struct [30, 31, 32]
noncomputable abbrev capF (bt : Nat) : AV := .fn 29 [.ptr bt TrT []]
noncomputable def tvO (t : Trace) : HObj := .var TrT (encTrace t)
theorem add1_ok (x t : Trace) (hx : TrOK x) (ht : TrOK t) (bt : Nat) : ACalls Tryz.prog 29 [.av (tyOf Tryz.prog 34) (encTrace x), .av .ptr (.ptr bt TrT [])] [(bt, tvO t)]
    fun r H' => r = .av .bool (.b (sameV x t)) ∧ H' = [(bt, tvO t)] := by
  refine ACalls.of_vc laid mixed Tryz.func29 rfl (by kernel_rfl) cf0 (by simp [Tryz.ntmps29]) fun imm0 w0 => ?_
  (simp (maxSteps := 2000000) (disch := first | omega | assumption) [zz, tvO])
  refine callV_pc (same_ok x t hx ht) rfl rfl (by simp) (by simp [argLe, TV.er]) ?_
  (simp (maxSteps := 2000000) (disch := first | omega | assumption) [zz, Tryz.f29])
theorem idxTr_ok (ts : List Trace) (t : Trace) (hts : ∀ x ∈ ts, TrOK x) (ht : TrOK t) (b bt cap : Nat) (j : List AV) (hj : JK j) (hb : b ≠ bt) (hcap : ts.length + j.length = cap) (hn : ts.length ≤ 1000) :
    ACalls Tryz.prog 56 [.av (.slice 34) (.msl b 34 0 ts.length cap), .av .func (capF bt)] [(b, rowO cap ts j), (bt, tvO t)]
      fun r H' => r = .av (.int .i64) (.i .i64 (idxOf (fun x => sameV x t) ts)) ∧ H' = [(b, rowO cap ts j), (bt, tvO t)] := by
  refine ACalls.of_vc laid mixed Tryz.func56 rfl (by kernel_rfl) cf0 (by simp [Tryz.ntmps56]) fun imm0 w0 => ?_
  (simp (maxSteps := 2000000) (disch := first | omega | assumption) [zz])
  refine AT.loop' (α := Nat) (fun k => St.of [(0, .av (.slice 34) (.msl b 34 0 ts.length cap)), (1, .av .func (capF bt)), (7, .av (.int .i64) (.i .i64 ts.length)), (8, .av (.int .i64) (.i .i64 k))] [] (fun _ => 0) [(b, rowO cap ts j), (bt, tvO t)])
    (fun k => k ≤ ts.length ∧ ∀ x ∈ ts.take k, sameV x t = false) (fun k => ts.length - k) 0 ?_ ?_ ?_
  · refine Le.of ?_ ?_ ?_ ?_ ?_ <;> simp [leTV, locsIn, encDigs, encTraces, encWant, encTrace, encReads, encRead, encMades, encMade, lk_nil] <;> try omega
  · simp
  rintro k ⟨hk', hpk⟩ KL hN hE
  refine vc_sound (cf := cf0) laid mixed _ _ _ (by kernel_rfl) ?_
  by_cases hlt : k < ts.length
  · have hlt' : (k : Int) < ts.length := by omega
    have hg := trs_getJ ts j k hlt
    (simp (maxSteps := 2000000) (disch := first | omega | assumption) [zz, hlt', rowO, hg])
    (repeat ((with_reducible refine And.intro ?_ ?_); (· first | omega | (show barB _ _ = true; kernel_rfl) | (show rdJ _ _ _ _ _ = true; kernel_rfl) | (show tailB _ _ _ = true; kernel_rfl) | (show sftB _ _ _ = true; kernel_rfl))))
    refine callV_sub (R := fun r' H' => r' = .av .bool (.b (sameV ts[k] t)) ∧ H' = [(bt, tvO t)]) [(bt, tvO t)] [(b, rowO cap ts j)] (List.Perm.swap _ _ _) rfl (by simp [argOK]) (by simp) ?_ ?_
    · have := add1_ok ts[k] t (hts _ (List.getElem_mem hlt)) ht bt
      simpa [TV.er, AV.er, tvO] using this
    rintro r' H' ⟨rfl, rfl⟩ _
    refine ⟨[(b, rowO cap ts j), (bt, tvO t)], HSub.of_perm (List.Perm.swap _ _ _), ?_⟩
    by_cases hp : sameV ts[k] t = true
    · (simp (maxSteps := 2000000) (disch := first | omega | assumption) [zz, hp])
      refine hE _ _ (by simp) ?_
      (simp (maxSteps := 2000000) (disch := first | omega | assumption) [zz, Tryz.f56, idxOf_hit hlt hpk hp, rowO_er hj, tvO])
    · (simp (maxSteps := 2000000) (disch := first | omega | assumption) [zz, hp])
      refine hN _ (k+1) ?_ ⟨by omega, by rw [take_succ_all hlt]; exact ⟨hpk, by simpa using hp⟩⟩ (by omega)
      refine Le.of ?_ ?_ ?_ ?_ ?_ <;> simp [leTV, locsIn, encDigs, encTraces, encWant, encTrace, encReads, encRead, encMades, encMade, lk_nil] <;> try omega
  · have hlt' : ¬ (k : Int) < ts.length := by omega
    (simp (maxSteps := 2000000) (disch := first | omega | assumption) [zz, hlt'])
    refine hE _ _ (by simp) ?_
    rw [List.take_of_length_le (by omega)] at hpk
    (simp (maxSteps := 2000000) (disch := first | omega | assumption) [zz, Tryz.f56, idxOf_miss hpk, rowO_er hj, tvO])
theorem idxNil_ok (t : Trace) (bt : Nat) :
    ACalls Tryz.prog 56 [.av (.slice 34) .nsl, .av .func (capF bt)] [(bt, tvO t)]
      fun r H' => r = .av (.int .i64) (.i .i64 (-1)) ∧ H' = [(bt, tvO t)] := by
  refine ACalls.of_vc laid mixed Tryz.func56 rfl (by kernel_rfl) cf0 (by simp [Tryz.ntmps56]) fun imm0 w0 => ?_
  (simp (maxSteps := 2000000) (disch := first | omega | assumption) [zz])
  refine AT.loop' (α := Nat) (fun k => St.of [(0, .av (.slice 34) .nsl), (1, .av .func (capF bt)), (7, .av (.int .i64) (.i .i64 0)), (8, .av (.int .i64) (.i .i64 0))] [] (fun _ => 0) [(bt, tvO t)])
    (fun k => True) (fun k => 0) 0 ?_ ?_ ?_
  · refine Le.of ?_ ?_ ?_ ?_ ?_ <;> simp [leTV, locsIn, encDigs, encTraces, encWant, encTrace, encReads, encRead, encMades, encMade, lk_nil] <;> try omega
  · simp
  rintro k - KL hN hE
  refine vc_sound (cf := cf0) laid mixed _ _ _ (by kernel_rfl) ?_
  (simp (maxSteps := 2000000) (disch := first | omega | assumption) [zz])
  refine hE _ _ (by simp) ?_
  (simp (maxSteps := 2000000) (disch := first | omega | assumption) [zz, Tryz.f56, tvO])
end Go.Proofs.YthdgnfnalimcnaaGreatDoor
end
section
set_option maxRecDepth 100000
/-! Out of a row of traces: those that are the same. -/
namespace Go.Proofs.YthdgnfnalimcnaaGreatDoor
open Go Go.Ab
open Classical
variable [Sel]

def kp (t : Trace) (ts : List Trace) : List Trace := ts.filter fun x => !sameV x t
theorem kp_len (t : Trace) (ts : List Trace) : (kp t ts).length ≤ ts.length := List.length_filter_le _ _
theorem idxOf_spec {α : Type} (p : α → Bool) (xs : List α) : (idxOf p xs = -1 ∧ ∀ x ∈ xs, p x = false) ∨ ∃ (i : Nat) (h : i < xs.length), idxOf p xs = i ∧ p xs[i] = true ∧ ∀ x ∈ xs.take i, p x = false := by
  unfold idxOf
  cases h : xs.findIdx? p with
  | none =>
    left; rw [List.findIdx?_eq_none_iff] at h
    exact ⟨rfl, h⟩
  | some i =>
    right
    rw [List.findIdx?_eq_some_iff_getElem] at h
    obtain ⟨hl, hp, hn⟩ := h
    refine ⟨i, hl, rfl, hp, fun x hx => ?_⟩
    obtain ⟨q, hq, rfl⟩ := List.mem_take_iff_getElem.1 hx
    simpa using hn q (by omega)
theorem kp_all {t : Trace} {ts : List Trace} (h : ∀ x ∈ ts, sameV x t = false) : kp t ts = ts := by
  unfold kp
  rw [List.filter_eq_self]
  intro x hx; simp [h x hx]
theorem kp_take_succ {t : Trace} {ts : List Trace} {k : Nat} (h : k < ts.length) : kp t (ts.take (k+1)) = if sameV ts[k] t = true then kp t (ts.take k) else kp t (ts.take k) ++ [ts[k]] := by
  unfold kp
  rw [List.take_succ_eq_append_getElem h, List.filter_append]
  by_cases hs : sameV ts[k] t = true <;> simp [hs]
theorem set_mid (A M : List AV) (m y : AV) : (A ++ (m :: M)).set A.length y = A ++ (y :: M) := by
  rw [List.set_append_right _ _ (Nat.le_refl _)]; simp
set_option maxHeartbeats 4000000 in
theorem delTr_ok (ts : List Trace) (t : Trace) (hts : ∀ x ∈ ts, TrOK x) (ht : TrOK t) (b bt cap : Nat) (j : List AV) (hj : JK j) (hb : b ≠ bt) (hcap : ts.length + j.length = cap) (hn : ts.length ≤ 1000) :
    ACalls Tryz.prog 28 [.av (.slice 34) (.msl b 34 0 ts.length cap), .av .func (capF bt)] [(b, rowO cap ts j), (bt, tvO t)]
      fun r H' => ∃ j', JK j' ∧ (kp t ts).length + j'.length = cap ∧ r = .av (.slice 34) (.msl b 34 0 (kp t ts).length cap) ∧ H' = [(b, rowO cap (kp t ts) j'), (bt, tvO t)] := by
  have hb' : ¬ bt = b := fun e => hb e.symm
  refine ACalls.of_vc laid mixed Tryz.func28 rfl (by kernel_rfl) cf0 (by simp [Tryz.ntmps28]) fun imm0 w0 => ?_
  (simp (maxSteps := 2000000) (disch := first | omega | assumption) [zz])
  refine callV_all (R := fun r' H' => r' = .av (.int .i64) (.i .i64 (idxOf (fun x => sameV x t) ts)) ∧ H' = [(b, rowO cap ts j), (bt, tvO t)]) rfl (by simp [argOK]) (by simp) ?_ ?_
  · have := idxTr_ok ts t hts ht b bt cap j hj hb hcap hn
    simpa [TV.er, AV.er, tvO, capF, rowO_er hj] using this
  rintro r' H' ⟨rfl, rfl⟩
  rcases idxOf_spec (fun x => sameV x t) ts with ⟨he, hall⟩ | ⟨i, hi, he, hsame, hpre⟩
  · (simp (maxSteps := 2000000) (disch := first | omega | assumption) [zz, he, Tryz.f28, rowO_er hj, tvO, kp_all hall])
    exact ⟨j, hj, hcap, rfl⟩
  · have hk0 : kp t (ts.take i) = ts.take i := kp_all hpre
    have hk1 : kp t (ts.take (i+1)) = ts.take i := by rw [kp_take_succ hi, if_pos hsame, hk0]
    have hne : ¬ (i : Int) = -1 := by omega
    have hsplit : trs ts ++ j = trs (ts.take i) ++ (encTrace ts[i] :: ([] ++ (trs (ts.drop (i+1)) ++ j))) := by
      have : ts = ts.take i ++ ts[i] :: ts.drop (i+1) := by simp
      conv => lhs; rw [this]
      simp only [trs, List.map_append, List.map_cons, List.nil_append, List.append_assoc, List.cons_append]
    (simp (maxSteps := 2000000) (disch := first | omega | assumption) [zz, he, hne])
    refine AT.loop' (α := Nat × AV × List AV) (fun p => St.of [(0, .av (.slice 34) (.msl b 34 0 ts.length cap)), (1, .av .func (capF bt)), (5, .av (.int .i64) (.i .i64 (kp t (ts.take p.1)).length)), (6, .av (.int .i64) (.i .i64 p.1))] [] (fun _ => 0)
        [(b, .var (.arr cap 34) (.agg (trs (kp t (ts.take p.1)) ++ (p.2.1 :: (p.2.2 ++ (trs (ts.drop p.1) ++ j)))))), (bt, tvO t)])
      (fun p => p.1 ≤ ts.length ∧ JK (p.2.1 :: p.2.2) ∧ (kp t (ts.take p.1)).length + (p.2.2.length + 1) = p.1) (fun p => ts.length - p.1) (i+1, encTrace ts[i], []) ?_ ?_ ?_
    · have hli : (ts.take i).length = i := by rw [List.length_take]; omega
      refine Le.of ?_ ?_ ?_ ?_ ?_ <;> simp [leTV, locsIn, encDigs, encTraces, encWant, encTrace, encReads, encRead, encMades, encMade, hk1, hsplit, rowO, hli] <;> try omega
    · refine ⟨by simp only; omega, by simp [JK, AV.erks_eq], ?_⟩
      simp only [hk1, List.length_take, List.length_nil]; omega
    rintro ⟨k, m, mid⟩ ⟨hk, hjm, hlen⟩ KL hN hE
    simp only at hk hjm hlen
    obtain ⟨F, hF⟩ : ∃ F, F = kp t (ts.take k) := ⟨_, rfl⟩
    rw [← hF] at hlen
    have hnx := fun h : k < ts.length => kp_take_succ (t := t) h
    simp only [← hF] at hnx ⊢
    refine vc_sound (cf := cf0) laid mixed _ _ _ (by kernel_rfl) ?_
    by_cases hlt : k < ts.length
    · have hlt' : (k : Int) < ts.length := by omega
      have hnx := hnx hlt
      have hd : trs (ts.drop k) = encTrace ts[k] :: trs (ts.drop (k+1)) := by
        rw [List.drop_eq_getElem_cons hlt]; rfl
      have hg : (trs F ++ (m :: (mid ++ (trs (ts.drop k) ++ j))))[k]? = some (encTrace ts[k]) := by
        rw [hd, List.getElem?_append_right (by simp; omega)]
        have : k - (trs F).length = mid.length + 1 := by simp; omega
        rw [this, List.getElem?_cons_succ, List.getElem?_append_right (Nat.le_refl _)]
        simp
      have hgi : (trs F ++ (m :: (mid ++ (trs (ts.drop k) ++ j))))[F.length]? = some m := by
        rw [List.getElem?_append_right (by simp)]; simp
      have hst := set_mid (trs F) (mid ++ (trs (ts.drop k) ++ j)) m (encTrace ts[k])
      rw [trs_length] at hst
      obtain ⟨x, hx⟩ : ∃ x, x = ts[k] := ⟨_, rfl⟩
      have hxo : TrOK x := by rw [hx]; exact hts _ (List.getElem_mem hlt)
      rw [← hx] at hg hst hd hnx
      (simp (maxSteps := 2000000) (disch := first | omega | assumption) [zz, hlt', hlt, hg])
      (repeat ((with_reducible refine And.intro ?_ ?_); (· first | omega | (show barB _ _ = true; kernel_rfl) | (show rdJ _ _ _ _ _ = true; kernel_rfl) | (show tailB _ _ _ = true; kernel_rfl) | (show sftB _ _ _ = true; kernel_rfl))))
      refine callV_sub (R := fun r' H' => r' = .av .bool (.b (sameV x t)) ∧ H' = [(bt, tvO t)]) [(bt, tvO t)] _ (List.Perm.swap _ _ _) rfl (by simp [argOK]) (by simp) ?_ ?_
      · have := add1_ok x t hxo ht bt
        simpa [TV.er, AV.er, tvO] using this
      rintro r' H' ⟨rfl, rfl⟩ _
      refine ⟨_, HSub.of_perm (List.Perm.swap _ _ _), ?_⟩
      by_cases hp : sameV x t = true
      · rw [if_pos hp] at hnx
        (simp (maxSteps := 2000000) (disch := first | omega | assumption) [zz, hp])
        refine hN _ (k+1, m, mid ++ [encTrace x]) ?_ ⟨by simp only; omega, ?_, ?_⟩ (by simp only; omega)
        · refine Le.of ?_ ?_ ?_ ?_ ?_ <;> simp [leTV, locsIn, encDigs, encTraces, encWant, encTrace, encReads, encRead, encMades, encMade, hnx, hd] <;> try omega
        · simp only; rw [← List.cons_append]; exact hjm.app (by simp [JK, AV.erks_eq])
        · simp only [hnx, List.length_append, List.length_cons, List.length_nil]; omega
      · rw [if_neg hp] at hnx
        (simp (maxSteps := 2000000) (disch := first | omega | assumption) [zz, hp, hgi, hst])
        (repeat ((with_reducible refine And.intro ?_ ?_); (· first | omega | (show barB _ _ = true; kernel_rfl) | (show rdJ _ _ _ _ _ = true; kernel_rfl) | (show tailB _ _ _ = true; kernel_rfl) | (show sftB _ _ _ = true; kernel_rfl))))
        obtain ⟨m', mid', hmm⟩ : ∃ m' mid', mid ++ [encTrace x] = m' :: mid' := by cases mid with
          | nil => exact ⟨_, _, rfl⟩
          | cons a r => exact ⟨_, _, rfl⟩
        have hmm' : mid ++ (encTrace x :: (trs (ts.drop (k+1)) ++ j)) = m' :: (mid' ++ (trs (ts.drop (k+1)) ++ j)) := by
          have := congrArg (· ++ (trs (ts.drop (k+1)) ++ j)) hmm
          simpa using this
        have hml : mid'.length = mid.length := by
          have := congrArg List.length hmm
          simpa using this.symm
        have hjm' : JK (m' :: mid') := by
          rw [← hmm]
          have h1 := hjm.drop 1
          exact JK.app (by simpa using h1) (by simp [JK, AV.erks_eq])
        have heq : trs F ++ (encTrace x :: (mid ++ (trs (ts.drop k) ++ j))) = trs (F ++ [x]) ++ (m' :: (mid' ++ (trs (ts.drop (k+1)) ++ j))) := by
          rw [hd, List.cons_append, hmm', trs_app, List.append_assoc]; rfl
        refine hN _ (k+1, m', mid') ?_ ⟨by simp only; omega, hjm', ?_⟩ (by simp only; omega)
        · refine Le.of ?_ ?_ ?_ ?_ ?_ <;> simp [leTV, locsIn, hnx, heq] <;> try omega
        · simp only [hnx, List.length_append, List.length_cons, List.length_nil]; omega
    · have hlt' : ¬ (k : Int) < ts.length := by omega
      have hkn : k = ts.length := by omega
      have hFt : F = kp t ts := by rw [hF, hkn, List.take_length]
      subst hkn
      have hcf : ¬ cap = F.length := by omega
      have hdr : ts.drop ts.length = [] := by simp
      have h1 : F.length ≤ ts.length := by omega
      have h2 : ts.length ≤ cap := by omega
      have hclr : (trs F ++ (m :: (mid ++ (trs [] ++ j)))).take F.length ++ (List.replicate (ts.length - F.length) tr0A ++ (trs F ++ (m :: (mid ++ (trs [] ++ j)))).drop ts.length) = trs F ++ (List.replicate (ts.length - F.length) tr0A ++ j) := by
        have e1 : (trs F ++ (m :: (mid ++ (trs [] ++ j)))).take F.length = trs F := by
          rw [List.take_append_of_le_length (by simp)]; exact List.take_of_length_le (by simp)
        have e2 : (trs F ++ (m :: (mid ++ (trs [] ++ j)))).drop ts.length = j := by
          have e3 : ts.length = (trs F).length + (mid.length + 1) := by simp; omega
          rw [e3, List.drop_append]
          have : (trs F).length + (mid.length + 1) - (trs F).length = mid.length + 1 := by omega
          rw [this, List.drop_of_length_le (by omega), List.drop_succ_cons]
          simp [trs]
        rw [e1, e2]
      have hz : JK (List.replicate (ts.length - F.length) tr0A) := JK.zeros _
      have hlr : (List.replicate (ts.length - F.length) tr0A).length = ts.length - F.length := List.length_replicate
      have her := (JK.app (JK.trs F) (hz.app hj))
      unfold JK at her
      simp only [tr0A] at hclr her
      (simp (maxSteps := 2000000) (disch := first | omega | assumption) [zz, hlt', hdr, hcf])
      refine hE _ _ (by simp) ?_
      (simp (maxSteps := 2000000) (disch := first | omega | assumption) [zz, hcf, hclr, hdr, -List.reduceReplicate])
      (repeat ((with_reducible refine And.intro ?_ ?_); (· first | omega | (show barB _ _ = true; kernel_rfl) | (show rdJ _ _ _ _ _ = true; kernel_rfl) | (show tailB _ _ _ = true; kernel_rfl) | (show sftB _ _ _ = true; kernel_rfl))))
      (simp (maxSteps := 2000000) (disch := first | omega | assumption) [zz, Tryz.f28, -List.reduceReplicate, hclr, her])
      refine ⟨List.replicate (ts.length - F.length) tr0A ++ j, hz.app hj, ?_, by rw [hFt], ?_, ?_⟩
      · rw [List.length_append, hlr, ← hFt]; omega
      · rw [← hFt]; rfl
      · simp [tvO, HObj.er_var]
end Go.Proofs.YthdgnfnalimcnaaGreatDoor
end
section
set_option maxRecDepth 100000
/-! Into a row of traces, in front. -/
namespace Go.Proofs.YthdgnfnalimcnaaGreatDoor
open Go Go.Ab
open Classical
variable [Sel]

theorem delNil_ok (t : Trace) (bt : Nat) :
    ACalls Tryz.prog 28 [.av (.slice 34) .nsl, .av .func (capF bt)] [(bt, tvO t)]
      fun r H' => r = .av (.slice 34) .nsl ∧ H' = [(bt, tvO t)] := by
  refine ACalls.of_vc laid mixed Tryz.func28 rfl (by kernel_rfl) cf0 (by simp [Tryz.ntmps28]) fun imm0 w0 => ?_
  (simp (maxSteps := 2000000) (disch := first | omega | assumption) [zz])
  refine callV_all (R := fun r' H' => r' = .av (.int .i64) (.i .i64 (-1)) ∧ H' = [(bt, tvO t)]) rfl (by simp [argOK]) (by simp) ?_ ?_
  · have := idxNil_ok t bt
    simpa [TV.er, AV.er, tvO, capF] using this
  rintro r' H' ⟨rfl, rfl⟩
  (simp (maxSteps := 2000000) (disch := first | omega | assumption) [zz, Tryz.f28, tvO])
noncomputable def oneO (x : Trace) : HObj := .var (.arr 1 34) (.agg [encTrace x])
def InsR (x : Trace) (ts : List Trace) (r : TV) (H' : Heap) : Prop := ∃ b' cap' j', JK j' ∧ (ts.length + 1) + j'.length = cap' ∧ r = .av (.slice 34) (.msl b' 34 0 (ts.length + 1) cap') ∧ H' = [(b', rowO cap' (x :: ts) j')]
def InsQ (x : Trace) (ts : List Trace) (r : TV) (H' : Heap) : Prop := ∃ b' cap' j', JK j' ∧ (ts.length + 1) + j'.length = cap' ∧ r = .av (.slice 34) (.msl b' 34 0 (ts.length + 1) cap') ∧ HSub [(b', rowO cap' (x :: ts) j')] H'
theorem InsQ.to {f : FuncId} {args : List TV} {H : Heap} {x : Trace} {ts : List Trace} (h : ACalls Tryz.prog f args H (InsQ x ts)) : ACalls Tryz.prog f args H (InsR x ts) :=
  h.sub fun r H' ⟨b', cap', j', h1, h2, h3, h4⟩ _ => ⟨_, h4, b', cap', j', h1, h2, h3, rfl⟩
abbrev cfIns : Cfg := ⟨fun _ => false, fun n => n == 4000077⟩
@[simp] theorem isneOv : isNE Tryz.prog (.func 59) = true := by kernel_rfl
@[simp] theorem iscmpOv : isCmp Tryz.prog (.func 59) = false := by kernel_rfl
theorem ovOKt : ovOK Tryz.prog 34 (.func 59) := ⟨_, 22, 22, Tryz.func59, by kernel_rfl, by kernel_rfl, by kernel_rfl, by kernel_rfl, by simp⟩
set_option maxHeartbeats 4000000 in
theorem insNil_ok (x : Trace) (bv : Nat) :
    ACalls Tryz.prog 31 [.av (.slice 34) .nsl, .av (.int .i64) (.i .i64 0), .av (.slice 34) (.msl bv 34 0 1 1)] [(bv, oneO x)] (InsR x []) := by
  refine InsQ.to ?_
  refine ACalls.of_vc laid mixed Tryz.func31 rfl (by kernel_rfl) cfIns (by simp [Tryz.ntmps31]) fun imm0 w0 => ?_
  (simp (maxSteps := 2000000) (disch := first | omega | assumption) [zz, -List.reduceReplicate, oneO])
  intro b' cap' hb' hc
  have hz := JK.zeros (cap' - 1)
  unfold JK tr0A at hz
  (simp (maxSteps := 2000000) (disch := first | omega | assumption) [zz, -List.reduceReplicate, Tryz.f31, InsQ, hz])
  exact ⟨b', cap', List.replicate (cap' - 1) tr0A, JK.zeros _, by simp; omega, ⟨rfl, rfl⟩, HSub.of_sub (by simp [rowO, trs, tr0A, -List.reduceReplicate])⟩
set_option maxHeartbeats 8000000 in
theorem insTr_ok (x : Trace) (ts : List Trace) (b bv cap : Nat) (j : List AV) (hj : JK j) (hb : b ≠ bv) (hcap : ts.length + j.length = cap) (hn : ts.length ≤ 1000) :
    ACalls Tryz.prog 31 [.av (.slice 34) (.msl b 34 0 ts.length cap), .av (.int .i64) (.i .i64 0), .av (.slice 34) (.msl bv 34 0 1 1)] [(b, rowO cap ts j), (bv, oneO x)] (InsR x ts) := by
  have hb' : ¬ bv = b := fun e => hb e.symm
  refine InsQ.to ?_
  refine ACalls.of_vc laid mixed Tryz.func31 rfl (by kernel_rfl) cfIns (by simp [Tryz.ntmps31]) fun imm0 w0 => ?_
  rcases Nat.eq_zero_or_pos ts.length with h0 | h0
  · have : ts = [] := List.eq_nil_of_length_eq_zero h0
    subst this
    have hjl : j.length = cap := by simpa using hcap
    (simp (maxSteps := 2000000) (disch := first | omega | assumption) [zz, -List.reduceReplicate, oneO, rowO, trs, hb, hb'])
    refine ⟨fun hc => ?_, fun hc b' cap' hn' hn2 hc' => ?_⟩
    · have hj1 := hj.drop 1
      unfold JK at hj1
      rw [List.drop_one] at hj1
      (simp (maxSteps := 2000000) (disch := first | omega | assumption) [zz, -List.reduceReplicate, Tryz.f31, InsQ, hj1])
      exact ⟨b, cap, j.drop 1, hj.drop 1, by simp; omega, ⟨rfl, rfl⟩, HSub.of_sub (by simp [rowO, trs])⟩
    · have hz := JK.zeros (cap' - 1)
      unfold JK tr0A at hz
      (simp (maxSteps := 2000000) (disch := first | omega | assumption) [zz, -List.reduceReplicate, Tryz.f31, InsQ, hz])
      exact ⟨b', cap', List.replicate (cap' - 1) tr0A, JK.zeros _, by simp; omega, ⟨rfl, rfl⟩, HSub.of_sub (by simp [rowO, trs, tr0A, -List.reduceReplicate])⟩
  have hne : ¬ (0 : Int) = ts.length := by omega
  by_cases hg : cap < ts.length + 1
  · have hg' : (cap : Int) < ts.length + 1 := by omega
    have htk : (trs ts ++ j).take ts.length = trs ts := by rw [List.take_append_of_le_length (by simp)]; exact List.take_of_length_le (by simp)
    (simp (maxSteps := 2000000) (disch := first | omega | assumption) [zz, -List.reduceReplicate, oneO, rowO, hne, hg, hg', hb, hb'])
    refine ⟨by omega, ⟨by omega, by omega⟩, fun b' cap' hn1 hn2 hc => ?_⟩
    have hc1 : ¬ cap' = 1 := by omega
    (simp (maxSteps := 2000000) (disch := first | omega | assumption) [zz, -List.reduceReplicate, hn1, hn2, hb, hb', hc, htk, hc1])
    (repeat ((with_reducible refine And.intro ?_ ?_); (· first | omega | (show barB _ _ = true; kernel_rfl) | (show rdJ _ _ _ _ _ = true; kernel_rfl) | (show tailB _ _ _ = true; kernel_rfl) | (show sftB _ _ _ = true; kernel_rfl))))
    (simp (maxSteps := 2000000) (disch := first | omega | assumption) [zz, -List.reduceReplicate, Tryz.f31, InsQ])
    have e1 : List.drop (1 + ts.length) (encTrace x :: List.replicate (cap' - 1) tr0A) = List.replicate (cap' - 1 - ts.length) tr0A := by
      rw [Nat.add_comm, List.drop_succ_cons, List.drop_replicate]
    have e2 := JK.zeros (cap' - 1 - ts.length)
    unfold JK at e2
    refine ⟨b', cap', List.replicate (cap' - 1 - ts.length) tr0A, JK.zeros _, by simp; omega, ⟨rfl, rfl⟩, HSub.of_sub ?_⟩
    show List.Sublist _ ((b', HObj.var (TyD.arr cap' 34) (AV.agg (encTrace x :: AV.erks (trs ts ++ List.drop (1 + ts.length) (encTrace x :: List.replicate (cap' - 1) tr0A))))) :: _)
    rw [e1, erks_app', erks_trs, e2]
    exact (List.nil_sublist _).cons_cons _
  · have hg' : ¬ (cap : Int) < ts.length + 1 := by omega
    have hc1 : ¬ cap = 1 := by omega
    have hc0 : 0 < cap := by omega
    have hmin : min (ts.length + 1) ts.length = ts.length := by omega
    have htk : (trs ts ++ j).take ts.length = trs ts := by rw [List.take_append_of_le_length (by simp)]; exact List.take_of_length_le (by simp)
    (simp (maxSteps := 2000000) (disch := first | omega | assumption) [zz, -List.reduceReplicate, oneO, rowO, hne, hg, hg', hb, hb', hc1, ovV, ovOKt, hc0, hmin, htk])
    (repeat ((with_reducible refine And.intro ?_ ?_); (· first | omega | (show barB _ _ = true; kernel_rfl) | (show rdJ _ _ _ _ _ = true; kernel_rfl) | (show tailB _ _ _ = true; kernel_rfl) | (show sftB _ _ _ = true; kernel_rfl))))
    (simp (maxSteps := 2000000) (disch := first | omega | assumption) [zz, -List.reduceReplicate, Tryz.f31, InsQ])
    have e1 : (List.take 1 (trs ts ++ j) ++ (trs ts ++ List.drop (1 + ts.length) (trs ts ++ j))).tail = trs ts ++ j.drop 1 := by
      cases ts with
      | nil => simp at h0
      | cons a r =>
        have e3 : List.drop (1 + (a :: r).length) (trs (a :: r) ++ j) = j.drop 1 := by
          rw [List.drop_append, List.drop_of_length_le (by simp)]
          simp [trs]
        rw [e3]
        rfl
    have e2 := hj.drop 1
    unfold JK at e2
    refine ⟨b, cap, j.drop 1, hj.drop 1, by simp; omega, ⟨rfl, rfl⟩, HSub.of_sub ?_⟩
    rw [e1, erks_app', erks_trs, e2]
    exact (List.nil_sublist _).cons_cons _
end Go.Proofs.YthdgnfnalimcnaaGreatDoor
end
