/- A db's bytes are read as a db that answers alike: plain. No condition beyond each theorem's own. -/
import Derived.Test.YthdgnfnalimcnaaGreatDoorI0ToP54a
import Derived.Test.YthdgnfnalimcnaaGreatDoorE3To
set_option linter.unusedSimpArgs false
set_option linter.unusedVariables false
set_option linter.unusedSectionVars false
section
set_option maxRecDepth 100000
/-! A db's bytes are read as a db that answers alike: plain. -/
namespace Go.Proofs.YthdgnfnalimcnaaGreatDoor
open Go Go.Ab
open Classical
variable [Sel] [SelPow] [SelErr]

theorem fold_addL_mem {mo : Nat} {x : Trace} : ∀ (l r : List Trace), x ∈ l.foldl (fun r x => addL mo x r) r → x ∈ l ∨ x ∈ r
  | [], r, h => .inr h
  | y :: l, r, h => by
    rw [List.foldl_cons] at h
    rcases fold_addL_mem l _ h with h | h
    · exact .inl (List.mem_cons_of_mem _ h)
    · rcases List.mem_cons.1 (List.mem_of_mem_take h) with rfl | h
      · exact .inl (by simp)
      · exact .inr (List.mem_filter.1 h).1
theorem addL_nodup {mo : Nat} {t : Trace} {ts : List Trace} (h : ts.Nodup) : (addL mo t ts).Nodup := by
  unfold addL
  refine List.Nodup.sublist (List.take_sublist _ _) (List.nodup_cons.2 ⟨?_, ?_⟩)
  · rw [kp_eq, List.mem_filter]; simp
  · exact List.Pairwise.filter _ h
theorem fold_addL_nodup {mo : Nat} : ∀ (l r : List Trace), r.Nodup → (l.foldl (fun r x => addL mo x r) r).Nodup
  | [], r, h => h
  | y :: l, r, h => fold_addL_nodup l _ (addL_nodup h)
theorem fold_addL_rev {mo : Nat} : ∀ (l : List Trace), l.Nodup → l.length ≤ mo → l.reverse.foldl (fun r x => addL mo x r) [] = l
  | [], _, _ => rfl
  | x :: l, hn, hl => by
    rw [List.nodup_cons] at hn
    rw [List.length_cons] at hl
    rw [List.reverse_cons, List.foldl_append, fold_addL_rev l hn.2 (by omega)]
    simp only [List.foldl_cons, List.foldl_nil]
    unfold addL
    have e : kp x l = l := by
      rw [kp_eq]
      refine List.filter_eq_self.2 fun y hy => ?_
      have : y ≠ x := fun e => hn.1 (e ▸ hy)
      simp [this]
    rw [e, List.take_of_length_le (by simpa using hl)]
theorem rowOf_mem {mo : Nat} {ts : List Trace} {t : Trace} (h : t ∈ rowOf (hisD mo ts)) : t ∈ ts ∧ checkV t = 0 := by
  obtain ⟨k, _, ht⟩ := List.mem_flatMap.1 h
  rw [getD_his] at ht
  rcases fold_addL_mem _ _ ht with h | h
  · have := List.mem_filter.1 h
    exact ⟨this.1, (by simpa using this.2 : t.key = k ∧ checkV t = 0).2⟩
  · simp at h
theorem OKD_his {mo : Nat} (hm : 1 ≤ mo) (ts : List Trace) : OKD (hisD mo ts) := by
  have : ∀ (ts : List Trace) (L : DbL), OKD L → OKD (ts.foldl (addD mo) L) := by
    intro ts
    induction ts with
    | nil => exact fun L h => h
    | cons x r ih => exact fun L h => ih _ (OKD_add hm h x)
  exact this ts [] OKD_nil
theorem ofK_back {mo : Nat} (hm : 1 ≤ mo) (ts : List Trace) (k : Dig) : ofK k (rowOf (hisD mo ts)).reverse = (getD (hisD mo ts) k).reverse := by
  unfold ofK
  rw [List.filter_reverse, ← rof_row (OKD_his hm ts) k]
  unfold rofV
  congr 1
  refine List.filter_congr fun t ht => ?_
  have := (rowOf_mem ht).2
  simp [this]
theorem getD_back {mo : Nat} (hm : 1 ≤ mo) (ts : List Trace) (k : Dig) : getD (hisD mo (rowOf (hisD mo ts)).reverse) k = getD (hisD mo ts) k := by
  rw [getD_his, ofK_back hm]
  refine fold_addL_rev _ ?_ ?_
  · rw [getD_his]; exact fold_addL_nodup _ _ List.nodup_nil
  · rw [getD_his]; exact foldl_len _ _ (by simp)
theorem keys_back {mo : Nat} (hm : 1 ≤ mo) (ts : List Trace) : ((hisD mo (rowOf (hisD mo ts)).reverse).map Prod.fst).Perm ((hisD mo ts).map Prod.fst) := by
  rw [List.perm_ext_iff_of_nodup (nodup_his mo _) (nodup_his mo ts)]
  intro k
  rw [mem_his, ofK_back hm]
  have hok := OKD_his hm ts
  constructor
  · intro h
    refine Classical.byContradiction fun hk => h ?_
    rw [getD_no hk]; rfl
  · intro h e
    exact (getD_ok hok h).1 (List.reverse_eq_nil_iff.1 e)
theorem row_back {mo : Nat} (hm : 1 ≤ mo) (ts : List Trace) : rowOf (hisD mo (rowOf (hisD mo ts)).reverse) = rowOf (hisD mo ts) := by
  obtain ⟨R, hR⟩ : ∃ R, hisD mo (rowOf (hisD mo ts)).reverse = R := ⟨_, rfl⟩
  have h1 := fun k => getD_back hm ts k
  have h2 := keys_back hm ts
  rw [hR] at h1 h2 ⊢
  unfold rowOf
  rw [KO_one (KO_srt _) (KO_srt _) h2]
  congr 1
  funext k
  exact h1 k
theorem len_back {mo : Nat} (hm : 1 ≤ mo) (ts : List Trace) : (hisD mo (rowOf (hisD mo ts)).reverse).length = (hisD mo ts).length := by
  have := (keys_back hm ts).length_eq
  simpa using this
theorem filter_two (p : Trace → Bool) : ∀ l : List Trace, (l.filter p).length + (l.filter fun x => !p x).length = l.length
  | [] => rfl
  | x :: l => by
    have ih := filter_two p l
    by_cases h : p x = true
    · rw [List.filter_cons_of_pos h, List.filter_cons_of_neg (by simp [h])]; simp only [List.length_cons]; omega
    · rw [List.filter_cons_of_neg h, List.filter_cons_of_pos (by simpa using h)]; simp only [List.length_cons]; omega
theorem radd_len (mo : Nat) (l : List Trace) (t : Trace) : (raddV mo l t).length ≤ l.length + 1 := by
  unfold raddV
  have h1 : (addL mo t (rofV l t.key)).length ≤ (rofV l t.key).length + 1 := by
    unfold addL
    have := kp_len t (rofV l t.key)
    rw [List.length_take, List.length_cons]; omega
  have h2 := filter_two (fun x => decide (x.key = t.key)) l
  have h3 : rdropV l t.key = l.filter fun x => !decide (x.key = t.key) := by
    unfold rdropV
    refine List.filter_congr fun x _ => ?_
    by_cases e : x.key = t.key <;> simp [e]
  have h4 := congrArg List.length (List.takeWhile_append_dropWhile (p := fun x : Trace => !ltL t.key x.key) (l := rdropV l t.key))
  rw [List.length_append] at h4
  rw [← h3] at h2
  simp only [List.length_append]
  unfold rofV at h1 ⊢
  omega
theorem row_len {mo : Nat} (hm : 1 ≤ mo) (ts : List Trace) : (rowOf (hisD mo ts)).length ≤ ts.length := by
  have : ∀ (ts : List Trace) (L : DbL), OKD L → (rowOf (ts.foldl (addD mo) L)).length ≤ (rowOf L).length + ts.length := by
    intro ts
    induction ts with
    | nil => exact fun L _ => Nat.le_refl _
    | cons x r ih =>
      intro L h
      have h1 := ih _ (OKD_add hm h x)
      have h2 : (rowOf (addD mo L x)).length ≤ (rowOf L).length + 1 := by
        by_cases hc : checkV x = 0
        · rw [← rowOf_add h hc]; exact radd_len mo _ x
        · rw [addD, if_neg hc]; omega
      rw [List.foldl_cons, List.length_cons]; omega
  have h := this ts [] OKD_nil
  have e : (rowOf []).length = 0 := by simp [rowOf, srtK]
  unfold hisD
  omega
theorem TrW_of {t : Trace} (ht : TrP t) (hc : checkV t = 0) : TrW t := by
  obtain ⟨h3, h4⟩ := checkV_parts hc
  refine ⟨ht, fun r hr => Nat.le_trans (mayV_len (readsV_zero h3 r hr).1) (by decide), fun m hm => ?_⟩
  have hu := outsV_zero h4 m hm
  simp only [underV, Bool.and_eq_true] at hu
  exact Nat.le_trans (mayV_len hu.1) (by decide)
theorem InvD.mono {n n' mo : Nat} {L : DbL} (h : InvD n mo L) (hn : n ≤ n') : InvD n' mo L := ⟨h.ok, h.mem, Nat.le_trans h.len hn, h.row⟩
theorem InvD.addP {n mo : Nat} {L : DbL} (h : InvD n mo L) (hm : 1 ≤ mo) {t : Trace} (ht : TrP t) (hd : TrD t) : InvD (n+1) mo (addD mo L t) := by
  by_cases hc : checkV t = 0
  · exact h.add hm (TrW_of ht hc) hd
  · rw [addD, if_neg hc]; exact h.mono (by omega)
theorem InvD.hisP {mo : Nat} (hm : 1 ≤ mo) {ts : List Trace} (h : ∀ t ∈ ts, TrP t ∧ TrD t) : InvD ts.length mo (hisD mo ts) := by
  have : ∀ (ts : List Trace) (n : Nat) (L : DbL), InvD n mo L → (∀ t ∈ ts, TrP t ∧ TrD t) → InvD (n + ts.length) mo (ts.foldl (addD mo) L) := by
    intro ts
    induction ts with
    | nil => exact fun n L h _ => h
    | cons x r ih =>
      intro n L h h2
      have := ih (n+1) _ (h.addP hm (h2 x (by simp)).1 (h2 x (by simp)).2) fun t ht => h2 t (List.mem_cons_of_mem _ ht)
      rw [List.foldl_cons, List.length_cons, show n + (r.length + 1) = n + 1 + r.length by omega]
      exact this
  have h := this ts 0 [] InvD.nil h
  rw [Nat.zero_add] at h
  exact h
noncomputable def bytD (mo : Nat) (L : DbL) : List UInt8 := rowV (Lib.itoa mo :: (rowOf L).map bytS)
theorem itoa_mo {mo : Nat} (h : mo ≤ 8) : (Lib.itoa (mo : Int)).length < 1000000000 := by
  rw [itoa_nat]
  have := decDigits_le mo
  omega
theorem read_back {mo : Nat} (hm : 1 ≤ mo) (hm8 : mo ≤ 8) {ts : List Trace} (hts : ∀ t ∈ ts, TrD t) : readDB (bytD mo (hisD mo ts)) = .ok (mo, hisD mo (rowOf (hisD mo ts)).reverse) := by
  have hr := fun t (ht : t ∈ rowOf (hisD mo ts)) => (rowOf_mem ht)
  have hb := row_back hm ts
  obtain ⟨W, hW⟩ : ∃ W, W = rowOf (hisD mo ts) := ⟨_, rfl⟩
  unfold bytD
  rw [← hW] at hr hb ⊢
  have htx : textsV (rowV (Lib.itoa mo :: W.map bytS)) = (Lib.itoa mo :: W.map bytS, 0) := texts_of_row fun s hs => by
    rcases List.mem_cons.1 hs with rfl | hs
    · exact itoa_mo hm8
    · obtain ⟨t, ht, rfl⟩ := List.mem_map.1 hs
      have := bytS_len (hts t (hr t ht).1)
      omega
  have hrd : ∀ t ∈ W, readV (bytS t) = (t, 0) := fun t ht => by
    obtain ⟨h1, h2⟩ := hr t ht
    unfold bytS
    rw [if_pos h2, readV_of (hts t h1) h2]
  have hall : rallV (W.map bytS) = .ok W := by
    rw [rallV_ok fun x hx => by
      obtain ⟨t, ht, rfl⟩ := List.mem_map.1 hx
      rw [hrd t ht], List.map_map]
    congr 1
    conv => rhs; rw [← List.map_id W]
    exact List.map_congr_left fun t ht => by simp [hrd t ht]
  unfold readDB
  rw [htx]
  simp only
  rw [if_neg (by simp), intV_itoa (by omega) (by omega)]
  simp only
  rw [if_neg (by omega), hall]
  simp only [Int.toNat_natCast]
  rw [hb, if_pos rfl]
theorem bytD_len {mo : Nat} (hm : 1 ≤ mo) (hm8 : mo ≤ 8) {ts : List Trace} (hts : ∀ t ∈ ts, TrD t) (hn : ts.length ≤ 40) : (bytD mo (hisD mo ts)).length ≤ 1000000000 := by
  have h1 := row_len hm ts
  have h2 := rowV_le (l := Lib.itoa mo :: (rowOf (hisD mo ts)).map bytS) (n := 6300000) fun s hs => by
    rcases List.mem_cons.1 hs with rfl | hs
    · rw [itoa_nat]
      have := decDigits_le mo
      omega
    · obtain ⟨t, ht, rfl⟩ := List.mem_map.1 hs
      exact bytS_len (hts t (rowOf_mem ht).1)
  rw [List.length_cons, List.length_map] at h2
  have h3 : (2 * 6300000 + 2) * ((rowOf (hisD mo ts)).length + 1) ≤ (2 * 6300000 + 2) * 41 := Nat.mul_le_mul_left _ (by omega)
  unfold bytD
  omega
end Go.Proofs.YthdgnfnalimcnaaGreatDoor
end
section
set_option maxRecDepth 100000
/-! A row of traces, one by one, the last one first. -/
namespace Go.Proofs.YthdgnfnalimcnaaGreatDoor
open Go Go.Ab
open Classical
variable [Sel]

@[simp] theorem fnok50 : fnOK Tryz.prog 50 = true := by kernel_rfl
@[simp] theorem isne50 : isNE Tryz.prog (.func 50) = false := isNE_func fnok50
@[simp] theorem fnok85 : fnOK Tryz.prog 85 = true := by kernel_rfl
@[simp] theorem isne85 : isNE Tryz.prog (.func 85) = false := isNE_func fnok85
theorem AT.absE {c : Ctx} {code : Code} {K : Exit → St → Prop} {s : St} (Q : (Nat → TV) → Prop) (h0 : Q s.env) (h : ∀ E, Q E → AT c code K { s with env := E }) : AT c code K s := h s.env h0
abbrev TsT : TyD := .slice 34
noncomputable def bxO (l : List Trace) : HObj := .var TsT (.sl .no (trs l))
theorem bxO_er (l : List Trace) : (bxO l).er = bxO l := by simp [bxO, HObj.er_var, AV.erk]
abbrev cfBw : Cfg := ⟨fun n => n == 1, fun _ => false⟩
theorem backward_ok (l : List Trace) : ACalls Tryz.prog 50 [.av TsT (.sl .no (trs l))] [] fun r H' => ∃ c, r = .av .func (.fn 85 [.ptr c TsT []]) ∧ H' = [(c, bxO l)] := by
  refine ACalls.of_vc laid mixed Tryz.func50 rfl (by kernel_rfl) cfBw (by simp [Tryz.ntmps50]) fun imm0 w0 => ?_
  (simp (maxSteps := 2000000) (disch := first | omega | assumption) [zz, -List.reduceReplicate])
  intro c
  (simp (maxSteps := 2000000) (disch := first | omega | assumption) [zz, -List.reduceReplicate, Tryz.f50, bxO, AV.ers])
set_option maxHeartbeats 4000000 in
theorem back1_ok {G : Nat → Heap → Prop} (y c : Nat) (l : List Trace) (hl : l.length ≤ 1000000000) (hGe : ∀ k H, G k H → H.er = H)
    (hY : ∀ k (hk : k < l.length) H, G k H → YC Tryz.prog y [.av (.int .i64) (.i .i64 (l.length - 1 - k : Nat)), .av TrT (encTrace (l[l.length - 1 - k]'(by omega)))] H fun r H' => r = .av .bool (.b true) ∧ G (k+1) H') :
    ∀ H, G 0 H → ACalls Tryz.prog 85 [.av .func (.yl y), .av .ptr (.ptr c TsT [])] ((c, bxO l) :: H)
      fun r H' => r = .tup [] ∧ ∃ H1, G l.length H1 ∧ H' = (c, bxO l) :: H1 := by
  intro H hG
  have hbe := bxO_er l
  have hsl : ∀ x : List Trace, (trs x).length = x.length := fun x => by simp [trs]
  refine ACalls.of_vc laid mixed Tryz.func85 rfl (by kernel_rfl) cf0 (by simp [Tryz.ntmps85]) fun imm0 w0 => ?_
  (simp (maxSteps := 2000000) (disch := first | omega | assumption) [zz, -List.reduceReplicate, bxO, hsl])
  refine AT.loop' (α := Nat × Heap) (fun p => St.of [(0, .av .func (.yl y)), (1, .av .ptr (.ptr c TsT [])), (3, .av (.int .i64) (.i .i64 ((l.length : Int) - 1 - p.1)))] [] (fun _ => 0) ((c, bxO l) :: p.2))
    (fun p => p.1 ≤ l.length ∧ G p.1 p.2) (fun p => l.length - p.1) (0, H) ?_ ?_ ?_
  · refine Le.of ?_ ?_ ?_ ?_ ?_ <;> simp [leTV, locsIn, bxO] <;> try omega
  · exact ⟨by omega, hG⟩
  rintro ⟨k, H1⟩ ⟨hk, hG1⟩ KL hN hE
  simp only at hk hG1 hN
  refine vc_sound (cf := cf0) laid mixed _ _ _ (by kernel_rfl) ?_
  by_cases hlt : k < l.length
  · obtain ⟨i, hi⟩ : ∃ i : Nat, i = l.length - 1 - k := ⟨_, rfl⟩
    have hii : (l.length : Int) - 1 - k = i := by omega
    have hil : i < l.length := by omega
    have hgi : (trs l)[i]? = some (encTrace l[i]) := by simp [trs, List.getElem?_eq_getElem hil]
    rw [hii]
    have hge : (0 : Int) ≤ i := by omega
    (simp (maxSteps := 2000000) (disch := first | omega | assumption) [zz, -List.reduceReplicate, hge, bxO, hgi, hsl, hil])
    refine callV_yield (R := fun r H' => r = .av .bool (.b true) ∧ G (k+1) H') H1 [(c, bxO l)] (List.perm_append_comm (l₁ := [_])) (by simp [argOK]) ?_ ?_
    · rw [hGe _ _ hG1]
      have := hY k hlt _ hG1
      simpa [TV.er, ← hi] using this
    rintro r H2 ⟨rfl, hG2⟩ _
    refine ⟨(c, bxO l) :: H2, HSub.of_perm (List.perm_append_comm (l₂ := [_])), ?_⟩
    (simp (maxSteps := 2000000) (disch := first | omega | assumption) [zz, -List.reduceReplicate])
    refine hN _ (k+1, H2) ?_ ⟨by omega, hG2⟩ (by simp only; omega)
    refine Le.of ?_ ?_ ?_ ?_ ?_ <;> simp [leTV, locsIn, bxO] <;> try omega
  · have hge : (l.length : Int) - 1 - k = -1 := by omega
    rw [hge]
    (simp (maxSteps := 2000000) (disch := first | omega | assumption) [zz, -List.reduceReplicate])
    refine hE _ _ (by simp) ?_
    have hkl : k = l.length := by omega
    subst hkl
    have hH := hGe _ _ hG1
    (simp (maxSteps := 2000000) (disch := first | omega | assumption) [zz, -List.reduceReplicate, Tryz.f85, hH, hbe])
    exact ⟨hG1, by first | rfl | simp [bxO]⟩
end Go.Proofs.YthdgnfnalimcnaaGreatDoor
end
