/- A db as one row of traces: the document. No condition beyond each theorem's own. -/
import Derived.Test.YthdgnfnalimcnaaGreatDoorG1To
import Derived.Test.YthdgnfnalimcnaaGreatDoorD9aTo0
set_option linter.unusedSimpArgs false
set_option linter.unusedVariables false
set_option linter.unusedSectionVars false
section
set_option maxRecDepth 100000
/-! A db as one row of traces: the document. -/
namespace Go.Proofs.YthdgnfnalimcnaaGreatDoor
open Go Go.Ab
open Classical
variable [Sel] [SelPow]

def OKD (L : DbL) : Prop := (L.map Prod.fst).Nodup ∧ ∀ p ∈ L, p.2 ≠ [] ∧ ∀ t ∈ p.2, t.key = p.1
noncomputable def rowOf (L : DbL) : List Trace := (srtK (L.map Prod.fst)).flatMap (getD L)
def rofV (l : List Trace) (k : Dig) : List Trace := l.filter fun x => decide (x.key = k)
def rdropV (l : List Trace) (k : Dig) : List Trace := l.filter fun x => decide (x.key ≠ k)
def delD (k : Dig) (L : DbL) : DbL := L.filter fun p => decide (p.1 ≠ k)
theorem getD_has {L : DbL} (h : (L.map Prod.fst).Nodup) {p : Dig × List Trace} (hp : p ∈ L) : getD L p.1 = p.2 := by
  induction L with
  | nil => simp at hp
  | cons q r ih =>
    rw [List.map_cons, List.nodup_cons] at h
    rcases List.mem_cons.1 hp with rfl | hp
    · simp [getD]
    · have : ¬ q.1 = p.1 := fun e => h.1 (e ▸ List.mem_map.2 ⟨p, hp, rfl⟩)
      have ih := ih h.2 hp
      simp only [getD, List.find?_cons, this, decide_false] at ih ⊢
      exact ih
theorem getD_ok {L : DbL} (h : OKD L) {k : Dig} (hk : k ∈ L.map Prod.fst) : getD L k ≠ [] ∧ ∀ t ∈ getD L k, t.key = k := by
  obtain ⟨p, hp, rfl⟩ := List.mem_map.1 hk
  rw [getD_has h.1 hp]
  exact h.2 p hp
theorem getD_no {L : DbL} {k : Dig} (hk : k ∉ L.map Prod.fst) : getD L k = [] := by
  unfold getD
  have : L.find? (fun p => decide (p.1 = k)) = none := List.find?_eq_none.2 fun p hp => by
    have : ¬ p.1 = k := fun e => hk (e ▸ List.mem_map.2 ⟨p, hp, rfl⟩)
    simp [this]
  rw [this]
theorem srtK_mem {l : List Dig} {k : Dig} : k ∈ srtK l ↔ k ∈ l := (KO_srt l).1.mem_iff
theorem srtK_nodup {l : List Dig} (h : l.Nodup) : (srtK l).Nodup := (KO_srt l).1.nodup_iff.2 h
theorem filter_flat {k : Dig} {f : Dig → List Trace} : ∀ {ks : List Dig}, ks.Nodup → (∀ q ∈ ks, ∀ t ∈ f q, t.key = q) → (ks.flatMap f).filter (fun x => decide (x.key = k)) = if k ∈ ks then f k else []
  | [], _, _ => by simp
  | q :: ks, hn, h => by
    rw [List.nodup_cons] at hn
    have ih := filter_flat (k := k) hn.2 fun q' hq => h q' (List.mem_cons_of_mem _ hq)
    rw [List.flatMap_cons, List.filter_append, ih]
    by_cases e : q = k
    · subst e
      rw [if_neg hn.1, if_pos (by simp), List.append_nil]
      exact List.filter_eq_self.2 fun t ht => by simp [h q (by simp) t ht]
    · have : (f q).filter (fun x => decide (x.key = k)) = [] := List.filter_eq_nil_iff.2 fun t ht => by simp [h q (by simp) t ht, e]
      rw [this, List.nil_append]
      by_cases hm : k ∈ ks
      · rw [if_pos hm, if_pos (List.mem_cons_of_mem _ hm)]
      · rw [if_neg hm, if_neg (by simp [hm]; exact fun e2 => e e2.symm)]
theorem rof_row {L : DbL} (h : OKD L) (k : Dig) : rofV (rowOf L) k = getD L k := by
  unfold rofV rowOf
  rw [filter_flat (srtK_nodup h.1) fun q hq => (getD_ok h (srtK_mem.1 hq)).2]
  by_cases hk : k ∈ L.map Prod.fst
  · rw [if_pos (srtK_mem.2 hk)]
  · rw [if_neg fun e => hk (srtK_mem.1 e), getD_no hk]
theorem delD_keys (k : Dig) (L : DbL) : (delD k L).map Prod.fst = (L.map Prod.fst).filter fun q => decide (q ≠ k) := by
  unfold delD
  rw [List.filter_map]; rfl
theorem getD_del {k q : Dig} {L : DbL} : getD (delD k L) q = if q = k then [] else getD L q := by
  induction L with
  | nil => simp [delD, getD]
  | cons p r ih =>
    unfold delD at ih ⊢
    by_cases e : p.1 = k
    · rw [List.filter_cons_of_neg (by simp [e]), ih]
      by_cases e2 : q = k
      · rw [if_pos e2, if_pos e2]
      · rw [if_neg e2, if_neg e2]
        have : ¬ p.1 = q := fun e3 => e2 (e3 ▸ e)
        simp [getD, this]
    · rw [List.filter_cons_of_pos (by simp [e])]
      by_cases e3 : p.1 = q
      · subst e3
        rw [if_neg e]
        simp [getD]
      · simp only [getD, List.find?_cons, e3, decide_false] at ih ⊢
        exact ih
theorem OKD_del {k : Dig} {L : DbL} (h : OKD L) : OKD (delD k L) := by
  refine ⟨?_, fun p hp => h.2 p (List.mem_filter.1 hp).1⟩
  rw [delD_keys]; exact List.Pairwise.filter _ h.1
theorem srtK_filter (l : List Dig) (k : Dig) : srtK (l.filter fun q => decide (q ≠ k)) = (srtK l).filter fun q => decide (q ≠ k) := by
  refine (KO_eq (l := l.filter fun q => decide (q ≠ k)) ⟨(KO_srt l).1.filter _, ?_⟩).symm
  exact List.Pairwise.filter _ (KO_srt l).2
theorem flat_filter {k : Dig} {f g : Dig → List Trace} : ∀ {ks : List Dig}, (∀ q ∈ ks, ∀ t ∈ f q, t.key = q) → (∀ q, q ≠ k → g q = f q) → (ks.filter fun q => decide (q ≠ k)).flatMap g = (ks.flatMap f).filter fun x => decide (x.key ≠ k)
  | [], _, _ => rfl
  | q :: ks, h, hg => by
    have ih := flat_filter (k := k) (fun q' hq => h q' (List.mem_cons_of_mem _ hq)) hg
    rw [List.flatMap_cons, List.filter_append, ← ih]
    by_cases e : q = k
    · rw [List.filter_cons_of_neg (by simp [e])]
      have : (f q).filter (fun x => decide (x.key ≠ k)) = [] := List.filter_eq_nil_iff.2 fun t ht => by simp [h q (by simp) t ht, e]
      rw [this, List.nil_append]
    · rw [List.filter_cons_of_pos (by simp [e]), List.flatMap_cons, hg q e]
      congr 1
      exact (List.filter_eq_self.2 fun t ht => by simp [h q (by simp) t ht, e]).symm
theorem rdrop_row {L : DbL} (h : OKD L) (k : Dig) : rdropV (rowOf L) k = rowOf (delD k L) := by
  unfold rdropV rowOf
  rw [delD_keys, srtK_filter, flat_filter (f := getD L) (fun q hq => (getD_ok h (srtK_mem.1 hq)).2)]
  intro q hq
  rw [getD_del, if_neg hq]
noncomputable def raddV (mo : Nat) (l : List Trace) (t : Trace) : List Trace :=
  (rdropV l t.key).takeWhile (fun x => !ltL t.key x.key) ++ addL mo t (rofV l t.key) ++ (rdropV l t.key).dropWhile (fun x => !ltL t.key x.key)
theorem srtK_put {L : DbL} (h : (L.map Prod.fst).Nodup) (k : Dig) (v : List Trace) :
    ∃ A B, srtK ((putD k v L).map Prod.fst) = A ++ k :: B ∧ srtK ((delD k L).map Prod.fst) = A ++ B ∧ (∀ q ∈ A, ltL k q = false) ∧ ∀ q ∈ B, ltL k q = true := by
  have hn := nodup_put (k := k) (v := v) h
  have hs := srtK_nodup hn
  have ho := (KO_srt ((putD k v L).map Prod.fst)).2
  obtain ⟨A, B, hAB⟩ := List.append_of_mem (srtK_mem.2 (mem_put.2 (.inl rfl)) : k ∈ srtK ((putD k v L).map Prod.fst))
  rw [hAB] at hs ho
  rw [List.pairwise_append, List.pairwise_cons] at ho
  rw [List.nodup_append, List.nodup_cons] at hs
  refine ⟨A, B, hAB, ?_, fun q hq => ho.2.2 q hq k (by simp), fun q hq => ?_⟩
  · refine (KO_eq (l := (delD k L).map Prod.fst) ⟨?_, ?_⟩).symm
    · rw [List.perm_ext_iff_of_nodup]
      · intro q
        have hm : q ∈ srtK ((putD k v L).map Prod.fst) ↔ q = k ∨ q ∈ L.map Prod.fst := srtK_mem.trans mem_put
        rw [hAB] at hm
        rw [delD_keys, List.mem_filter, List.mem_append]
        simp only [List.mem_append, List.mem_cons] at hm
        constructor
        · intro hq
          have hqk : q ≠ k := by
            rintro rfl
            rcases hq with hq | hq
            · exact hs.2.2 q hq q (by simp) rfl
            · exact hs.2.1.1 hq
          have := hm.1 (by rcases hq with hq | hq; exact .inl hq; exact .inr (.inr hq))
          exact ⟨this.elim (fun e => absurd e hqk) id, by simpa using hqk⟩
        · rintro ⟨h1, h2⟩
          have h2 : q ≠ k := by simpa using h2
          rcases hm.2 (.inr h1) with h | h | h
          · exact .inl h
          · exact absurd h h2
          · exact .inr h
      · rw [List.nodup_append]
        exact ⟨hs.1, hs.2.1.2, fun a ha b hb => hs.2.2 a ha b (List.mem_cons_of_mem _ hb)⟩
      · rw [delD_keys]; exact List.Pairwise.filter _ h
    · rw [List.pairwise_append]
      exact ⟨ho.1, ho.2.1.2, fun a ha b hb => ho.2.2 a ha b (List.mem_cons_of_mem _ hb)⟩
  · have h1 := ho.2.1.1 q hq
    by_cases e : ltL k q = false
    · have := ltL_anti e h1
      exact absurd hq (this ▸ hs.2.1.1)
    · simpa using e
theorem getD_putK {k : Dig} {v : List Trace} {L : DbL} (q : Dig) : getD (putD k v L) q = if q = k then v else getD L q := getD_put k q v L
theorem radd_row {mo : Nat} {L : DbL} (h : OKD L) (t : Trace) : raddV mo (rowOf L) t = rowOf (putD t.key (addL mo t (getD L t.key)) L) := by
  unfold raddV
  rw [rdrop_row h, rof_row h]
  obtain ⟨A, B, h1, h2, h3, h4⟩ := srtK_put h.1 t.key (addL mo t (getD L t.key))
  have hd := OKD_del (k := t.key) h
  unfold rowOf
  rw [h1, h2, List.flatMap_append, List.flatMap_append, List.flatMap_cons, getD_putK, if_pos rfl]
  have hmem : ∀ q ∈ A ++ B, q ∈ (delD t.key L).map Prod.fst := fun q hq => srtK_mem.1 (h2 ▸ hq)
  have hf : ∀ C : List Dig, (∀ q ∈ C, q ∈ A ++ B) → C.flatMap (getD (putD t.key (addL mo t (getD L t.key)) L)) = C.flatMap (getD (delD t.key L)) := fun C hC => by
    induction C with
    | nil => rfl
    | cons q C ih =>
      rw [List.flatMap_cons, List.flatMap_cons, ih fun q' hq => hC q' (List.mem_cons_of_mem _ hq), getD_putK, getD_del]
      have : q ≠ t.key := by
        have := hmem q (hC q (by simp))
        rw [delD_keys, List.mem_filter] at this
        simpa using this.2
      rw [if_neg this, if_neg this]
  rw [hf A fun q hq => List.mem_append_left _ hq, hf B fun q hq => List.mem_append_right _ hq]
  have ha : ∀ x ∈ A.flatMap (getD (delD t.key L)), (!ltL t.key x.key) = true := fun x hx => by
    obtain ⟨q, hq, hx⟩ := List.mem_flatMap.1 hx
    rw [(getD_ok hd (hmem q (List.mem_append_left _ hq))).2 x hx, h3 q hq]; rfl
  have hb : ∀ x ∈ B.flatMap (getD (delD t.key L)), (!ltL t.key x.key) = false := fun x hx => by
    obtain ⟨q, hq, hx⟩ := List.mem_flatMap.1 hx
    rw [(getD_ok hd (hmem q (List.mem_append_right _ hq))).2 x hx, h4 q hq]; rfl
  obtain ⟨C, hC⟩ : ∃ C, C = A.flatMap (getD (delD t.key L)) := ⟨_, rfl⟩
  obtain ⟨D, hD⟩ : ∃ D, D = B.flatMap (getD (delD t.key L)) := ⟨_, rfl⟩
  rw [← hC] at ha ⊢
  rw [← hD] at hb ⊢
  have ht : D.takeWhile (fun x => !ltL t.key x.key) = [] := by
    cases D with
    | nil => rfl
    | cons x D => rw [List.takeWhile_cons_of_neg (by simp [hb x (by simp)])]
  have hdr : D.dropWhile (fun x => !ltL t.key x.key) = D := by
    cases D with
    | nil => rfl
    | cons x D => rw [List.dropWhile_cons_of_neg (by simp [hb x (by simp)])]
  rw [List.takeWhile_append_of_pos ha, List.dropWhile_append_of_pos ha, ht, hdr, List.append_nil, List.append_assoc]
/-! ### keys -/
def lastK (p : Option Dig) (l : List Trace) : Option Dig := (l.getLast?.map (·.key)).or p
def rkeysV (p : Option Dig) : List Trace → List Dig
  | [] => []
  | x :: r => if p = some x.key then rkeysV p r else x.key :: rkeysV (some x.key) r
theorem rkeys_snoc (x : Trace) : ∀ (l : List Trace) (p : Option Dig), rkeysV p (l ++ [x]) = rkeysV p l ++ if lastK p l = some x.key then [] else [x.key]
  | [], p => by
    have h : lastK p ([] : List Trace) = p := by simp [lastK]
    by_cases e : p = some x.key <;> simp [rkeysV, lastK, e]
  | y :: r, p => by
    have hl : lastK p (y :: r) = lastK (some y.key) r := by
      cases r with
      | nil => simp [lastK]
      | cons z r => simp [lastK, List.getLast?_cons_cons, List.getLast?_eq_some_getLast]
    rw [List.cons_append, rkeysV, rkeysV, hl]
    by_cases e : p = some y.key
    · rw [if_pos e, if_pos e, rkeys_snoc x r p, e]
    · rw [if_neg e, if_neg e, rkeys_snoc x r (some y.key), List.cons_append]
theorem rkeys_block {k : Dig} {r : List Trace} : ∀ {b : List Trace}, (∀ t ∈ b, t.key = k) → rkeysV (some k) (b ++ r) = rkeysV (some k) r
  | [], _ => rfl
  | x :: b, h => by
    rw [List.cons_append, rkeysV, if_pos (by rw [h x (by simp)])]
    exact rkeys_block fun t ht => h t (List.mem_cons_of_mem _ ht)
theorem rkeys_flat {f : Dig → List Trace} : ∀ {ks : List Dig} {p : Option Dig}, ks.Nodup → (∀ q ∈ ks, f q ≠ [] ∧ ∀ t ∈ f q, t.key = q) → (∀ q ∈ ks, p ≠ some q) → rkeysV p (ks.flatMap f) = ks
  | [], p, _, _, _ => rfl
  | q :: ks, p, hn, h, hp => by
    rw [List.nodup_cons] at hn
    obtain ⟨h1, h2⟩ := h q (by simp)
    have ih := rkeys_flat (f := f) (p := some q) hn.2 (fun q' hq => h q' (List.mem_cons_of_mem _ hq)) fun q' hq e => hn.1 (by cases e; exact hq)
    rw [List.flatMap_cons]
    obtain ⟨x, b, hb⟩ := List.exists_cons_of_ne_nil h1
    rw [hb] at h2 ⊢
    have hx := h2 x (by simp)
    rw [List.cons_append, rkeysV, hx, if_neg (hp q (by simp)), rkeys_block fun t ht => h2 t (List.mem_cons_of_mem _ ht), ih]
theorem rkeys_row {L : DbL} (h : OKD L) : rkeysV none (rowOf L) = srtK (L.map Prod.fst) :=
  rkeys_flat (srtK_nodup h.1) (fun q hq => getD_ok h (srtK_mem.1 hq)) fun q _ => by simp
theorem bytes_row (mo : Nat) (L : DbL) : dbL mo L (srtK (L.map Prod.fst)) = Lib.itoa mo :: (rowOf L).map bytS := by
  unfold dbL rowOf
  rw [List.map_flatMap]; rfl
theorem addL_ne {mo : Nat} (hm : 1 ≤ mo) (t : Trace) (ts : List Trace) : addL mo t ts ≠ [] := by
  obtain ⟨q, rfl⟩ : ∃ q, mo = q + 1 := ⟨mo - 1, by omega⟩
  simp [addL]
theorem OKD_put {mo : Nat} (hm : 1 ≤ mo) {L : DbL} (h : OKD L) (t : Trace) : OKD (putD t.key (addL mo t (getD L t.key)) L) := by
  refine ⟨nodup_put h.1, fun p hp => ?_⟩
  rcases putD_mem hp with rfl | hp
  · refine ⟨addL_ne hm _ _, fun x hx => ?_⟩
    have hx := List.mem_of_mem_take hx
    rcases List.mem_cons.1 hx with rfl | hx
    · rfl
    · rw [kp_eq] at hx
      obtain ⟨hx, _⟩ := List.mem_filter.1 hx
      by_cases hk : t.key ∈ L.map Prod.fst
      · exact (getD_ok h hk).2 x hx
      · rw [getD_no hk] at hx; simp at hx
  · exact h.2 p hp
theorem OKD_add {mo : Nat} (hm : 1 ≤ mo) {L : DbL} (h : OKD L) (t : Trace) : OKD (addD mo L t) := by
  unfold addD
  split
  · exact OKD_put hm h t
  · exact h
theorem OKD_nil : OKD [] := ⟨by simp, fun p hp => by simp at hp⟩
end Go.Proofs.YthdgnfnalimcnaaGreatDoor
end
section
set_option maxRecDepth 100000
/-! The document's rows: Less, Of, Drop. -/
namespace Go.Proofs.YthdgnfnalimcnaaGreatDoor
open Go Go.Ab
open Classical
variable [Sel] [SelPow]

@[simp] theorem fnok39 : fnOK Tryz.prog 39 = true := by kernel_rfl
@[simp] theorem isne39 : isNE Tryz.prog (.func 39) = false := isNE_func fnok39
@[simp] theorem fnok16 : fnOK Tryz.prog 16 = true := by kernel_rfl
@[simp] theorem isne16 : isNE Tryz.prog (.func 16) = false := isNE_func fnok16
@[simp] theorem fnok17 : fnOK Tryz.prog 17 = true := by kernel_rfl
@[simp] theorem isne17 : isNE Tryz.prog (.func 17) = false := isNE_func fnok17
theorem cb_drop {a b : List UInt8} {k : Nat} (h : k < a.length) (h' : k < b.length) (he : a[k] = b[k]) : Lib.compareBytes (a.drop k) (b.drop k) = Lib.compareBytes (a.drop (k+1)) (b.drop (k+1)) := by
  rw [List.drop_eq_getElem_cons h, List.drop_eq_getElem_cons h', he]
  simp [Lib.compareBytes, UInt8.lt_irrefl]
theorem cb_diff {a b : List UInt8} {k : Nat} (h : k < a.length) (h' : k < b.length) (he : ¬ a[k] = b[k]) : (Lib.compareBytes (a.drop k) (b.drop k) < 0) = (a[k].toNat < b[k].toNat) := by
  rw [List.drop_eq_getElem_cons h, List.drop_eq_getElem_cons h']
  have e : ¬ a[k].toNat = b[k].toNat := fun e => he (UInt8.toNat_inj.1 e)
  rw [Lib.compareBytes]
  by_cases hl : a[k] < b[k]
  · have := UInt8.lt_iff_toNat_lt.1 hl
    simp [hl, this]
  · have h2 : b[k] < a[k] := by
      rcases u8_tri a[k] b[k] with h | h | h
      · exact absurd h hl
      · exact absurd h he
      · exact h
    have := UInt8.lt_iff_toNat_lt.1 h2
    have h3 : ¬ a[k].toNat < b[k].toNat := by omega
    simp [hl, h2, h3]
theorem encD_get (d : Dig) (k : Nat) (h : k < d.length) : (d.map fun b => AV.i .u8 b.toNat)[k]? = some (.i .u8 d[k].toNat) := by simp [List.getElem?_eq_getElem h]
set_option maxHeartbeats 4000000 in
theorem less_ok (a b : Dig) (ha : a.length = 32) (hb : b.length = 32) : PC Tryz.prog 39 [.av (tyOf Tryz.prog 30) (encD a), .av (tyOf Tryz.prog 30) (encD b)] (.av .bool (.b (ltL a b))) := by
  refine PC.of <| ACalls.of_vc laid mixed Tryz.func39 rfl (by kernel_rfl) cf0 (by simp [Tryz.ntmps39]) fun imm0 w0 => ?_
  (simp (maxSteps := 2000000) (disch := first | omega | assumption) [zz, -List.reduceReplicate])
  refine AT.loop' (α := Nat) (fun k => St.of [(2, .loc 2 []), (3, .loc 3 []), (5, .av (.int .i64) (.i .i64 k))] [(2, (tyOf Tryz.prog 30, encD a)), (3, (tyOf Tryz.prog 30, encD b))] (fun _ => 0) [])
    (fun k => k ≤ 32 ∧ Lib.compareBytes a b = Lib.compareBytes (a.drop k) (b.drop k)) (fun k => 32 - k) 0 ?_ ?_ ?_
  · refine Le.of ?_ ?_ ?_ ?_ ?_ <;> simp [leTV, locsIn, lk_nil] <;> try omega
  · simp
  rintro k ⟨hk, hcb⟩ KL hN hE
  refine vc_sound (cf := cf0) laid mixed _ _ _ (by kernel_rfl) ?_
  by_cases hlt : k < 32
  · have hlt' : (k : Int) < 32 := by omega
    have ga := encD_get a k (by omega)
    have gb := encD_get b k (by omega)
    by_cases he : a[k] = b[k]
    · have hn := cb_drop (a := a) (b := b) (k := k) (by omega) (by omega) he
      rw [he] at ga
      (simp (maxSteps := 2000000) (disch := first | omega | assumption) [zz, -List.reduceReplicate, hlt', encD, ga, gb])
      refine hN _ (k+1) ?_ ⟨by omega, by rw [hcb, hn]⟩ (by omega)
      refine Le.of ?_ ?_ ?_ ?_ ?_ <;> simp [leTV, locsIn, encD] <;> try omega
    · have e : ¬ a[k].toNat = b[k].toNat := fun e => he (UInt8.toNat_inj.1 e)
      have e' : ¬ (a[k].toNat : Int) = b[k].toNat := by omega
      have hz : ltL a b = decide ((a[k].toNat : Int) < b[k].toNat) := by
        rw [ltL, hcb]
        simp only [cb_diff (by omega : k < a.length) (by omega : k < b.length) he]
        simp
      (simp (maxSteps := 2000000) (disch := first | omega | assumption) [zz, -List.reduceReplicate, hlt', encD, ga, gb, e, e'])
      refine hE _ _ (by simp) ?_
      (simp (maxSteps := 2000000) (disch := first | omega | assumption) [zz, -List.reduceReplicate, Tryz.f39, hz])
  · have hlt' : ¬ (k : Int) < 32 := by omega
    have hz : ltL a b = false := by
      rw [ltL, hcb, List.drop_of_length_le (by omega), List.drop_of_length_le (by omega)]; rfl
    (simp (maxSteps := 2000000) (disch := first | omega | assumption) [zz, -List.reduceReplicate, hlt'])
    refine hE _ _ (by simp) ?_
    (simp (maxSteps := 2000000) (disch := first | omega | assumption) [zz, -List.reduceReplicate, Tryz.f39, hz])
theorem encTraces_trs' (l : List Trace) : encTraces l = .sl .no (trs l) := rfl
set_option maxHeartbeats 8000000 in
theorem rof_ok (l : List Trace) (k : Dig) (hl : l.length ≤ 1000) : PC Tryz.prog 16 [.av (.slice 34) (encTraces l), .av (tyOf Tryz.prog 30) (encD k)] (.av (.slice 34) (encTraces (rofV l k))) := by
  refine PC.of <| ACalls.of_vc laid mixed Tryz.func16 rfl (by kernel_rfl) cf0 (by simp [Tryz.ntmps16]) fun imm0 w0 => ?_
  (simp (maxSteps := 2000000) (disch := first | omega | assumption) [zz, -List.reduceReplicate, encTraces_trs'])
  obtain ⟨F, hF⟩ : ∃ F : Nat → List Trace, F = fun n => rofV (l.take n) k := ⟨_, rfl⟩
  have hF0 : F 0 = [] := by rw [hF]; rfl
  have hFe : F l.length = rofV l k := by rw [hF]; simp only; rw [List.take_length]
  have hFs : ∀ n (h : n < l.length), F (n+1) = F n ++ if l[n].key = k then [l[n]] else [] := fun n h => by
    rw [hF]; simp only [rofV]
    rw [List.take_succ_eq_append_getElem h, List.filter_append]
    by_cases e : l[n].key = k <;> simp [e]
  have hFl : ∀ n, (F n).length ≤ 1000 := fun n => by
    rw [hF]; simp only [rofV]
    have := List.length_filter_le (fun x : Trace => decide (x.key = k)) (l.take n)
    rw [List.length_take] at this
    omega
  refine AT.loop' (α := Nat) (fun q => St.of [(0, .av (.slice 34) (.sl .no (trs l))), (3, .loc 3 []), (5, .av (.slice 34) (.sl (tkO 26 (F q).length) (trs (F q)))), (6, .av (.int .i64) (.i .i64 q))] [(3, (tyOf Tryz.prog 30, encD k))] (fun j => if j = 26 then (F q).length else 0) [])
    (fun q => q ≤ l.length) (fun q => l.length - q) 0 ?_ ?_ ?_
  · refine Le.of ?_ ?_ ?_ ?_ ?_ <;> simp [leTV, locsIn, hF0, tkO, trs] <;> try omega
  · simp
  rintro q hq KL hN hE
  refine vc_sound (cf := cf0) laid mixed _ _ _ (by kernel_rfl) ?_
  by_cases hlt : q < l.length
  · have hlt' : (q : Int) < l.length := by omega
    have hg := trs_get l q hlt
    have hs := hFs q hlt
    have hfl := hFl q
    obtain ⟨x, hx⟩ : ∃ x, x = l[q] := ⟨_, rfl⟩
    rw [← hx] at hg hs
    by_cases he : x.key = k
    · have hs2 : F (q+1) = F q ++ [x] := by rw [hs, if_pos (by simp [he])]
      have htl : ∀ y : List Trace, (trs y).length = y.length := fun y => by simp [trs]
      rcases Nat.eq_zero_or_pos (F q).length with h0 | h0
      · have hw : F q = [] := List.eq_nil_of_length_eq_zero h0
        have htr : trs [] = [] := rfl
        (simp (maxSteps := 2000000) (disch := first | omega | assumption) [zz, -List.reduceReplicate, hlt', hg, encTrace, encD, he, encD_inj', hw, tkO, appendV, htr])
        (repeat ((with_reducible refine And.intro ?_ ?_); (· first | omega | (show barB _ _ = true; kernel_rfl) | (show rdJ _ _ _ _ _ = true; kernel_rfl) | (show tailB _ _ _ = true; kernel_rfl) | (show sftB _ _ _ = true; kernel_rfl))))
        refine hN _ (q+1) ?_ (by omega) (by omega)
        refine Le.of ?_ ?_ ?_ ?_ ?_ <;> simp [leTV, locsIn, encTrace, encD, hs2, hw, trs, tkO, he] <;> try omega
        all_goals (intro i; by_cases hi : i = 26 <;> simp [hi])
      · have htp := tkO_pos 26 h0
        (simp (maxSteps := 2000000) (disch := first | omega | assumption) [zz, -List.reduceReplicate, hlt', hg, encTrace, encD, he, encD_inj', htp, appendV, htl])
        (repeat ((with_reducible refine And.intro ?_ ?_); (· first | omega | (show barB _ _ = true; kernel_rfl) | (show rdJ _ _ _ _ _ = true; kernel_rfl) | (show tailB _ _ _ = true; kernel_rfl) | (show sftB _ _ _ = true; kernel_rfl))))
        refine hN _ (q+1) ?_ (by omega) (by omega)
        refine Le.of ?_ ?_ ?_ ?_ ?_ <;> simp [leTV, locsIn, encTrace, encD, hs2, trs_app, trs_one, tkO, he] <;> try omega
        all_goals (intro i; by_cases hi : i = 26 <;> simp [hi])
    · have hs2 : F (q+1) = F q := by rw [hs, if_neg (by simp [he]), List.append_nil]
      (simp (maxSteps := 2000000) (disch := first | omega | assumption) [zz, -List.reduceReplicate, hlt', hg, encTrace, encD, he, encD_inj'])
      refine hN _ (q+1) ?_ (by omega) (by omega)
      refine Le.of ?_ ?_ ?_ ?_ ?_ <;> simp [leTV, locsIn, encTrace, encD, hs2] <;> try omega
  · have hlt' : ¬ (q : Int) < l.length := by omega
    have hqn : q = l.length := by omega
    subst hqn
    rw [hFe]
    (simp (maxSteps := 2000000) (disch := first | omega | assumption) [zz, -List.reduceReplicate, hlt'])
    refine hE _ _ (by simp) ?_
    (simp (maxSteps := 2000000) (disch := first | omega | assumption) [zz, -List.reduceReplicate, Tryz.f16, ers_trs, encTraces_trs'])
set_option maxHeartbeats 8000000 in
theorem rdrop_ok (l : List Trace) (k : Dig) (hl : l.length ≤ 1000) : PC Tryz.prog 17 [.av (.slice 34) (encTraces l), .av (tyOf Tryz.prog 30) (encD k)] (.av (.slice 34) (encTraces (rdropV l k))) := by
  refine PC.of <| ACalls.of_vc laid mixed Tryz.func17 rfl (by kernel_rfl) cf0 (by simp [Tryz.ntmps17]) fun imm0 w0 => ?_
  (simp (maxSteps := 2000000) (disch := first | omega | assumption) [zz, -List.reduceReplicate, encTraces_trs'])
  obtain ⟨F, hF⟩ : ∃ F : Nat → List Trace, F = fun n => rdropV (l.take n) k := ⟨_, rfl⟩
  have hF0 : F 0 = [] := by rw [hF]; rfl
  have hFe : F l.length = rdropV l k := by rw [hF]; simp only; rw [List.take_length]
  have hFs : ∀ n (h : n < l.length), F (n+1) = F n ++ if l[n].key ≠ k then [l[n]] else [] := fun n h => by
    rw [hF]; simp only [rdropV]
    rw [List.take_succ_eq_append_getElem h, List.filter_append]
    by_cases e : l[n].key = k <;> simp [e]
  have hFl : ∀ n, (F n).length ≤ 1000 := fun n => by
    rw [hF]; simp only [rdropV]
    have := List.length_filter_le (fun x : Trace => decide (x.key ≠ k)) (l.take n)
    rw [List.length_take] at this
    omega
  refine AT.loop' (α := Nat) (fun q => St.of [(0, .av (.slice 34) (.sl .no (trs l))), (3, .loc 3 []), (5, .av (.slice 34) (.sl (tkO 26 (F q).length) (trs (F q)))), (6, .av (.int .i64) (.i .i64 q))] [(3, (tyOf Tryz.prog 30, encD k))] (fun j => if j = 26 then (F q).length else 0) [])
    (fun q => q ≤ l.length) (fun q => l.length - q) 0 ?_ ?_ ?_
  · refine Le.of ?_ ?_ ?_ ?_ ?_ <;> simp [leTV, locsIn, hF0, tkO, trs] <;> try omega
  · simp
  rintro q hq KL hN hE
  refine vc_sound (cf := cf0) laid mixed _ _ _ (by kernel_rfl) ?_
  by_cases hlt : q < l.length
  · have hlt' : (q : Int) < l.length := by omega
    have hg := trs_get l q hlt
    have hs := hFs q hlt
    have hfl := hFl q
    obtain ⟨x, hx⟩ : ∃ x, x = l[q] := ⟨_, rfl⟩
    rw [← hx] at hg hs
    by_cases he : x.key = k
    · have hs2 : F (q+1) = F q := by rw [hs, if_neg (by simp [he]), List.append_nil]
      (simp (maxSteps := 2000000) (disch := first | omega | assumption) [zz, -List.reduceReplicate, hlt', hg, encTrace, encD, he, encD_inj'])
      refine hN _ (q+1) ?_ (by omega) (by omega)
      refine Le.of ?_ ?_ ?_ ?_ ?_ <;> simp [leTV, locsIn, encTrace, encD, hs2] <;> try omega
    · have hs2 : F (q+1) = F q ++ [x] := by rw [hs, if_pos (by simp [he])]
      have htl : ∀ y : List Trace, (trs y).length = y.length := fun y => by simp [trs]
      rcases Nat.eq_zero_or_pos (F q).length with h0 | h0
      · have hw : F q = [] := List.eq_nil_of_length_eq_zero h0
        have htr : trs [] = [] := rfl
        (simp (maxSteps := 2000000) (disch := first | omega | assumption) [zz, -List.reduceReplicate, hlt', hg, encTrace, encD, he, encD_inj', hw, tkO, appendV, htr])
        (repeat ((with_reducible refine And.intro ?_ ?_); (· first | omega | (show barB _ _ = true; kernel_rfl) | (show rdJ _ _ _ _ _ = true; kernel_rfl) | (show tailB _ _ _ = true; kernel_rfl) | (show sftB _ _ _ = true; kernel_rfl))))
        refine hN _ (q+1) ?_ (by omega) (by omega)
        refine Le.of ?_ ?_ ?_ ?_ ?_ <;> simp [leTV, locsIn, encTrace, encD, hs2, hw, trs, tkO, he] <;> try omega
        all_goals (intro i; by_cases hi : i = 26 <;> simp [hi])
      · have htp := tkO_pos 26 h0
        (simp (maxSteps := 2000000) (disch := first | omega | assumption) [zz, -List.reduceReplicate, hlt', hg, encTrace, encD, he, encD_inj', htp, appendV, htl])
        (repeat ((with_reducible refine And.intro ?_ ?_); (· first | omega | (show barB _ _ = true; kernel_rfl) | (show rdJ _ _ _ _ _ = true; kernel_rfl) | (show tailB _ _ _ = true; kernel_rfl) | (show sftB _ _ _ = true; kernel_rfl))))
        refine hN _ (q+1) ?_ (by omega) (by omega)
        refine Le.of ?_ ?_ ?_ ?_ ?_ <;> simp [leTV, locsIn, encTrace, encD, hs2, trs_app, trs_one, tkO, he] <;> try omega
        all_goals (intro i; by_cases hi : i = 26 <;> simp [hi])
  · have hlt' : ¬ (q : Int) < l.length := by omega
    have hqn : q = l.length := by omega
    subst hqn
    rw [hFe]
    (simp (maxSteps := 2000000) (disch := first | omega | assumption) [zz, -List.reduceReplicate, hlt'])
    refine hE _ _ (by simp) ?_
    (simp (maxSteps := 2000000) (disch := first | omega | assumption) [zz, -List.reduceReplicate, Tryz.f17, ers_trs, encTraces_trs'])
end Go.Proofs.YthdgnfnalimcnaaGreatDoor
end
section
set_option maxRecDepth 100000
/-! The document's rows: Add, Keys. -/
namespace Go.Proofs.YthdgnfnalimcnaaGreatDoor
open Go Go.Ab
open Classical
variable [Sel] [SelPow]

@[simp] theorem fnok19 : fnOK Tryz.prog 19 = true := by kernel_rfl
@[simp] theorem isne19 : isNE Tryz.prog (.func 19) = false := isNE_func fnok19
@[simp] theorem fnok40 : fnOK Tryz.prog 40 = true := by kernel_rfl
@[simp] theorem isne40 : isNE Tryz.prog (.func 40) = false := isNE_func fnok40
theorem kp_snoc (t : Trace) (l : List Trace) (x : Trace) : kp t (l ++ [x]) = kp t l ++ if x = t then [] else [x] := by
  rw [kp_eq, kp_eq, List.filter_append]
  by_cases e : x = t <;> simp [e]
noncomputable def rowP (mo : Nat) (t : Trace) (l : List Trace) (j : Nat) : List Trace := (t :: kp t (l.take j)).take mo
theorem rowP_step {mo : Nat} {t : Trace} {l : List Trace} {j : Nat} (h : j < l.length) : rowP mo t l (j+1) = rowP mo t l j ++ if (rowP mo t l j).length < mo ∧ l[j] ≠ t then [l[j]] else [] := by
  unfold rowP
  rw [List.take_succ_eq_append_getElem h, kp_snoc, List.length_take]
  by_cases e : l[j] = t
  · simp [e]
  · rw [if_neg e, ← List.cons_append]
    obtain ⟨X, hX⟩ : ∃ X, X = t :: kp t (l.take j) := ⟨_, rfl⟩
    rw [← hX]
    by_cases hl : X.length < mo
    · rw [if_pos ⟨by omega, e⟩, List.take_of_length_le (by simp; omega), List.take_of_length_le (by omega)]
    · rw [if_neg (fun h => hl (by omega)), List.append_nil, List.take_append_of_le_length (by omega)]
theorem rowP_len {mo : Nat} {t : Trace} {l : List Trace} {j : Nat} : (rowP mo t l j).length ≤ mo := by unfold rowP; rw [List.length_take]; omega
def finV (k : Dig) (row : List Trace) : Bool → List Trace → List Trace
  | true, r => r
  | false, r => r.takeWhile (fun x => !ltL k x.key) ++ row ++ r.dropWhile (fun x => !ltL k x.key)
def tkV (q : Nat) (ver : Nat → Nat) : Ab.Tok := if q = 0 then .full else .own 77 (ver 77)
theorem finV_no {k : Dig} {row r : List Trace} {x : Trace} (h : ltL k x.key = false) : finV k row false (x :: r) = x :: finV k row false r := by
  simp [finV, h]
theorem finV_yes {k : Dig} {row r : List Trace} {x : Trace} (h : ltL k x.key = true) : finV k row false (x :: r) = row ++ x :: r := by
  simp [finV, h]
theorem trs_len (y : List Trace) : (trs y).length = y.length := by simp [trs]
set_option maxHeartbeats 16000000 in
theorem radd_ok (l : List Trace) (t : Trace) (mo : Nat) (hm : 1 ≤ mo) (hm8 : mo ≤ 8) (hl : l.length ≤ 800) (hk : t.key.length = 32) (hlk : ∀ x ∈ l, x.key.length = 32) (ht : TrOK t) (hlo : ∀ x ∈ l, TrOK x) :
    PC Tryz.prog 19 [.av (.slice 34) (encTraces l), .av (tyOf Tryz.prog 34) (encTrace t), .av (.int .i64) (.i .i64 mo)] (.av (.slice 34) (encTraces (raddV mo l t))) := by
  refine PC.of <| ACalls.of_vc laid mixed Tryz.func19 rfl (by kernel_rfl) cf0 (by simp [Tryz.ntmps19]) fun imm0 w0 => ?_
  (simp (maxSteps := 2000000) (disch := first | omega | assumption) [zz, -List.reduceReplicate, encTraces_trs', encTrace])
  refine callV_pc (rof_ok l t.key (by omega)) rfl rfl (by simp) (by simp [argLe, TV.er, encTraces_trs']) ?_
  obtain ⟨old, hold⟩ : ∃ old, old = rofV l t.key := ⟨_, rfl⟩
  have hol : old.length ≤ 800 := by
    rw [hold]; unfold rofV
    exact Nat.le_trans (List.length_filter_le _ _) hl
  have hom : ∀ x ∈ old, x ∈ l := fun x hx => by rw [hold] at hx; exact (List.mem_filter.1 hx).1
  rw [← hold]
  obtain ⟨R, hR⟩ : ∃ R : Nat → List Trace, R = rowP mo t old := ⟨_, rfl⟩
  have hR0 : R 0 = [t] := by
    rw [hR]; obtain ⟨q, rfl⟩ : ∃ q, mo = q + 1 := ⟨mo - 1, by omega⟩
    simp [rowP, kp_eq]
  have hRe : R old.length = addL mo t (rofV l t.key) := by rw [hR]; unfold rowP addL; rw [List.take_length, hold]
  have hRs : ∀ j (h : j < old.length), R (j+1) = R j ++ if (R j).length < mo ∧ old[j] ≠ t then [old[j]] else [] := fun j h => by rw [hR]; exact rowP_step h
  have hRl : ∀ j, (R j).length ≤ mo := fun j => by rw [hR]; exact rowP_len
  (simp (maxSteps := 2000000) (disch := first | omega | assumption) [zz, -List.reduceReplicate, encTraces_trs'])
  refine AT.loopV (α := Nat × Nat) (fun x ver => St.of [(0, .av (.slice 34) (.sl .no (trs l))), (2, .av (.int .i64) (.i .i64 mo)), (4, .loc 4 []), (7, .av (.slice 34) (.sl (if x.2 = 0 then .full else .own 45 (ver 45)) (trs (R x.1)))), (8, .av (.slice 34) (.sl .no (trs old))), (9, .av (.int .i64) (.i .i64 x.1))] [(4, (TrT, encTrace t))] ver [])
    (fun x => x.1 ≤ old.length) (fun x => old.length - x.1) (0, 0) ?_ ?_ ?_
  · refine Le.of ?_ ?_ ?_ ?_ ?_ <;> simp [leTV, locsIn, hR0, trs, encTrace] <;> try omega
  · simp
  rintro ⟨j, q⟩ ver hj KL hN hE
  simp only at hj hN
  refine vc_sound (cf := cf0) laid mixed _ _ _ (by kernel_rfl) ?_
  by_cases hlt : j < old.length
  · have hlt' : (j : Int) < old.length := by omega
    have hg := trs_get old j hlt
    have hs := hRs j hlt
    have hrl := hRl j
    have hxo := hlo _ (hom _ (List.getElem_mem hlt))
    obtain ⟨x, hx⟩ : ∃ x, x = old[j] := ⟨_, rfl⟩
    rw [← hx] at hg hs hxo
    by_cases hfull : (R j).length < mo
    · have hfull' : ((R j).length : Int) < mo := by omega
      (simp (maxSteps := 2000000) (disch := first | omega | assumption) [zz, -List.reduceReplicate, hlt', hfull', hg, trs_len])
      (repeat ((with_reducible refine And.intro ?_ ?_); (· first | omega | (show barB _ _ = true; kernel_rfl) | (show rdJ _ _ _ _ _ = true; kernel_rfl) | (show tailB _ _ _ = true; kernel_rfl) | (show sftB _ _ _ = true; kernel_rfl))))
      refine callD_pc (rsame_ok x t hxo ht) rfl rfl (by simp) (by simp [argLe, TV.er]) ?_
      by_cases hsm : x = t
      · have hs2 : R (j+1) = R j := by rw [hs, if_neg (fun h => h.2 hsm), List.append_nil]
        have hsv : sameV x t = true := sameV_iff.2 hsm
        (simp (maxSteps := 2000000) (disch := first | omega | assumption) [zz, -List.reduceReplicate, hsv])
        (repeat ((with_reducible refine And.intro ?_ ?_); (· first | omega | (show barB _ _ = true; kernel_rfl) | (show rdJ _ _ _ _ _ = true; kernel_rfl) | (show tailB _ _ _ = true; kernel_rfl) | (show sftB _ _ _ = true; kernel_rfl))))
        refine hN _ (j+1, q) ?_ (by simp only; omega) (by simp only; omega)
        refine Le.of ?_ ?_ ?_ ?_ ?_ <;> simp [leTV, locsIn, hs2] <;> try omega
      · have hs2 : R (j+1) = R j ++ [x] := by rw [hs, if_pos ⟨hfull, hsm⟩]
        have hsv : sameV x t = false := by
          rw [Bool.eq_false_iff]; exact fun h => hsm (sameV_iff.1 h)
        by_cases hq : q = 0
        · (simp (maxSteps := 2000000) (disch := first | omega | assumption) [zz, -List.reduceReplicate, hsv, hlt', hg, hq, trs_len, appendV])
          (repeat ((with_reducible refine And.intro ?_ ?_); (· first | omega | (show barB _ _ = true; kernel_rfl) | (show rdJ _ _ _ _ _ = true; kernel_rfl) | (show tailB _ _ _ = true; kernel_rfl) | (show sftB _ _ _ = true; kernel_rfl))))
          refine hN _ (j+1, 1) ?_ (by simp only; omega) (by simp only; omega)
          refine Le.of ?_ ?_ ?_ ?_ ?_ <;> simp [leTV, locsIn, hs2, trs_app, trs_one] <;> try omega
        · (simp (maxSteps := 2000000) (disch := first | omega | assumption) [zz, -List.reduceReplicate, hsv, hlt', hg, hq, trs_len, appendV])
          (repeat ((with_reducible refine And.intro ?_ ?_); (· first | omega | (show barB _ _ = true; kernel_rfl) | (show rdJ _ _ _ _ _ = true; kernel_rfl) | (show tailB _ _ _ = true; kernel_rfl) | (show sftB _ _ _ = true; kernel_rfl))))
          refine hN _ (j+1, 1) ?_ (by simp only; omega) (by simp only; omega)
          refine Le.of ?_ ?_ ?_ ?_ ?_ <;> simp [leTV, locsIn, hs2, trs_app, trs_one] <;> try omega
    · have hfull' : ¬ ((R j).length : Int) < mo := by omega
      have hs2 : R (j+1) = R j := by rw [hs, if_neg (fun h => hfull h.1), List.append_nil]
      (simp (maxSteps := 2000000) (disch := first | omega | assumption) [zz, -List.reduceReplicate, hlt', hfull', hg, trs_len])
      (repeat ((with_reducible refine And.intro ?_ ?_); (· first | omega | (show barB _ _ = true; kernel_rfl) | (show rdJ _ _ _ _ _ = true; kernel_rfl) | (show tailB _ _ _ = true; kernel_rfl) | (show sftB _ _ _ = true; kernel_rfl))))
      refine hN _ (j+1, q) ?_ (by simp only; omega) (by simp only; omega)
      refine Le.of ?_ ?_ ?_ ?_ ?_ <;> simp [leTV, locsIn, hs2] <;> try omega
  have hlt' : ¬ (j : Int) < old.length := by omega
  have hjn : j = old.length := by omega
  subst hjn
  have hrl := hRl old.length
  rw [hRe] at hrl
  rw [hRe]
  (simp (maxSteps := 2000000) (disch := first | omega | assumption) [zz, -List.reduceReplicate, hlt'])
  refine hE _ _ (by simp) ?_
  clear hN hE
  (simp (maxSteps := 2000000) (disch := first | omega | assumption) [zz, -List.reduceReplicate, encTrace])
  refine callV_pc (rdrop_ok l t.key (by omega)) rfl rfl (by simp) (by simp [argLe, TV.er, encTraces_trs']) ?_
  obtain ⟨row, hrow⟩ : ∃ row, row = addL mo t (rofV l t.key) := ⟨_, rfl⟩
  obtain ⟨rest, hrest⟩ : ∃ rest, rest = rdropV l t.key := ⟨_, rfl⟩
  have hrel : rest.length ≤ 800 := by
    rw [hrest]; unfold rdropV
    exact Nat.le_trans (List.length_filter_le _ _) hl
  have hrem : ∀ x ∈ rest, x.key.length = 32 := fun x hx => by rw [hrest] at hx; exact hlk x (List.mem_filter.1 hx).1
  have hfin : raddV mo l t = finV t.key row false rest := by rw [hrow, hrest]; rfl
  rw [hfin, ← hrow, ← hrest]
  rw [← hrow] at hrl
  have hfl : (finV t.key row false rest).length = rest.length + row.length := by
    have := congrArg List.length (List.takeWhile_append_dropWhile (p := fun x : Trace => !ltL t.key x.key) (l := rest))
    simp only [finV, List.length_append] at this ⊢
    omega
  clear hRs hRl hRe hR0 hR hfin hrow hrest hold hom
  (simp (maxSteps := 2000000) (disch := first | omega | assumption) [zz, -List.reduceReplicate, encTraces_trs'])
  refine AT.loopV (α := Nat × List Trace × Bool) (fun x ver => St.of [(4, .loc 4 []), (7, .av (.slice 34) (.sl .no (trs row))), (10, .av (.slice 34) (.sl (tkV x.1 ver) (trs x.2.1))), (11, .av (.slice 34) (.sl .no (trs rest))), (12, .av .bool (.b x.2.2)), (13, .av (.int .i64) (.i .i64 x.1))] [(4, (TrT, encTrace t))] ver [])
    (fun x => x.1 ≤ rest.length ∧ x.2.1 ++ finV t.key row x.2.2 (rest.drop x.1) = finV t.key row false rest) (fun x => rest.length - x.1) (0, [], false) ?_ ?_ ?_
  · refine Le.of ?_ ?_ ?_ ?_ ?_ <;> simp [leTV, locsIn, tkV, trs, encTrace] <;> try omega
  · simp
  rintro ⟨q, out, d⟩ ver ⟨hq, hinv⟩ KL hN hE
  simp only at hq hinv hN
  have hol2 : out.length ≤ rest.length + row.length := by
    have := congrArg List.length hinv
    rw [List.length_append, hfl] at this; omega
  refine vc_sound (cf := cf0) laid mixed _ _ _ (by kernel_rfl) ?_
  by_cases hlt : q < rest.length
  · have hlt' : (q : Int) < rest.length := by omega
    have hg := trs_get rest q hlt
    have hdr := List.drop_eq_getElem_cons hlt
    have hxk := hrem _ (List.getElem_mem hlt)
    obtain ⟨x, hx⟩ : ∃ x, x = rest[q] := ⟨_, rfl⟩
    rw [← hx] at hg hdr hxk
    rw [hdr] at hinv
    cases d
    · by_cases hle : ltL t.key x.key = true
      · (simp (maxSteps := 2000000) (disch := first | omega | assumption) [zz, -List.reduceReplicate, hlt', hg, encTrace])
        (repeat ((with_reducible refine And.intro ?_ ?_); (· first | omega | (show barB _ _ = true; kernel_rfl) | (show rdJ _ _ _ _ _ = true; kernel_rfl) | (show tailB _ _ _ = true; kernel_rfl) | (show sftB _ _ _ = true; kernel_rfl))))
        refine callD_pc (less_ok t.key x.key hk hxk) rfl rfl (by simp) (by simp [argLe, TV.er]) ?_
        by_cases hq0 : q = 0
        · subst hq0
          (simp (maxSteps := 2000000) (disch := first | omega | assumption) [zz, -List.reduceReplicate, hle, hlt', hg, tkV, appendV, trs_len])
          (repeat ((with_reducible refine And.intro ?_ ?_); (· first | omega | (show barB _ _ = true; kernel_rfl) | (show rdJ _ _ _ _ _ = true; kernel_rfl) | (show tailB _ _ _ = true; kernel_rfl) | (show sftB _ _ _ = true; kernel_rfl))))
          refine hN _ (1, out ++ row ++ [x], true) ?_ ⟨by simp only; omega, by simp only; rw [← hinv, finV_yes hle]; simp [finV]⟩ (by simp only; omega)
          refine Le.of ?_ ?_ ?_ ?_ ?_ <;> simp [leTV, locsIn, tkV, trs_app, trs_one, encTrace] <;> try omega
        · (simp (maxSteps := 2000000) (disch := first | omega | assumption) [zz, -List.reduceReplicate, hle, hlt', hg, tkV, hq0, appendV, trs_len])
          (repeat ((with_reducible refine And.intro ?_ ?_); (· first | omega | (show barB _ _ = true; kernel_rfl) | (show rdJ _ _ _ _ _ = true; kernel_rfl) | (show tailB _ _ _ = true; kernel_rfl) | (show sftB _ _ _ = true; kernel_rfl))))
          refine hN _ (q+1, out ++ row ++ [x], true) ?_ ⟨by simp only; omega, by simp only; rw [← hinv, finV_yes hle]; simp [finV]⟩ (by simp only; omega)
          refine Le.of ?_ ?_ ?_ ?_ ?_ <;> simp [leTV, locsIn, tkV, trs_app, trs_one, encTrace] <;> try omega
      · have hle : ltL t.key x.key = false := by simpa using hle
        (simp (maxSteps := 2000000) (disch := first | omega | assumption) [zz, -List.reduceReplicate, hlt', hg, encTrace])
        (repeat ((with_reducible refine And.intro ?_ ?_); (· first | omega | (show barB _ _ = true; kernel_rfl) | (show rdJ _ _ _ _ _ = true; kernel_rfl) | (show tailB _ _ _ = true; kernel_rfl) | (show sftB _ _ _ = true; kernel_rfl))))
        refine callD_pc (less_ok t.key x.key hk hxk) rfl rfl (by simp) (by simp [argLe, TV.er]) ?_
        by_cases hq0 : q = 0
        · subst hq0
          (simp (maxSteps := 2000000) (disch := first | omega | assumption) [zz, -List.reduceReplicate, hle, hlt', hg, tkV, appendV, trs_len])
          (repeat ((with_reducible refine And.intro ?_ ?_); (· first | omega | (show barB _ _ = true; kernel_rfl) | (show rdJ _ _ _ _ _ = true; kernel_rfl) | (show tailB _ _ _ = true; kernel_rfl) | (show sftB _ _ _ = true; kernel_rfl))))
          refine hN _ (1, out ++ [x], false) ?_ ⟨by simp only; omega, by simp only; rw [← hinv, finV_no hle]; simp⟩ (by simp only; omega)
          refine Le.of ?_ ?_ ?_ ?_ ?_ <;> simp [leTV, locsIn, tkV, trs_app, trs_one, encTrace] <;> try omega
        · (simp (maxSteps := 2000000) (disch := first | omega | assumption) [zz, -List.reduceReplicate, hle, hlt', hg, tkV, hq0, appendV, trs_len])
          (repeat ((with_reducible refine And.intro ?_ ?_); (· first | omega | (show barB _ _ = true; kernel_rfl) | (show rdJ _ _ _ _ _ = true; kernel_rfl) | (show tailB _ _ _ = true; kernel_rfl) | (show sftB _ _ _ = true; kernel_rfl))))
          refine hN _ (q+1, out ++ [x], false) ?_ ⟨by simp only; omega, by simp only; rw [← hinv, finV_no hle]; simp⟩ (by simp only; omega)
          refine Le.of ?_ ?_ ?_ ?_ ?_ <;> simp [leTV, locsIn, tkV, trs_app, trs_one, encTrace] <;> try omega
    · by_cases hq0 : q = 0
      · subst hq0
        have hp1 : 0 < rest.length := by omega
        have hp2 : (0 : Int) < rest.length := by omega
        have hp3 : ¬ rest = [] := fun e => by rw [e] at hp1; simp at hp1
        (simp (maxSteps := 2000000) (disch := first | omega | assumption) [zz, -List.reduceReplicate, hlt', hp1, hp2, hp3, hg, tkV, appendV, trs_len, encTrace])
        (repeat ((with_reducible refine And.intro ?_ ?_); (· first | omega | (show barB _ _ = true; kernel_rfl) | (show rdJ _ _ _ _ _ = true; kernel_rfl) | (show tailB _ _ _ = true; kernel_rfl) | (show sftB _ _ _ = true; kernel_rfl))))
        refine hN _ (1, out ++ [x], true) ?_ ⟨by simp only; omega, by simp only; rw [← hinv]; simp [finV]⟩ (by simp only; omega)
        refine Le.of ?_ ?_ ?_ ?_ ?_ <;> simp [leTV, locsIn, tkV, trs_app, trs_one, encTrace] <;> try omega
      · (simp (maxSteps := 2000000) (disch := first | omega | assumption) [zz, -List.reduceReplicate, hlt', hg, tkV, hq0, appendV, trs_len, encTrace])
        (repeat ((with_reducible refine And.intro ?_ ?_); (· first | omega | (show barB _ _ = true; kernel_rfl) | (show rdJ _ _ _ _ _ = true; kernel_rfl) | (show tailB _ _ _ = true; kernel_rfl) | (show sftB _ _ _ = true; kernel_rfl))))
        refine hN _ (q+1, out ++ [x], true) ?_ ⟨by simp only; omega, by simp only; rw [← hinv]; simp [finV]⟩ (by simp only; omega)
        refine Le.of ?_ ?_ ?_ ?_ ?_ <;> simp [leTV, locsIn, tkV, trs_app, trs_one, encTrace] <;> try omega
  have hlt' : ¬ (q : Int) < rest.length := by omega
  rw [List.drop_of_length_le (by omega)] at hinv
  (simp (maxSteps := 2000000) (disch := first | omega | assumption) [zz, -List.reduceReplicate, hlt'])
  refine hE _ _ (by simp) ?_
  rw [← hinv]
  cases d
  · have hf : out ++ finV t.key row false [] = out ++ row := by simp [finV]
    rw [hf]
    by_cases hq0 : q = 0
    · (simp (maxSteps := 2000000) (disch := first | omega | assumption) [zz, -List.reduceReplicate, tkV, hq0, appendV, trs_len])
      (repeat ((with_reducible refine And.intro ?_ ?_); (· first | omega | (show barB _ _ = true; kernel_rfl) | (show rdJ _ _ _ _ _ = true; kernel_rfl) | (show tailB _ _ _ = true; kernel_rfl) | (show sftB _ _ _ = true; kernel_rfl))))
      (simp (maxSteps := 2000000) (disch := first | omega | assumption) [zz, -List.reduceReplicate, Tryz.f19, ers_trs, encTraces_trs', trs_app])
      rw [← trs_app]
      exact ers_trs _
    · (simp (maxSteps := 2000000) (disch := first | omega | assumption) [zz, -List.reduceReplicate, tkV, hq0, appendV, trs_len])
      (repeat ((with_reducible refine And.intro ?_ ?_); (· first | omega | (show barB _ _ = true; kernel_rfl) | (show rdJ _ _ _ _ _ = true; kernel_rfl) | (show tailB _ _ _ = true; kernel_rfl) | (show sftB _ _ _ = true; kernel_rfl))))
      (simp (maxSteps := 2000000) (disch := first | omega | assumption) [zz, -List.reduceReplicate, Tryz.f19, ers_trs, encTraces_trs', trs_app])
      rw [← trs_app]
      exact ers_trs _
  · have hf : out ++ finV t.key row true [] = out := by simp [finV]
    rw [hf]
    (simp (maxSteps := 2000000) (disch := first | omega | assumption) [zz, -List.reduceReplicate, Tryz.f19, ers_trs, encTraces_trs'])
set_option maxHeartbeats 8000000 in
theorem rkeys_ok (l : List Trace) (hl : l.length ≤ 800) : PC Tryz.prog 40 [.av (.slice 34) (encTraces l)] (.av DgS (encDigs (rkeysV none l))) := by
  refine PC.of <| ACalls.of_vc laid mixed Tryz.func40 rfl (by kernel_rfl) cf0 (by simp [Tryz.ntmps40]) fun imm0 w0 => ?_
  (simp (maxSteps := 2000000) (disch := first | omega | assumption) [zz, -List.reduceReplicate, encTraces_trs'])
  obtain ⟨F, hF⟩ : ∃ F : Nat → List Dig, F = fun n => rkeysV none (l.take n) := ⟨_, rfl⟩
  have hF0 : F 0 = [] := by rw [hF]; rfl
  have hFe : F l.length = rkeysV none l := by rw [hF]; simp only; rw [List.take_length]
  have hFs : ∀ n (h : n < l.length), F (n+1) = F n ++ if lastK none (l.take n) = some l[n].key then [] else [l[n].key] := fun n h => by
    rw [hF]; simp only
    rw [List.take_succ_eq_append_getElem h, rkeys_snoc]
  have hFl : ∀ n, n ≤ l.length → (F n).length ≤ n := by
    intro n
    induction n with
    | zero => intro _; rw [hF0]; simp
    | succ n ih =>
      intro h
      have := ih (by omega)
      rw [hFs n (by omega), List.length_append]
      split <;> simp <;> omega
  have hla : ∀ n (h : n < l.length), lastK none (l.take (n+1)) = some l[n].key := fun n h => by
    rw [List.take_succ_eq_append_getElem h]; simp only [lastK, List.getLast?_concat, Option.map_some, Option.some_or]
  clear hF
  refine AT.loop' (α := Nat) (fun q => St.of [(0, .av (.slice 34) (.sl .no (trs l))), (3, .av DgS (.sl (tkO 34 (F q).length) ((F q).map encD))), (4, .av (.int .i64) (.i .i64 q))] [] (fun j => if j = 34 then (F q).length else 0) [])
    (fun q => q ≤ l.length) (fun q => l.length - q) 0 ?_ ?_ ?_
  · refine Le.of ?_ ?_ ?_ ?_ ?_ <;> simp [leTV, locsIn, hF0, tkO] <;> try omega
  · simp
  rintro q hq KL hN hE
  refine vc_sound (cf := cf0) laid mixed _ _ _ (by kernel_rfl) ?_
  by_cases hlt : q < l.length
  · have hlt' : (q : Int) < l.length := by omega
    have hg := trs_get l q hlt
    have hs := hFs q hlt
    have hfl := hFl q hq
    by_cases hq0 : q = 0
    · subst hq0
      have hs2 : F 1 = [l[0].key] := by rw [hs, hF0]; simp [lastK]
      have hp1 : 0 < l.length := by omega
      have hp2 : (0 : Int) < l.length := by omega
      have hp3 : ¬ l = [] := fun e => by rw [e] at hp1; simp at hp1
      (simp (maxSteps := 2000000) (disch := first | omega | assumption) [zz, -List.reduceReplicate, hp1, hp2, hp3, hg, encTrace, hF0, tkO, appendV])
      (repeat ((with_reducible refine And.intro ?_ ?_); (· first | omega | (show barB _ _ = true; kernel_rfl) | (show rdJ _ _ _ _ _ = true; kernel_rfl) | (show tailB _ _ _ = true; kernel_rfl) | (show sftB _ _ _ = true; kernel_rfl))))
      refine hN _ 1 ?_ (by omega) (by omega)
      refine Le.of ?_ ?_ ?_ ?_ ?_ <;> simp [leTV, locsIn, hs2, tkO] <;> try omega
      all_goals (intro i; by_cases hi : i = 34 <;> simp [hi])
    · obtain ⟨p, rfl⟩ : ∃ p, q = p + 1 := ⟨q - 1, by omega⟩
      have hp : p < l.length := by omega
      have hgp := trs_get l p hp
      have hlp := hla p hp
      rw [hlp] at hs
      have hqi : ¬ (p : Int) + 1 = 0 := by omega
      have hli : (p : Int) + 1 < l.length := by omega
      have hpi : (p : Int) < l.length := by omega
      have htn : ((p : Int) + 1 - 1).toNat = p := by omega
      have htm : ((p : Int) + 1).toNat = p + 1 := by omega
      obtain ⟨x, hx⟩ : ∃ x, x = l[p+1] := ⟨_, rfl⟩
      obtain ⟨y, hy⟩ : ∃ y, y = l[p] := ⟨_, rfl⟩
      rw [← hx] at hg hs
      rw [← hy] at hgp hs
      by_cases he : x.key = y.key
      · have hs2 : F (p+1+1) = F (p+1) := by rw [hs, if_pos (by rw [he]), List.append_nil]
        (simp (maxSteps := 2000000) (disch := first | omega | assumption) [zz, -List.reduceReplicate, hlt', hqi, hli, hpi, htn, htm, hg, hgp, encTrace, encD, he, encD_inj'])
        (repeat ((with_reducible refine And.intro ?_ ?_); (· first | omega | (show barB _ _ = true; kernel_rfl) | (show rdJ _ _ _ _ _ = true; kernel_rfl) | (show tailB _ _ _ = true; kernel_rfl) | (show sftB _ _ _ = true; kernel_rfl))))
        refine hN _ (p+1+1) ?_ (by omega) (by omega)
        refine Le.of ?_ ?_ ?_ ?_ ?_ <;> simp [leTV, locsIn, hs2] <;> try omega
      · have he2 : ¬ y.key = x.key := fun e => he e.symm
        have hs2 : F (p+1+1) = F (p+1) ++ [x.key] := by rw [hs, if_neg (fun e => he2 (Option.some.inj e))]
        obtain ⟨w, hw⟩ : ∃ w, w = F (p+1) := ⟨_, rfl⟩
        rw [← hw] at hs2 hfl ⊢
        rcases Nat.eq_zero_or_pos w.length with h0 | h0
        · have hwn : w = [] := List.eq_nil_of_length_eq_zero h0
          subst hwn
          (simp (maxSteps := 2000000) (disch := first | omega | assumption) [zz, -List.reduceReplicate, hlt', hqi, hli, hpi, htn, htm, hg, hgp, encTrace, encD, he, encD_inj', tkO, appendV])
          (repeat ((with_reducible refine And.intro ?_ ?_); (· first | omega | (show barB _ _ = true; kernel_rfl) | (show rdJ _ _ _ _ _ = true; kernel_rfl) | (show tailB _ _ _ = true; kernel_rfl) | (show sftB _ _ _ = true; kernel_rfl))))
          refine hN _ (p+1+1) ?_ (by omega) (by omega)
          refine Le.of ?_ ?_ ?_ ?_ ?_ <;> simp [leTV, locsIn, hs2, tkO, encD] <;> try omega
          all_goals (intro i; by_cases hi : i = 34 <;> simp [hi])
        · have htp := tkO_pos 34 h0
          (simp (maxSteps := 2000000) (disch := first | omega | assumption) [zz, -List.reduceReplicate, hlt', hqi, hli, hpi, htn, htm, hg, hgp, encTrace, encD, he, encD_inj', htp, appendV, List.length_map])
          (repeat ((with_reducible refine And.intro ?_ ?_); (· first | omega | (show barB _ _ = true; kernel_rfl) | (show rdJ _ _ _ _ _ = true; kernel_rfl) | (show tailB _ _ _ = true; kernel_rfl) | (show sftB _ _ _ = true; kernel_rfl))))
          refine hN _ (p+1+1) ?_ (by omega) (by omega)
          refine Le.of ?_ ?_ ?_ ?_ ?_ <;> simp [leTV, locsIn, hs2, tkO, encD] <;> try omega
          all_goals (intro i; by_cases hi : i = 34 <;> simp [hi])
  · have hlt' : ¬ (q : Int) < l.length := by omega
    have hqn : q = l.length := by omega
    subst hqn
    rw [hFe]
    (simp (maxSteps := 2000000) (disch := first | omega | assumption) [zz, -List.reduceReplicate, hlt'])
    refine hE _ _ (by simp) ?_
    (simp (maxSteps := 2000000) (disch := first | omega | assumption) [zz, -List.reduceReplicate, Tryz.f40, encDigs])
    simp [AV.ers_eq, Function.comp_def]
end Go.Proofs.YthdgnfnalimcnaaGreatDoor
end
