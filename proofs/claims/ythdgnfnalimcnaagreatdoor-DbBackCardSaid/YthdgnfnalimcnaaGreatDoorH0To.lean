/- A db as one row of traces: the document. No condition beyond each theorem's own. -/
import Derived.Test.YthdgnfnalimcnaaGreatDoorG1To
import Derived.Test.YthdgnfnalimcnaaGreatDoorD9aTo0
set_option linter.unusedSimpArgs false
set_option linter.unusedVariables false
set_option linter.unusedSectionVars false
section
set_option maxRecDepth 100000
/-! A db as one row of traces: the document. -/
namespace Go.Proofs.YthdgnfnalimcnaaGreatDoor
open Go Go.Ab
open Classical
variable [Sel] [SelPow]

def OKD (L : DbL) : Prop := (L.map Prod.fst).Nodup ∧ ∀ p ∈ L, p.2 ≠ [] ∧ ∀ t ∈ p.2, t.key = p.1
noncomputable def rowOf (L : DbL) : List Trace := (srtK (L.map Prod.fst)).flatMap (getD L)
def rofV (l : List Trace) (k : Dig) : List Trace := l.filter fun x => decide (x.key = k)
def rdropV (l : List Trace) (k : Dig) : List Trace := l.filter fun x => decide (x.key ≠ k)
def delD (k : Dig) (L : DbL) : DbL := L.filter fun p => decide (p.1 ≠ k)
theorem getD_has {L : DbL} (h : (L.map Prod.fst).Nodup) {p : Dig × List Trace} (hp : p ∈ L) : getD L p.1 = p.2 := by
  induction L with
  | nil => simp at hp
  | cons q r ih =>
    rw [List.map_cons, List.nodup_cons] at h
    rcases List.mem_cons.1 hp with rfl | hp
    · simp [getD]
    · have : ¬ q.1 = p.1 := fun e => h.1 (e ▸ List.mem_map.2 ⟨p, hp, rfl⟩)
      have ih := ih h.2 hp
      simp only [getD, List.find?_cons, this, decide_false] at ih ⊢
      exact ih
theorem getD_ok {L : DbL} (h : OKD L) {k : Dig} (hk : k ∈ L.map Prod.fst) : getD L k ≠ [] ∧ ∀ t ∈ getD L k, t.key = k := by
  obtain ⟨p, hp, rfl⟩ := List.mem_map.1 hk
  rw [getD_has h.1 hp]
  exact h.2 p hp
theorem getD_no {L : DbL} {k : Dig} (hk : k ∉ L.map Prod.fst) : getD L k = [] := by
  unfold getD
  have : L.find? (fun p => decide (p.1 = k)) = none := List.find?_eq_none.2 fun p hp => by
    have : ¬ p.1 = k := fun e => hk (e ▸ List.mem_map.2 ⟨p, hp, rfl⟩)
    simp [this]
  rw [this]
theorem srtK_mem {l : List Dig} {k : Dig} : k ∈ srtK l ↔ k ∈ l := (KO_srt l).1.mem_iff
theorem srtK_nodup {l : List Dig} (h : l.Nodup) : (srtK l).Nodup := (KO_srt l).1.nodup_iff.2 h
theorem filter_flat {k : Dig} {f : Dig → List Trace} : ∀ {ks : List Dig}, ks.Nodup → (∀ q ∈ ks, ∀ t ∈ f q, t.key = q) → (ks.flatMap f).filter (fun x => decide (x.key = k)) = if k ∈ ks then f k else []
  | [], _, _ => by simp
  | q :: ks, hn, h => by
    rw [List.nodup_cons] at hn
    have ih := filter_flat (k := k) hn.2 fun q' hq => h q' (List.mem_cons_of_mem _ hq)
    rw [List.flatMap_cons, List.filter_append, ih]
    by_cases e : q = k
    · subst e
      rw [if_neg hn.1, if_pos (by simp), List.append_nil]
      exact List.filter_eq_self.2 fun t ht => by simp [h q (by simp) t ht]
    · have : (f q).filter (fun x => decide (x.key = k)) = [] := List.filter_eq_nil_iff.2 fun t ht => by simp [h q (by simp) t ht, e]
      rw [this, List.nil_append]
      by_cases hm : k ∈ ks
      · rw [if_pos hm, if_pos (List.mem_cons_of_mem _ hm)]
      · rw [if_neg hm, if_neg (by simp [hm]; exact fun e2 => e e2.symm)]
theorem rof_row {L : DbL} (h : OKD L) (k : Dig) : rofV (rowOf L) k = getD L k := by
  unfold rofV rowOf
  rw [filter_flat (srtK_nodup h.1) fun q hq => (getD_ok h (srtK_mem.1 hq)).2]
  by_cases hk : k ∈ L.map Prod.fst
  · rw [if_pos (srtK_mem.2 hk)]
  · rw [if_neg fun e => hk (srtK_mem.1 e), getD_no hk]
theorem delD_keys (k : Dig) (L : DbL) : (delD k L).map Prod.fst = (L.map Prod.fst).filter fun q => decide (q ≠ k) := by
  unfold delD
  rw [List.filter_map]; rfl
theorem getD_del {k q : Dig} {L : DbL} : getD (delD k L) q = if q = k then [] else getD L q := by
  induction L with
  | nil => simp [delD, getD]
  | cons p r ih =>
    unfold delD at ih ⊢
    by_cases e : p.1 = k
    · rw [List.filter_cons_of_neg (by simp [e]), ih]
      by_cases e2 : q = k
      · rw [if_pos e2, if_pos e2]
      · rw [if_neg e2, if_neg e2]
        have : ¬ p.1 = q := fun e3 => e2 (e3 ▸ e)
        simp [getD, this]
    · rw [List.filter_cons_of_pos (by simp [e])]
      by_cases e3 : p.1 = q
      · subst e3
        rw [if_neg e]
        simp [getD]
      · simp only [getD, List.find?_cons, e3, decide_false] at ih ⊢
        exact ih
theorem OKD_del {k : Dig} {L : DbL} (h : OKD L) : OKD (delD k L) := by
  refine ⟨?_, fun p hp => h.2 p (List.mem_filter.1 hp).1⟩
  rw [delD_keys]; exact List.Pairwise.filter _ h.1
theorem srtK_filter (l : List Dig) (k : Dig) : srtK (l.filter fun q => decide (q ≠ k)) = (srtK l).filter fun q => decide (q ≠ k) := by
  refine (KO_eq (l := l.filter fun q => decide (q ≠ k)) ⟨(KO_srt l).1.filter _, ?_⟩).symm
  exact List.Pairwise.filter _ (KO_srt l).2
theorem flat_filter {k : Dig} {f g : Dig → List Trace} : ∀ {ks : List Dig}, (∀ q ∈ ks, ∀ t ∈ f q, t.key = q) → (∀ q, q ≠ k → g q = f q) → (ks.filter fun q => decide (q ≠ k)).flatMap g = (ks.flatMap f).filter fun x => decide (x.key ≠ k)
  | [], _, _ => rfl
  | q :: ks, h, hg => by
    have ih := flat_filter (k := k) (fun q' hq => h q' (List.mem_cons_of_mem _ hq)) hg
    rw [List.flatMap_cons, List.filter_append, ← ih]
    by_cases e : q = k
    · rw [List.filter_cons_of_neg (by simp [e])]
      have : (f q).filter (fun x => decide (x.key ≠ k)) = [] := List.filter_eq_nil_iff.2 fun t ht => by simp [h q (by simp) t ht, e]
      rw [this, List.nil_append]
    · rw [List.filter_cons_of_pos (by simp [e]), List.flatMap_cons, hg q e]
      congr 1
      exact (List.filter_eq_self.2 fun t ht => by simp [h q (by simp) t ht, e]).symm
theorem rdrop_row {L : DbL} (h : OKD L) (k : Dig) : rdropV (rowOf L) k = rowOf (delD k L) := by
  unfold rdropV rowOf
  rw [delD_keys, srtK_filter, flat_filter (f := getD L) (fun q hq => (getD_ok h (srtK_mem.1 hq)).2)]
  intro q hq
  rw [getD_del, if_neg hq]
noncomputable def raddV (mo : Nat) (l : List Trace) (t : Trace) : List Trace :=
  (rdropV l t.key).takeWhile (fun x => !ltL t.key x.key) ++ addL mo t (rofV l t.key) ++ (rdropV l t.key).dropWhile (fun x => !ltL t.key x.key)
theorem srtK_put {L : DbL} (h : (L.map Prod.fst).Nodup) (k : Dig) (v : List Trace) :
    ∃ A B, srtK ((putD k v L).map Prod.fst) = A ++ k :: B ∧ srtK ((delD k L).map Prod.fst) = A ++ B ∧ (∀ q ∈ A, ltL k q = false) ∧ ∀ q ∈ B, ltL k q = true := by
  have hn := nodup_put (k := k) (v := v) h
  have hs := srtK_nodup hn
  have ho := (KO_srt ((putD k v L).map Prod.fst)).2
  obtain ⟨A, B, hAB⟩ := List.append_of_mem (srtK_mem.2 (mem_put.2 (.inl rfl)) : k ∈ srtK ((putD k v L).map Prod.fst))
  rw [hAB] at hs ho
  rw [List.pairwise_append, List.pairwise_cons] at ho
  rw [List.nodup_append, List.nodup_cons] at hs
  refine ⟨A, B, hAB, ?_, fun q hq => ho.2.2 q hq k (by simp), fun q hq => ?_⟩
  · refine (KO_eq (l := (delD k L).map Prod.fst) ⟨?_, ?_⟩).symm
    · rw [List.perm_ext_iff_of_nodup]
      · intro q
        have hm : q ∈ srtK ((putD k v L).map Prod.fst) ↔ q = k ∨ q ∈ L.map Prod.fst := srtK_mem.trans mem_put
        rw [hAB] at hm
        rw [delD_keys, List.mem_filter, List.mem_append]
        simp only [List.mem_append, List.mem_cons] at hm
        constructor
        · intro hq
          have hqk : q ≠ k := by
            rintro rfl
            rcases hq with hq | hq
            · exact hs.2.2 q hq q (by simp) rfl
            · exact hs.2.1.1 hq
          have := hm.1 (by rcases hq with hq | hq; exact .inl hq; exact .inr (.inr hq))
          exact ⟨this.elim (fun e => absurd e hqk) id, by simpa using hqk⟩
        · rintro ⟨h1, h2⟩
          have h2 : q ≠ k := by simpa using h2
          rcases hm.2 (.inr h1) with h | h | h
          · exact .inl h
          · exact absurd h h2
          · exact .inr h
      · rw [List.nodup_append]
        exact ⟨hs.1, hs.2.1.2, fun a ha b hb => hs.2.2 a ha b (List.mem_cons_of_mem _ hb)⟩
      · rw [delD_keys]; exact List.Pairwise.filter _ h
    · rw [List.pairwise_append]
      exact ⟨ho.1, ho.2.1.2, fun a ha b hb => ho.2.2 a ha b (List.mem_cons_of_mem _ hb)⟩
  · have h1 := ho.2.1.1 q hq
    by_cases e : ltL k q = false
    · have := ltL_anti e h1
      exact absurd hq (this ▸ hs.2.1.1)
    · simpa using e
theorem getD_putK {k : Dig} {v : List Trace} {L : DbL} (q : Dig) : getD (putD k v L) q = if q = k then v else getD L q := getD_put k q v L
theorem radd_row {mo : Nat} {L : DbL} (h : OKD L) (t : Trace) : raddV mo (rowOf L) t = rowOf (putD t.key (addL mo t (getD L t.key)) L) := by
  unfold raddV
  rw [rdrop_row h, rof_row h]
  obtain ⟨A, B, h1, h2, h3, h4⟩ := srtK_put h.1 t.key (addL mo t (getD L t.key))
  have hd := OKD_del (k := t.key) h
  unfold rowOf
  rw [h1, h2, List.flatMap_append, List.flatMap_append, List.flatMap_cons, getD_putK, if_pos rfl]
  have hmem : ∀ q ∈ A ++ B, q ∈ (delD t.key L).map Prod.fst := fun q hq => srtK_mem.1 (h2 ▸ hq)
  have hf : ∀ C : List Dig, (∀ q ∈ C, q ∈ A ++ B) → C.flatMap (getD (putD t.key (addL mo t (getD L t.key)) L)) = C.flatMap (getD (delD t.key L)) := fun C hC => by
    induction C with
    | nil => rfl
    | cons q C ih =>
      rw [List.flatMap_cons, List.flatMap_cons, ih fun q' hq => hC q' (List.mem_cons_of_mem _ hq), getD_putK, getD_del]
      have : q ≠ t.key := by
        have := hmem q (hC q (by simp))
        rw [delD_keys, List.mem_filter] at this
        simpa using this.2
      rw [if_neg this, if_neg this]
  rw [hf A fun q hq => List.mem_append_left _ hq, hf B fun q hq => List.mem_append_right _ hq]
  have ha : ∀ x ∈ A.flatMap (getD (delD t.key L)), (!ltL t.key x.key) = true := fun x hx => by
    obtain ⟨q, hq, hx⟩ := List.mem_flatMap.1 hx
    rw [(getD_ok hd (hmem q (List.mem_append_left _ hq))).2 x hx, h3 q hq]; rfl
  have hb : ∀ x ∈ B.flatMap (getD (delD t.key L)), (!ltL t.key x.key) = false := fun x hx => by
    obtain ⟨q, hq, hx⟩ := List.mem_flatMap.1 hx
    rw [(getD_ok hd (hmem q (List.mem_append_right _ hq))).2 x hx, h4 q hq]; rfl
  obtain ⟨C, hC⟩ : ∃ C, C = A.flatMap (getD (delD t.key L)) := ⟨_, rfl⟩
  obtain ⟨D, hD⟩ : ∃ D, D = B.flatMap (getD (delD t.key L)) := ⟨_, rfl⟩
  rw [← hC] at ha ⊢
  rw [← hD] at hb ⊢
  have ht : D.takeWhile (fun x => !ltL t.key x.key) = [] := by
    cases D with
    | nil => rfl
    | cons x D => rw [List.takeWhile_cons_of_neg (by simp [hb x (by simp)])]
  have hdr : D.dropWhile (fun x => !ltL t.key x.key) = D := by
    cases D with
    | nil => rfl
    | cons x D => rw [List.dropWhile_cons_of_neg (by simp [hb x (by simp)])]
  rw [List.takeWhile_append_of_pos ha, List.dropWhile_append_of_pos ha, ht, hdr, List.append_nil, List.append_assoc]
/-! ### keys -/
theorem bytes_row (mo : Nat) (L : DbL) : dbL mo L (srtK (L.map Prod.fst)) = Lib.itoa mo :: (rowOf L).map bytS := by
  unfold dbL rowOf
  rw [List.map_flatMap]; rfl
theorem addL_ne {mo : Nat} (hm : 1 ≤ mo) (t : Trace) (ts : List Trace) : addL mo t ts ≠ [] := by
  obtain ⟨q, rfl⟩ : ∃ q, mo = q + 1 := ⟨mo - 1, by omega⟩
  simp [addL]
theorem OKD_put {mo : Nat} (hm : 1 ≤ mo) {L : DbL} (h : OKD L) (t : Trace) : OKD (putD t.key (addL mo t (getD L t.key)) L) := by
  refine ⟨nodup_put h.1, fun p hp => ?_⟩
  rcases putD_mem hp with rfl | hp
  · refine ⟨addL_ne hm _ _, fun x hx => ?_⟩
    have hx := List.mem_of_mem_take hx
    rcases List.mem_cons.1 hx with rfl | hx
    · rfl
    · rw [kp_eq] at hx
      obtain ⟨hx, _⟩ := List.mem_filter.1 hx
      by_cases hk : t.key ∈ L.map Prod.fst
      · exact (getD_ok h hk).2 x hx
      · rw [getD_no hk] at hx; simp at hx
  · exact h.2 p hp
theorem OKD_add {mo : Nat} (hm : 1 ≤ mo) {L : DbL} (h : OKD L) (t : Trace) : OKD (addD mo L t) := by
  unfold addD
  split
  · exact OKD_put hm h t
  · exact h
theorem OKD_nil : OKD [] := ⟨by simp, fun p hp => by simp at hp⟩
end Go.Proofs.YthdgnfnalimcnaaGreatDoor
end
section
set_option maxRecDepth 100000
/-! The document's rows: Less, Of, Drop. -/
namespace Go.Proofs.YthdgnfnalimcnaaGreatDoor
open Go Go.Ab
open Classical
variable [Sel] [SelPow]

@[simp] theorem fnok39 : fnOK Tryz.prog 39 = true := by kernel_rfl
@[simp] theorem isne39 : isNE Tryz.prog (.func 39) = false := isNE_func fnok39
@[simp] theorem fnok16 : fnOK Tryz.prog 16 = true := by kernel_rfl
@[simp] theorem isne16 : isNE Tryz.prog (.func 16) = false := isNE_func fnok16
@[simp] theorem fnok17 : fnOK Tryz.prog 17 = true := by kernel_rfl
@[simp] theorem isne17 : isNE Tryz.prog (.func 17) = false := isNE_func fnok17
theorem encTraces_trs' (l : List Trace) : encTraces l = .sl .no (trs l) := rfl
end Go.Proofs.YthdgnfnalimcnaaGreatDoor
end
section
set_option maxRecDepth 100000
/-! The document's rows: Add, Keys. -/
namespace Go.Proofs.YthdgnfnalimcnaaGreatDoor
open Go Go.Ab
open Classical
variable [Sel] [SelPow]

@[simp] theorem fnok19 : fnOK Tryz.prog 19 = true := by kernel_rfl
@[simp] theorem isne19 : isNE Tryz.prog (.func 19) = false := isNE_func fnok19
@[simp] theorem fnok40 : fnOK Tryz.prog 40 = true := by kernel_rfl
@[simp] theorem isne40 : isNE Tryz.prog (.func 40) = false := isNE_func fnok40
end Go.Proofs.YthdgnfnalimcnaaGreatDoor
end
