/- The reference's May, Dir, Under. No condition beyond each theorem's own. -/
import Derived.Test.YthdgnfnalimcnaaGreatDoorP10
set_option linter.unusedSimpArgs false
set_option linter.unusedVariables false
set_option linter.unusedSectionVars false
section
set_option maxRecDepth 100000
/-! The reference's May, Dir, Under. -/
namespace Go.Proofs.YthdgnfnalimcnaaGreatDoor
open Go Go.Ab
open Classical
variable [Sel]

/-! ### plain: texts and their parts -/
def joinS : List (List UInt8) → List UInt8
  | [] => []
  | [x] => x
  | x :: y :: r => x ++ 47 :: joinS (y :: r)
theorem joinS_app : ∀ (p q : List (List UInt8)), p ≠ [] → q ≠ [] → joinS (p ++ q) = joinS p ++ 47 :: joinS q
  | [], q, h, _ => absurd rfl h
  | [x], [], _, h => absurd rfl h
  | [x], y :: r, _, _ => rfl
  | x :: y :: r, q, _, hq => by
    have := joinS_app (y :: r) q (by simp) hq
    show x ++ 47 :: joinS (y :: r ++ q) = _
    rw [this]; simp [joinS]
theorem joinS_split : ∀ l, joinS (splitB 47 l) = l
  | [] => rfl
  | b :: l => by
    have ih := joinS_split l
    unfold splitB
    split
    · rename_i hb; subst hb
      cases hs : splitB 47 l with
      | nil => exact absurd hs (splitB_ne _ _)
      | cons x r => rw [hs] at ih; simp [joinS, ih]
    · cases hs : splitB 47 l with
      | nil => exact absurd hs (splitB_ne _ _)
      | cons x r =>
        rw [hs] at ih
        cases r with
        | nil => simp only [joinS] at ih ⊢; rw [ih]
        | cons z q => simp only [joinS] at ih ⊢; rw [← ih]; rfl
theorem splitB_no47 : ∀ (l x : List UInt8), x ∈ splitB 47 l → (47 : UInt8) ∉ x
  | [], x, h => by simp [splitB] at h; simp [h]
  | b :: l, x, h => by
    unfold splitB at h
    split at h
    · rcases List.mem_cons.1 h with rfl | h
      · simp
      · exact splitB_no47 l x h
    · rename_i hb
      cases hs : splitB 47 l with
      | nil => exact absurd hs (splitB_ne _ _)
      | cons y r =>
        rw [hs] at h
        rcases List.mem_cons.1 h with rfl | h
        · have := splitB_no47 l y (by rw [hs]; simp)
          simp [this, Ne.symm hb]
        · exact splitB_no47 l x (by rw [hs]; simp [h])
theorem splitB_one : ∀ (x : List UInt8), (47 : UInt8) ∉ x → splitB 47 x = [x]
  | [], _ => rfl
  | b :: l, h => by
    simp only [List.mem_cons, not_or] at h
    rw [splitB, if_neg (fun e => h.1 e.symm), splitB_one l h.2]
theorem splitB_app : ∀ (a b : List UInt8), splitB 47 (a ++ 47 :: b) = splitB 47 a ++ splitB 47 b
  | [], b => by simp [splitB]
  | x :: a, b => by
    have ih := splitB_app a b
    simp only [List.cons_append, splitB]
    split
    · rw [ih]; simp
    · rw [ih]
      cases hs : splitB 47 a with
      | nil => exact absurd hs (splitB_ne _ _)
      | cons y r => simp
theorem splitB_join : ∀ (p : List (List UInt8)), p ≠ [] → (∀ x ∈ p, (47 : UInt8) ∉ x) → splitB 47 (joinS p) = p
  | [], h, _ => absurd rfl h
  | [x], _, h => splitB_one x (h x (by simp))
  | x :: y :: r, _, h => by
    show splitB 47 (x ++ 47 :: joinS (y :: r)) = _
    rw [splitB_app, splitB_one x (h x (by simp)), splitB_join (y :: r) (by simp) (fun z hz => h z (by simp [hz]))]
    rfl
def dirV (l : List UInt8) : List UInt8 := if mayV l = true ∧ (splitB 47 l).length ≠ 1 then joinS (splitB 47 l).dropLast else []
theorem may_iff (l : List UInt8) : mayV l = true ↔ (splitB 47 l).length ≤ 16 ∧ ∀ x ∈ splitB 47 l, partV x = true := by simp [mayV]
theorem dir_spec {l : List UInt8} (hm : mayV l = true) (h1 : (splitB 47 l).length ≠ 1) : ∃ x, l = dirV l ++ 47 :: x ∧ (47 : UInt8) ∉ x ∧ mayV (dirV l) = true ∧ dirV l ≠ [] := by
  have hne := splitB_ne 47 l
  have hdl : (splitB 47 l).dropLast ≠ [] := by
    intro h
    have := congrArg List.length h
    simp at this
    have h0 : 0 < (splitB 47 l).length := List.length_pos_iff.2 hne
    omega
  have hd : dirV l = joinS (splitB 47 l).dropLast := by simp [dirV, hm, h1]
  have hmem : ∀ x ∈ (splitB 47 l).dropLast, x ∈ splitB 47 l := fun x hx => (List.dropLast_sublist _).subset hx
  have hsp : splitB 47 (dirV l) = (splitB 47 l).dropLast := by
    rw [hd]; exact splitB_join _ hdl fun x hx => splitB_no47 l x (hmem x hx)
  rw [may_iff] at hm
  refine ⟨(splitB 47 l).getLast hne, ?_, splitB_no47 l _ (List.getLast_mem hne), ?_, ?_⟩
  · rw [hd]
    have := joinS_app (splitB 47 l).dropLast [(splitB 47 l).getLast hne] hdl (by simp)
    rw [List.dropLast_concat_getLast hne, joinS_split] at this
    exact this
  · rw [may_iff, hsp]
    exact ⟨by simp; omega, fun x hx => hm.2 x (hmem x hx)⟩
  · intro h0
    rw [h0] at hsp
    simp only [splitB] at hsp
    have := hm.2 [] (hmem [] (by rw [← hsp]; simp))
    simp [partV] at this
theorem pre_step {u x d : List UInt8} (hx : (47 : UInt8) ∉ x) : hasPre (u ++ 47 :: x) (d ++ [47]) = (decide (u = d) || hasPre u (d ++ [47])) := by
  rw [Bool.eq_iff_iff]
  simp only [hasPre, decide_eq_true_eq, Bool.or_eq_true, List.length_append, List.length_singleton]
  have key : ∀ l : List UInt8, l.take (d.length + 1) = d ++ [47] ↔ l.take d.length = d ∧ l[d.length]? = some 47 := by
    intro l
    constructor
    · intro h
      have hlen := congrArg List.length h
      simp at hlen
      constructor
      · have := congrArg (List.take d.length) h
        rw [List.take_take, List.take_left, Nat.min_eq_left (by omega)] at this
        exact this
      · have := congrArg (·[d.length]?) h
        simpa [List.getElem?_take] using this
    · rintro ⟨h1, h2⟩
      have h3 := (List.getElem?_eq_some_iff.1 h2)
      rw [List.take_succ_eq_append_getElem h3.1, h1, h3.2]
  rw [key, key]
  constructor
  · rintro ⟨h1, h2⟩
    rcases Nat.lt_trichotomy d.length u.length with h | h | h
    · right
      rw [List.take_append_of_le_length (by omega)] at h1
      rw [List.getElem?_append_left h] at h2
      exact ⟨h1, h2⟩
    · left
      rw [h, List.take_left] at h1
      exact h1
    · exfalso
      rw [List.getElem?_append_right (by omega)] at h2
      obtain ⟨j, hj⟩ : ∃ j, d.length - u.length = j + 1 := ⟨d.length - u.length - 1, by omega⟩
      rw [hj, List.getElem?_cons_succ] at h2
      exact hx (List.mem_of_getElem? h2)
  · rintro (rfl | ⟨h1, h2⟩)
    · simp
    · have h3 := (List.getElem?_eq_some_iff.1 h2).1
      rw [List.take_append_of_le_length (by omega), List.getElem?_append_left h3]
      exact ⟨h1, h2⟩
theorem pre_may {l d : List UInt8} (hm : mayV l = true) (hp : hasPre l (d ++ [47]) = true) : mayV d = true := by
  simp only [hasPre, decide_eq_true_eq] at hp
  have hl : l = d ++ 47 :: l.drop (d ++ [47]).length := by
    have := (List.take_append_drop (d ++ [47]).length l).symm
    rw [hp] at this
    simpa using this
  rw [may_iff] at hm ⊢
  rw [hl, splitB_app] at hm
  refine ⟨by have := hm.1; simp at this; omega, fun x hx => hm.2 x (by simp [hx])⟩
theorem underV_step {l d : List UInt8} (hm : mayV l = true) (hd : d ≠ []) : underV l d = (decide (dirV l ≠ []) && (decide (dirV l = d) || underV (dirV l) d)) := by
  have hu : ∀ l, mayV l = true → underV l d = hasPre l (d ++ [47]) := by
    intro l hm
    simp only [underV, hm, hd, decide_false, Bool.true_and, Bool.false_or]
    cases hp : hasPre l (d ++ [47]) with
    | false => simp
    | true => simp [pre_may hm hp]
  rw [hu l hm]
  by_cases h1 : (splitB 47 l).length = 1
  · have hd0 : dirV l = [] := by simp [dirV, h1]
    rw [hd0]
    simp only [ne_eq, not_true_eq_false, decide_false, Bool.false_and]
    have h47 : (47 : UInt8) ∉ l := by
      cases hs : splitB 47 l with
      | nil => exact absurd hs (splitB_ne _ _)
      | cons x r =>
        rw [hs] at h1
        obtain rfl : r = [] := List.eq_nil_of_length_eq_zero (by simpa using h1)
        have h3 := joinS_split l
        rw [hs] at h3
        rw [← h3]
        exact splitB_no47 l x (by rw [hs]; simp)
    cases hp : hasPre l (d ++ [47]) with
    | false => rfl
    | true =>
      exfalso
      simp only [hasPre, decide_eq_true_eq] at hp
      exact h47 (List.mem_of_mem_take (by rw [hp]; simp))
  · obtain ⟨x, hl, hx, hm2, hne⟩ := dir_spec hm h1
    rw [hu _ hm2]
    simp only [hne, ne_eq, not_false_eq_true, decide_true, Bool.true_and]
    conv => lhs; rw [hl]
    exact pre_step hx
theorem dirV_lt {l : List UInt8} (hne : dirV l ≠ []) : (dirV l).length < l.length := by
  by_cases hm : mayV l = true
  · by_cases h1 : (splitB 47 l).length = 1
    · exact absurd (by simp [dirV, h1]) hne
    · obtain ⟨x, hl, _⟩ := dir_spec hm h1
      have := congrArg List.length hl
      simp at this; omega
  · exact absurd (by simp [dirV, hm]) hne
end Go.Proofs.YthdgnfnalimcnaaGreatDoor
end
section
set_option maxRecDepth 100000
/-! The reference's May, Dir, Under: the walks. -/
namespace Go.Proofs.YthdgnfnalimcnaaGreatDoor
open Go Go.Ab
open Classical
variable [Sel]

theorem strs_get (p : List (List UInt8)) (k : Nat) (h : k < p.length) : (strs p)[k]? = some (.s p[k]) := by simp [strs, List.getElem?_eq_getElem h]
set_option maxHeartbeats 8000000 in
theorem rmay_ok (l : List UInt8) (hl : l.length ≤ 1000000000) : PC Tryz.prog 36 [.av .str (.s l)] (.av .bool (.b (mayV l))) := by
  refine PC.of <| ACalls.of_vc laid mixed Tryz.func36 rfl (by kernel_rfl) cf0 (by simp [Tryz.ntmps36]) fun imm0 w0 => ?_
  (simp (maxSteps := 2000000) (disch := first | omega | assumption) [zz])
  refine callV_pc (rparts_ok l hl) rfl rfl (by simp) (by simp [argLe, TV.er, AV.er]) ?_
  (simp (maxSteps := 2000000) (disch := first | omega | assumption) [zz])
  have hle := splitB_le 47 l
  obtain ⟨p, hp⟩ : ∃ p, p = splitB 47 l := ⟨_, rfl⟩
  have hlen : ∀ x ∈ p, x.length ≤ l.length := fun x hx => splitB_len 47 l x (by rw [← hp]; exact hx)
  rw [← hp] at hle ⊢
  refine AT.loop' (α := Nat) (fun k => St.of [(3, .av (.slice 9) (.sl .no (strs p))), (4, .av (.int .i64) (.i .i64 k))] [] (fun _ => 0) []) (fun k => k ≤ p.length ∧ ∀ x ∈ p.take k, partV x = true) (fun k => p.length - k) 0 ?_ ?_ ?_
  · refine Le.of ?_ ?_ ?_ ?_ ?_ <;> simp [leTV, locsIn, encDigs, encTraces, encWant, encTrace, encReads, encRead, encMades, encMade, lk_nil] <;> try omega
  · simp
  rintro k ⟨hk, hall⟩ KL hN hE
  refine vc_sound (cf := cf0) laid mixed _ _ _ (by kernel_rfl) ?_
  by_cases hlt : k < p.length
  · have hlt' : (k : Int) < p.length := by omega
    have hx := hlen p[k] (List.getElem_mem _)
    have hg := strs_get p k hlt
    (simp (maxSteps := 2000000) (disch := first | omega | assumption) [zz, hlt', hg])
    refine callV_pc (rpart_ok p[k] (by omega)) rfl rfl (by simp) (by simp [argLe, TV.er, AV.er]) ?_
    cases hpv : partV p[k]
    · (simp (maxSteps := 2000000) (disch := first | omega | assumption) [zz])
      refine hE _ _ (by simp) ?_
      have : mayV l = false := by
        simp only [mayV, Bool.and_eq_false_iff]
        right
        rw [List.all_eq_false]
        exact ⟨p[k], by rw [← hp]; exact List.getElem_mem _, by simp [hpv]⟩
      (simp (maxSteps := 2000000) (disch := first | omega | assumption) [zz, Tryz.f36, this])
    · (simp (maxSteps := 2000000) (disch := first | omega | assumption) [zz])
      refine hN _ (k+1) ?_ ⟨by omega, by rw [take_succ_all hlt]; exact ⟨hall, hpv⟩⟩ (by omega)
      refine Le.of ?_ ?_ ?_ ?_ ?_ <;> simp [leTV, locsIn, encDigs, encTraces, encWant, encTrace, encReads, encRead, encMades, encMade, lk_nil] <;> try omega
  · have hlt' : ¬ (k : Int) < p.length := by omega
    (simp (maxSteps := 2000000) (disch := first | omega | assumption) [zz, hlt'])
    refine hE _ _ (by simp) ?_
    rw [List.take_of_length_le (by omega)] at hall
    have hal : p.all partV = true := by simpa using hall
    (simp (maxSteps := 2000000) (disch := first | omega | assumption) [zz, Tryz.f36, mayV, ← hp, hal])
    omega
theorem joinS_take_le (p : List (List UInt8)) (k : Nat) : (joinS (p.take k)).length ≤ (joinS p).length := by
  by_cases h1 : p.take k = []
  · rw [h1]; simp [joinS]
  by_cases h2 : p.drop k = []
  · have := List.take_append_drop k p
    rw [h2, List.append_nil] at this
    rw [this]; exact Nat.le_refl _
  · have := joinS_app _ _ h1 h2
    rw [List.take_append_drop] at this
    rw [this]; simp
set_option maxHeartbeats 8000000 in
theorem rdir_ok (l : List UInt8) (hl : l.length ≤ 1000000000) : PC Tryz.prog 71 [.av .str (.s l)] (.av .str (.s (dirV l))) := by
  refine PC.of <| ACalls.of_vc laid mixed Tryz.func71 rfl (by kernel_rfl) cf0 (by simp [Tryz.ntmps71]) fun imm0 w0 => ?_
  (simp (maxSteps := 2000000) (disch := first | omega | assumption) [zz])
  refine callV_pc (rparts_ok l hl) rfl rfl (by simp) (by simp [argLe, TV.er, AV.er]) ?_
  (simp (maxSteps := 2000000) (disch := first | omega | assumption) [zz])
  refine callV_pc (rmay_ok l hl) rfl rfl (by simp) (by simp [argLe, TV.er, AV.er]) ?_
  have hle := splitB_le 47 l
  have hne := splitB_ne 47 l
  obtain ⟨p, hp⟩ : ∃ p, p = splitB 47 l := ⟨_, rfl⟩
  have hlen : ∀ x ∈ p, x.length ≤ l.length := fun x hx => splitB_len 47 l x (by rw [← hp]; exact hx)
  have hjl : joinS p = l := by rw [hp]; exact joinS_split l
  have hjt := fun k => joinS_take_le p k
  rw [hjl] at hjt
  have hd : dirV l = if mayV l = true ∧ p.length ≠ 1 then joinS p.dropLast else [] := by rw [hp]; rfl
  rw [← hp] at hle hne ⊢
  have hpos : 0 < p.length := List.length_pos_iff.2 hne
  cases hm : mayV l
  · (simp (maxSteps := 2000000) (disch := first | omega | assumption) [zz, Tryz.f71, hd, hm])
  by_cases h1 : p.length = 1
  · (simp (maxSteps := 2000000) (disch := first | omega | assumption) [zz, h1, Tryz.f71, hd, hm])
  have h1' : ¬ (p.length : Int) = 1 := by omega
  have hg0 := strs_get p 0 hpos
  (simp (maxSteps := 2000000) (disch := first | omega | assumption) [zz, h1', hg0])
  refine ⟨hpos, ?_⟩
  refine AT.loop' (α := Nat) (fun k => St.of [(3, .av (.slice 9) (.sl .no (strs p))), (4, .av .str (.s (joinS (p.take k)))), (5, .av (.int .i64) (.i .i64 k))] [] (fun _ => 0) []) (fun k => 1 ≤ k ∧ k + 1 ≤ p.length) (fun k => p.length - k) 1 ?_ ?_ ?_
  · have e : joinS (p.take 1) = p[0] := by
      cases p with
      | nil => exact absurd rfl hne
      | cons x r => simp [joinS]
    refine Le.of ?_ ?_ ?_ ?_ ?_ <;> simp [leTV, locsIn, encDigs, encTraces, encWant, encTrace, encReads, encRead, encMades, encMade, lk_nil, e] <;> try omega
  · omega
  rintro k ⟨hk1, hk2⟩ KL hN hE
  refine vc_sound (cf := cf0) laid mixed _ _ _ (by kernel_rfl) ?_
  by_cases hlt : k + 1 < p.length
  · have hlt' : (k : Int) < (p.length : Int) - 1 := by omega
    have hx := hlen p[k] (List.getElem_mem _)
    have hg := strs_get p k (by omega)
    have hj := hjt k
    have hsn : joinS (p.take (k+1)) = joinS (p.take k) ++ 47 :: p[k] := by
      rw [List.take_succ_eq_append_getElem (by omega), joinS_app _ _ (by
        intro h
        rcases List.take_eq_nil_iff.1 h with h | h
        · omega
        · exact hne h) (by simp)]
      rfl
    (simp (maxSteps := 2000000) (disch := first | omega | assumption) [zz, hlt', hg])
    (repeat ((with_reducible refine And.intro ?_ ?_); (· first | omega | (show barB _ _ = true; kernel_rfl) | (show rdJ _ _ _ _ _ = true; kernel_rfl) | (show tailB _ _ _ = true; kernel_rfl) | (show sftB _ _ _ = true; kernel_rfl))))
    refine hN _ (k+1) ?_ ⟨by omega, by omega⟩ (by omega)
    refine Le.of ?_ ?_ ?_ ?_ ?_ <;> simp [leTV, locsIn, encDigs, encTraces, encWant, encTrace, encReads, encRead, encMades, encMade, lk_nil, hsn] <;> try omega
  · have hlt' : ¬ (k : Int) < (p.length : Int) - 1 := by omega
    (simp (maxSteps := 2000000) (disch := first | omega | assumption) [zz, hlt'])
    refine hE _ _ (by simp) ?_
    have e : p.take k = p.dropLast := by rw [List.dropLast_eq_take]; congr 1; omega
    (simp (maxSteps := 2000000) (disch := first | omega | assumption) [zz, Tryz.f71, hd, hm, h1, e])
set_option maxHeartbeats 8000000 in
theorem runder_ok (d : List UInt8) (hdl : d.length ≤ 1000000000) : ∀ (n : Nat) (l : List UInt8), l.length ≤ n → l.length ≤ 1000000000 → PC Tryz.prog 37 [.av .str (.s l), .av .str (.s d)] (.av .bool (.b (underV l d)))
  | 0, l, hn, hl => by
    obtain rfl : l = [] := List.eq_nil_of_length_eq_zero (by omega)
    refine PC.of <| ACalls.of_vc laid mixed Tryz.func37 rfl (by kernel_rfl) cf0 (by simp [Tryz.ntmps37]) fun imm0 w0 => ?_
    (simp (maxSteps := 2000000) (disch := first | omega | assumption) [zz])
    refine callV_pc (rmay_ok [] (by simp)) rfl rfl (by simp) (by simp [argLe, TV.er, AV.er, coC]) ?_
    have hm : mayV [] = false := by decide
    (simp (maxSteps := 2000000) (disch := first | omega | assumption) [zz, Tryz.f37, underV, hm])
  | n + 1, l, hn, hl => by
    refine PC.of <| ACalls.of_vc laid mixed Tryz.func37 rfl (by kernel_rfl) cf0 (by simp [Tryz.ntmps37]) fun imm0 w0 => ?_
    (simp (maxSteps := 2000000) (disch := first | omega | assumption) [zz])
    refine callV_pc (rmay_ok l hl) rfl rfl (by simp) (by simp [argLe, TV.er, AV.er, coC]) ?_
    cases hm : mayV l
    · (simp (maxSteps := 2000000) (disch := first | omega | assumption) [zz, Tryz.f37, underV, hm])
    by_cases hd : d = []
    · (simp (maxSteps := 2000000) (disch := first | omega | assumption) [zz, Tryz.f37, underV, hm, hd])
    (simp (maxSteps := 2000000) (disch := first | omega | assumption) [zz, hd])
    refine callV_pc (rdir_ok l hl) rfl rfl (by simp) (by simp [argLe, TV.er, AV.er, coC]) ?_
    have hst := underV_step hm hd
    have hlt := dirV_lt (l := l)
    generalize hu : dirV l = u at *
    by_cases h1 : u = []
    · (simp (maxSteps := 2000000) (disch := first | omega | assumption) [zz, Tryz.f37, hst, h1])
    by_cases h2 : u = d
    · (simp (maxSteps := 2000000) (disch := first | omega | assumption) [zz, Tryz.f37, hst, h1, h2, hd])
    have hlu := hlt h1
    (simp (maxSteps := 2000000) (disch := first | omega | assumption) [zz, h1, h2])
    refine callV_pc (runder_ok d hdl n u (by omega) (by omega)) rfl rfl (by simp) (by simp [argLe, TV.er, AV.er, coC]) ?_
    (simp (maxSteps := 2000000) (disch := first | omega | assumption) [zz, Tryz.f37, hst, h1, h2])
end Go.Proofs.YthdgnfnalimcnaaGreatDoor
end
