/- path.May, path.Under. No condition beyond each theorem's own. -/
import Derived.Test.YthdgnfnalimcnaaGreatDoorP5ToP7
set_option linter.unusedSimpArgs false
set_option linter.unusedVariables false
set_option linter.unusedSectionVars false
section
set_option maxRecDepth 100000
/-! path.May, path.Under. -/
namespace Go.Proofs.YthdgnfnalimcnaaGreatDoor
open Go Go.Ab
open Classical
variable [Sel]

@[simp] theorem fnok88 : fnOK Tryz.prog 88 = true := by kernel_rfl
@[simp] theorem isne88 : isNE Tryz.prog (.func 88) = false := isNE_func fnok88
@[simp] theorem fnok89 : fnOK Tryz.prog 89 = true := by kernel_rfl
@[simp] theorem isne89 : isNE Tryz.prog (.func 89) = false := isNE_func fnok89
def mayV (l : List UInt8) : Bool := decide ((splitB 47 l).length ≤ 16) && (splitB 47 l).all partV
theorem splitB_len (c : UInt8) : ∀ l x, x ∈ splitB c l → x.length ≤ l.length
  | [], x, h => by simp [splitB] at h; simp [h]
  | b :: l, x, h => by
    unfold splitB at h
    split at h
    · rcases List.mem_cons.1 h with rfl | h
      · simp
      · have := splitB_len c l x h; simp; omega
    · cases hs : splitB c l with
      | nil => exact absurd hs (splitB_ne c l)
      | cons y r =>
        rw [hs] at h
        rcases List.mem_cons.1 h with rfl | h
        · have := splitB_len c l y (by rw [hs]; simp); simp; omega
        · have := splitB_len c l x (by rw [hs]; simp [h]); simp; omega
abbrev cfMay : Cfg := ⟨fun n => n == 2 || n == 3, fun _ => false⟩
def mayG (l : List UInt8) (b2 b3 : Nat) (k : Nat) (H : Heap) : Prop :=
  k ≤ 16 ∧ (∀ i, i < k → ∀ x, (splitB 47 l)[i]? = some x → partV x = true) ∧ H = [(b3, .var (.int .i64) (.i .i64 k)), (b2, .var .bool (.b false))]
def mayX (l : List UInt8) (b2 b3 : Nat) (r : Loop) (H : Heap) : Prop :=
  mayV l = false ∧ r.state = .done ∧ r.pending = some .ret ∧ ∃ n, H = [(b3, .var (.int .i64) (.i .i64 n)), (b2, .var .bool (.b false))]
set_option maxHeartbeats 8000000 in
theorem may_ok (l : List UInt8) (hl : l.length ≤ 9223372036854775807) : PC Tryz.prog 88 [.av .str (.s l)] (.av .bool (.b (mayV l))) := by
  refine PC.of <| ACalls.of_vc laid mixed Tryz.func88 rfl (by kernel_rfl) cfMay (by simp [Tryz.ntmps88]) fun imm0 w0 => ?_
  (simp (maxSteps := 2000000) (disch := first | omega | assumption) [zz])
  intro b2 b3 hb3
  refine callV_sub (R := seqR l) [] [(b3, .var (.int .i64) (.i .i64 0)), (b2, .var .bool (.b false))] (by simp) rfl (by simp [argOK]) (by simp) ?_ ?_
  · exact ACalls.args (SplitSeq_ok l) (by simp [argLe, TV.er, AV.er, coC])
  rintro r H' ⟨c1, c2, c3, rfl, rfl⟩ hnd
  refine ⟨_, HSub.refl _, ?_⟩
  (simp (maxSteps := 2000000) (disch := first | omega | assumption) [zz])
  refine range_splitSeq rfl rfl (c1 := c1) (c2 := c2) (c3 := c3) hl (Hr := [(b3, .var (.int .i64) (.i .i64 0)), (b2, .var .bool (.b false))]) rfl ?_ rfl rfl (by simp) ?_
  · simp only [seqH]
    exact List.Perm.trans (List.Perm.swap _ _ _) (List.Perm.cons _ (List.Perm.swap _ _ _))
  intro y D r i0 w0' hy hready hpend
  simp at hy
  obtain ⟨_, _, _, hy3, hy2⟩ := hy
  have hy3' : ¬ b3 = y := fun e => hy3 e.symm
  have hy2' : ¬ b2 = y := fun e => hy2 e.symm
  have hb3' : ¬ b2 = b3 := fun e => hb3 e.symm
  refine ⟨mayG l b2 b3, mayX l b2 b3, ?_, ?_, ?_, ?_, ?_, ?_⟩
  · rintro k H ⟨_, _, rfl⟩; rfl
  · rintro k H ⟨_, _, _, n, rfl⟩; rfl
  · exact ⟨by omega, fun i h => by omega, rfl⟩
  · rintro k x H hx ⟨hk, hall, rfl⟩ imm w
    have hxl : x.length ≤ 9223372036854775807 := Nat.le_trans (splitB_len 47 l x (List.mem_of_getElem? hx)) hl
    refine vc_sound (cf := cfMay) laid mixed _ _ _ (by kernel_rfl) ?_
    (simp (maxSteps := 2000000) (disch := first | omega | assumption) [zz, roundS, withArgs, rdTV])
    refine vc_sound (cf := cfMay) laid mixed _ _ _ (by kernel_rfl) ?_
    have hlt : k < (splitB 47 l).length := (List.getElem?_eq_some_iff.1 hx).1
    by_cases h16 : k < 16
    · have h1 : ¬ (16 : Int) < (k : Int) + 1 := by omega
      (simp (maxSteps := 2000000) (disch := first | omega | assumption) [zz, roundS, withArgs, rdTV, hy3, hy3', hy2, hy2', hb3, hb3', h1])
      refine callV_pc (part_ok x hxl) rfl rfl (by simp) (by simp [argLe, TV.er, AV.er]) ?_
      cases hp : partV x
      · (simp (maxSteps := 2000000) (disch := first | omega | assumption) [zz, hy3, hy3', hy2, hy2', hb3, hb3', KBody, KEnd, REnd])
        refine ⟨_, _, ⟨rfl, rfl⟩, ?_, rfl, rfl, _, rfl⟩
        simp only [mayV, Bool.and_eq_false_iff]
        right
        rw [List.all_eq_false]
        exact ⟨x, List.mem_of_getElem? hx, by simp [hp]⟩
      · (simp (maxSteps := 2000000) (disch := first | omega | assumption) [zz, hy3, hy3', hy2, hy2', hb3, hb3', KBody, KEnd, REnd])
        refine ⟨_, ⟨congrArg (fun r => HObj.lrec r i0 w0') (ready_eta hready hpend), rfl⟩, by omega, ?_, by simp⟩
        intro i hi x' hx'
        rcases Nat.lt_or_ge i k with h | h
        · exact hall i h x' hx'
        · have : i = k := by omega
          subst this
          rw [hx] at hx'; cases hx'; exact hp
    · have h1 : (16 : Int) < (k : Int) + 1 := by omega
      (simp (maxSteps := 2000000) (disch := first | omega | assumption) [zz, roundS, withArgs, rdTV, hy3, hy3', hy2, hy2', hb3, hb3', h1, KBody, KEnd, REnd])
      refine ⟨_, _, ⟨rfl, rfl⟩, ?_, rfl, rfl, _, rfl⟩
      simp only [mayV, Bool.and_eq_false_iff]
      left
      simp; omega
  · rintro H1 ⟨hk, hall, rfl⟩
    (simp (maxSteps := 2000000) (disch := first | omega | assumption) [zz])
    (simp (maxSteps := 2000000) (disch := first | omega | assumption) [zz, hb3, hb3', hy3, hy2, mayV, Tryz.f88])
    refine ⟨hk, fun x hx => ?_⟩
    obtain ⟨i, hi⟩ := List.getElem?_of_mem hx
    exact hall i (List.getElem?_eq_some_iff.1 hi).1 x hi
  · rintro r' H1 ⟨hm, h1, h2, n, rfl⟩
    refine ⟨by rw [h1]; simp, ?_⟩
    rw [h2]
    simp only [KJump]
    (simp (maxSteps := 2000000) (disch := first | omega | assumption) [zz, hb3, hb3', hm, Tryz.f88])
def underV (l d : List UInt8) : Bool := mayV l && (decide (d = []) || (mayV d && hasPre l (d ++ [47])))
set_option maxHeartbeats 4000000 in
theorem under_ok (l d : List UInt8) (hl : l.length ≤ 9223372036854775807) (hd : d.length ≤ 1000) : PC Tryz.prog 89 [.av .str (.s l), .av .str (.s d)] (.av .bool (.b (underV l d))) := by
  refine PC.of <| ACalls.of_vc laid mixed Tryz.func89 rfl (by kernel_rfl) cf0 (by simp [Tryz.ntmps89]) fun imm0 w0 => ?_
  (simp (maxSteps := 2000000) (disch := first | omega | assumption) [zz])
  refine callV_pc (may_ok l hl) rfl rfl (by simp) (by simp [argLe, TV.er, AV.er]) ?_
  cases hm : mayV l
  · (simp (maxSteps := 2000000) (disch := first | omega | assumption) [zz, Tryz.f89, underV, hm])
  by_cases he : d = []
  · (simp (maxSteps := 2000000) (disch := first | omega | assumption) [zz, he, Tryz.f89, underV, hm])
  (simp (maxSteps := 2000000) (disch := first | omega | assumption) [zz, he])
  refine callV_pc (may_ok d (by omega)) rfl rfl (by simp) (by simp [argLe, TV.er, AV.er]) ?_
  cases hm2 : mayV d
  · (simp (maxSteps := 2000000) (disch := first | omega | assumption) [zz, Tryz.f89, underV, hm, hm2, he])
  (simp (maxSteps := 2000000) (disch := first | omega | assumption) [zz, he])
  refine ⟨by omega, ?_⟩
  refine callV_pc (hasPrefix_ok l (d ++ [47]) hl (by simp; omega)) rfl rfl (by simp) (by simp [argLe, TV.er, AV.er]) ?_
  (simp (maxSteps := 2000000) (disch := first | omega | assumption) [zz, Tryz.f89, underV, hm, hm2, he])
end Go.Proofs.YthdgnfnalimcnaaGreatDoor
end
section
set_option maxRecDepth 100000
/-! The reference's parts of a text. -/
namespace Go.Proofs.YthdgnfnalimcnaaGreatDoor
open Go Go.Ab
open Classical
variable [Sel]

@[simp] theorem fnok69 : fnOK Tryz.prog 69 = true := by kernel_rfl
@[simp] theorem isne69 : isNE Tryz.prog (.func 69) = false := isNE_func fnok69
@[simp] theorem fnok70 : fnOK Tryz.prog 70 = true := by kernel_rfl
@[simp] theorem isne70 : isNE Tryz.prog (.func 70) = false := isNE_func fnok70
@[simp] theorem fnok36 : fnOK Tryz.prog 36 = true := by kernel_rfl
@[simp] theorem isne36 : isNE Tryz.prog (.func 36) = false := isNE_func fnok36
@[simp] theorem fnok71 : fnOK Tryz.prog 71 = true := by kernel_rfl
@[simp] theorem isne71 : isNE Tryz.prog (.func 71) = false := isNE_func fnok71
@[simp] theorem fnok37 : fnOK Tryz.prog 37 = true := by kernel_rfl
@[simp] theorem isne37 : isNE Tryz.prog (.func 37) = false := isNE_func fnok37
theorem splitB_snoc (c b : UInt8) : ∀ l, splitB c (l ++ [b]) = if b = c then splitB c l ++ [[]] else (splitB c l).set ((splitB c l).length - 1) (((splitB c l)[(splitB c l).length - 1]?.getD []) ++ [b])
  | [] => by
    simp only [List.nil_append, splitB]
    split <;> simp
  | x :: l => by
    have ih := splitB_snoc c b l
    have hne := splitB_ne c l
    simp only [List.cons_append, splitB]
    by_cases hx : x = c
    · simp only [hx, if_true]
      rw [ih]
      by_cases hb : b = c
      · simp [hb]
      · simp only [hb, if_false]
        cases hs : splitB c l with
        | nil => exact absurd hs hne
        | cons y r => simp
    · simp only [hx, if_false]
      rw [ih]
      cases hs : splitB c l with
      | nil => exact absurd hs hne
      | cons y r =>
        by_cases hb : b = c
        · simp [hb]
        · simp only [hb, if_false]
          cases r with
          | nil => simp
          | cons z q => simp
def strs (l : List (List UInt8)) : List AV := l.map AV.s
abbrev cfParts : Cfg := ⟨fun _ => false, fun n => n == 5 || n == 35⟩
def partsR (l : List UInt8) (r : TV) (H' : Heap) : Prop := ∃ b cap rs, r = .av (.slice 9) (.msl b 9 0 (splitB 47 l).length cap) ∧ H' = [(b, .var (.arr cap 9) (.agg (strs (splitB 47 l ++ rs))))] ∧ (splitB 47 l).length + rs.length = cap
theorem splitB_le (c : UInt8) : ∀ l, (splitB c l).length ≤ l.length + 1
  | [] => by simp [splitB]
  | b :: l => by
    have := splitB_le c l
    unfold splitB
    split
    · simp; omega
    · cases hs : splitB c l with
      | nil => simp
      | cons y r => rw [hs] at this; simp at this ⊢; omega
@[simp] theorem strs_length (l : List (List UInt8)) : (strs l).length = l.length := by simp [strs]
theorem strs_app (a b : List (List UInt8)) : strs (a ++ b) = strs a ++ strs b := by simp [strs]
theorem u8_ne {x : UInt8} {n : Nat} (hn : n < 256) (h : ¬ x = UInt8.ofNat n) : ¬ (x.toNat : Int) = n := fun e => h (by
  apply UInt8.toNat_inj.1
  simp [Nat.mod_eq_of_lt hn]; omega)
@[simp] theorem erks_strs (l : List (List UInt8)) : AV.erks (strs l) = strs l := by simp [strs, AV.erks_eq, AV.erk, Function.comp_def]
@[simp] theorem ers_strs (l : List (List UInt8)) : AV.ers (strs l) = strs l := by simp [strs, AV.ers_eq, AV.er, Function.comp_def]
theorem strs_take (l : List (List UInt8)) (n : Nat) : (strs l).take n = strs (l.take n) := by simp [strs, List.map_take]
theorem strs_drop (l : List (List UInt8)) (n : Nat) : (strs l).drop n = strs (l.drop n) := by simp [strs, List.map_drop]
theorem strs_rep (n : Nat) : List.replicate n (AV.s []) = strs (List.replicate n []) := by simp [strs]
theorem strs_cons (x : List UInt8) (l : List (List UInt8)) : AV.s x :: strs l = strs (x :: l) := rfl
set_option maxHeartbeats 8000000 in
theorem rparts0_ok (l : List UInt8) (hl : l.length ≤ 1000000000) : ACalls Tryz.prog 69 [.av .str (.s l)] [] (partsR l) := by
  refine ACalls.of_vc laid mixed Tryz.func69 rfl (by kernel_rfl) cfParts (by simp [Tryz.ntmps69]) fun imm0 w0 => ?_
  (simp (maxSteps := 2000000) (disch := first | omega | assumption) [zz])
  intro b0
  refine AT.loopV (α := Nat × Nat × Nat × List (List UInt8) × List (List UInt8)) (fun x ver => St.of [(0, .av .str (.s l)), (3, .av (.slice 9) (.msl x.2.1 9 0 x.2.2.2.1.length x.2.2.1)), (4, .av (.int .i64) (.i .i64 x.1))] [] ver [(x.2.1, .var (.arr x.2.2.1 9) (.agg (strs (x.2.2.2.1 ++ x.2.2.2.2))))])
    (fun x => x.1 ≤ l.length ∧ x.2.2.2.1 = splitB 47 (l.take x.1) ∧ x.2.2.2.1.length + x.2.2.2.2.length = x.2.2.1) (fun x => l.length - x.1) (0, b0, 1, [[]], []) ?_ ?_ ?_
  · refine Le.of ?_ ?_ ?_ ?_ ?_ <;> simp [leTV, locsIn, encDigs, encTraces, encWant, encTrace, encReads, encRead, encMades, encMade, strs] <;> try omega
  · simp [splitB]
  rintro ⟨k, b, cap, ps, rest⟩ ver ⟨hk, hps, hcap⟩ KL hN hE
  simp only at hk hps hcap hN
  have hsl := splitB_le 47 (l.take k)
  rw [← hps] at hsl
  simp at hsl
  have hne : ps ≠ [] := by rw [hps]; exact splitB_ne _ _
  have hpos : 0 < ps.length := List.length_pos_iff.2 hne
  have e1 : (strs (ps ++ rest)).take ps.length = strs ps := by rw [strs_take, List.take_left]
  have e2 : (strs (ps ++ rest)).drop (ps.length + 1) = strs (rest.drop 1) := by
    rw [strs_drop, List.drop_append, List.drop_eq_nil_of_le (by omega)]
    simp
  refine vc_sound (cf := cfParts) laid mixed _ _ _ (by kernel_rfl) ?_
  by_cases hlt : k < l.length
  · have hlt' : (k : Int) < l.length := by omega
    have hsn := splitB_snoc 47 l[k] (l.take k)
    rw [← List.take_succ_eq_append_getElem hlt, ← hps] at hsn
    by_cases hc : l[k] = 47
    · rw [if_pos hc] at hsn
      (simp (maxSteps := 2000000) (disch := first | omega | assumption) [zz, hlt', hc, e1, e2])
      refine ⟨by omega, ⟨by omega, by omega⟩, fun hcp => ?_, fun hcp b' cap' hb' hcp' => ?_⟩
      · refine hN _ (k+1, b, cap, ps ++ [[]], rest.drop 1) ?_ ⟨by omega, hsn.symm, by simp; omega⟩ (by simp; omega)
        refine Le.of ?_ ?_ ?_ ?_ ?_ <;> simp [leTV, locsIn, encDigs, encTraces, encWant, encTrace, encReads, encRead, encMades, encMade, strs_app, strs_cons, e1, e2] <;> try omega
      · refine hN _ (k+1, b', cap', ps ++ [[]], List.replicate (cap' - (ps.length + 1)) []) ?_ ⟨by omega, hsn.symm, by simp at hcp' ⊢; omega⟩ (by simp; omega)
        have hmin : min ps.length (ps.length + rest.length) = ps.length := by omega
        refine Le.of ?_ ?_ ?_ ?_ ?_ <;> simp [leTV, locsIn, encDigs, encTraces, encWant, encTrace, encReads, encRead, encMades, encMade, strs_app, strs_rep, strs_cons, e1, e2, hmin] <;> try omega
    · rw [if_neg hc] at hsn
      have hc' : ¬ (l[k].toNat : Int) = 47 := by have := u8_ne (n := 47) (by omega) hc; simpa using this
      have e3 : (strs (ps ++ rest))[ps.length - 1]? = some (.s (ps[ps.length - 1]?.getD [])) := by
        simp only [strs, List.getElem?_map]
        rw [List.getElem?_append_left (by omega), List.getElem?_eq_getElem (by omega)]
        rfl
      have e4 : ∀ x, (strs (ps ++ rest)).set (ps.length - 1) (.s x) = strs (ps.set (ps.length - 1) x ++ rest) := by
        intro x
        rw [← List.set_append_left _ _ (by omega)]
        simp [strs, List.map_set]
      have e5 : (l.take (k+1)).drop k = [l[k]] := by
        rw [List.take_succ_eq_append_getElem hlt]
        exact List.drop_left' (by simp; omega)
      have e6 : (ps[ps.length - 1]?.getD []).length ≤ l.length := by
        rw [List.getElem?_eq_getElem (by omega)]
        have := splitB_len 47 (l.take k) ps[ps.length - 1] (by rw [← hps]; exact List.getElem_mem _)
        simp at this ⊢; omega
      generalize hz : (ps[ps.length - 1]?.getD []) = z at *
      (simp (maxSteps := 2000000) (disch := first | omega | assumption) [zz, hlt', hc', e1, e2, e3, e4, e5])
      (repeat ((with_reducible refine And.intro ?_ ?_); (· first | omega | (show barB _ _ = true; kernel_rfl) | (show rdJ _ _ _ _ _ = true; kernel_rfl) | (show tailB _ _ _ = true; kernel_rfl) | (show sftB _ _ _ = true; kernel_rfl))))
      refine hN _ (k+1, b, cap, ps.set (ps.length - 1) (z ++ [l[k]]), rest) ?_ ⟨by omega, hsn.symm, by simp; omega⟩ (by simp; omega)
      refine Le.of ?_ ?_ ?_ ?_ ?_ <;> simp [leTV, locsIn, encDigs, encTraces, encWant, encTrace, encReads, encRead, encMades, encMade, e4] <;> try omega
  · have hlt' : ¬ (k : Int) < l.length := by omega
    (simp (maxSteps := 2000000) (disch := first | omega | assumption) [zz, hlt'])
    refine hE _ _ (by simp) ?_
    have hkl : l.take k = l := List.take_of_length_le (by omega)
    rw [hkl] at hps
    (simp (maxSteps := 2000000) (disch := first | omega | assumption) [zz, Tryz.f69, partsR, ← hps])
    exact ⟨_, _, ⟨rfl, rfl⟩, rest, ⟨rfl, rfl, rfl⟩, hcap⟩
theorem rparts_ok (l : List UInt8) (hl : l.length ≤ 1000000000) : PC Tryz.prog 69 [.av .str (.s l)] (.av (.slice 9) (.sl .no (strs (splitB 47 l)))) := by
  refine (rparts0_ok l hl).freeze laid ?_
  rintro r H' ⟨b, cap, rs, rfl, rfl, hc⟩ _
  left
  refine ⟨b, cap, 9, _, [], List.Perm.refl _, ?_, rfl⟩
  simp only [fzTV, fzA]
  rw [if_pos ⟨trivial, trivial, by omega, by omega⟩]
  simp [strs_take]
end Go.Proofs.YthdgnfnalimcnaaGreatDoor
end
