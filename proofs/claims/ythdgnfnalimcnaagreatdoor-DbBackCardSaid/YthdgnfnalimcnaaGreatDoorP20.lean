/- A trace's bytes: the program. No condition beyond each theorem's own. -/
import Derived.Test.YthdgnfnalimcnaaGreatDoorP18To9
import Derived.Test.YthdgnfnalimcnaaGreatDoorP15ToP16
set_option linter.unusedSimpArgs false
set_option linter.unusedVariables false
set_option linter.unusedSectionVars false
set_option maxRecDepth 100000
/-! A trace's bytes: the program. -/
namespace Go.Proofs.YthdgnfnalimcnaaGreatDoor
open Go Go.Ab
open Classical
variable [Sel] [SelPow]

theorem ARs_fz {P : Program} {g g' : Gh} {w : World} {b m : Nat} {e : TypeId} {ys : List AV} (hf : ∀ d x v, VV P g w d x v → VV P g' w d (fzA b m e ys x) v) : ∀ {xs : List TV} {vs : List Value}, ARs P g w xs vs → ARs P g' w (xs.map (fzTV b m e ys)) vs
  | [], [], _ => trivial
  | x :: xs, v :: vs, h => by
    refine ⟨?_, ARs_fz hf h.2⟩
    have h1 := h.1
    cases x with
    | av d x => exact hf d x v h1
    | cst c => exact h1
    | tup l => obtain ⟨us, h3, h4⟩ := h1; exact ⟨us, h3, VVs_fz hf h4⟩
    | _ => exact h1.elim
  | [], _ :: _, h => h.elim
  | _ :: _, [], h => h.elim
theorem ACalls.fzArgs {P : Program} (hl : laidOutB P = true) {f : FuncId} {args : List TV} {H : Heap} {R : TV → Heap → Prop} {b m : Nat} {e : TypeId} {xs : List AV}
    (h : ACalls P f (args.map (fzTV b m e xs)) H R) : ACalls P f args ((b, .var (.arr m e) (.agg xs)) :: H) R := by
  intro imm w vs hrep hargs
  obtain ⟨h0, cs, ⟨E, fz, hc, _, _⟩, hvc⟩ := hrep.obj b (.var (.arr m e) (.agg xs)) (by simp)
  simp only [VC] at hvc
  obtain ⟨hm, hvl⟩ := hvc
  have hsz := VL_len hl _ _ _ hvl
  rw [Array.length_toList, hm] at hsz
  have h00 : imm b = 0 := h0
  have hle : (g0 imm).le (g0 (upd imm b (m * P.cellsOf e))) := by
    refine ⟨fun x => ?_, fun _ _ _ e => by cases e⟩
    simp only [g0, upd]; split
    · rename_i ee; rw [ee, h00]; exact Nat.zero_le _
    · exact Nat.le_refl _
  have hk : ImmKept (g0 imm) w w := fun b cs E fz _ hb => ⟨cs, E, fz, hb, rfl, fun _ _ => rfl⟩
  have hi : ImmIn (g0 imm) w := hrep.imm
  have hcell : cellsAt w b 0 (m * P.cellsOf e) = cs.toList := by
    unfold cellsAt
    rw [hc]
    simp only [List.drop_zero]
    rw [List.take_of_length_le (by simp [hsz])]
  have hv2 : VL P (g0 (upd imm b (m * P.cellsOf e))) w e xs (cellsAt w b 0 (m * P.cellsOf e)) := by
    rw [hcell]; exact VL_mono hle hi hk _ _ _ hvl
  have hb2 : m * P.cellsOf e ≤ (g0 (upd imm b (m * P.cellsOf e))).imm b := by simp [g0, upd]
  have hfz : ∀ d x v, VV P (g0 imm) w d x v → VV P (g0 (upd imm b (m * P.cellsOf e))) w d (fzA b m e xs x) v := fun d x v hx =>
    ⟨hx.1, fzA_VC hl hle hi hb2 hv2 hm x d _ hx.2⟩
  have hnd := hrep.nodup
  simp only [Heap.keys, List.map_cons, List.nodup_cons] at hnd
  have hrep2 : Rep P (g0 (upd imm b (m * P.cellsOf e))) w H := by
    refine ⟨fun x hx => ?_, hnd.2, fun x o ho => ?_, hrep.tab.keep (g := g0 imm) (g' := g0 (upd imm b (m * P.cellsOf e))) hle hi hk⟩
    · simp only [g0, upd] at hx ⊢
      split
      · rename_i ee; rw [ee]; exact ⟨cs, E, fz, hc, by rw [hsz]; exact Nat.le_refl _⟩
      · rename_i ee; rw [if_neg ee] at hx; exact hrep.imm x hx
    · have hne : x ≠ b := fun ee => hnd.1 (by rw [← ee]; exact List.mem_map.2 ⟨(x, o), ho, rfl⟩)
      have himm : upd imm b (m * P.cellsOf e) x = imm x := by simp [upd, hne]
      have hob := hrep.obj x o (List.mem_cons_of_mem _ ho)
      cases o with
      | var d y => obtain ⟨q1, cs', q2, q3⟩ := hob; exact ⟨himm.trans q1, cs', q2, VC_mono hle hi hk _ _ _ q3⟩
      | map k e es => obtain ⟨q1, en, ck, q2, q3⟩ := hob; exact ⟨himm.trans q1, en, ck, q2, EntsRel_mono hle hi hk q3.1, q3.2⟩
      | raw o i0 w0 => obtain ⟨q1, q2, q3⟩ := hob; exact ⟨himm.trans q1, q2, LaterO_mono q3 hle hk⟩
  refine (h _ w vs hrep2 (ARs_fz hfz hargs)).mono ?_
  rintro e' w' ⟨v, r, imm', H', a, hR, hv, hrep', st⟩
  refine ⟨v, r, imm', H', a, hR, hv, hrep', ?_⟩
  exact {
    os := st.os, tape := st.tape, output := st.output, size := st.size, drawn := st.drawn
    frame := fun x hx hn => by
      simp only [Heap.keys, List.map_cons, List.mem_cons, not_or] at hn
      obtain ⟨q1, q2⟩ := st.frame x hx hn.2
      exact ⟨q1, q2.trans (by simp [upd, hn.1])⟩
    imm := fun x => Nat.le_trans (hle.1 x) (st.imm x)
    kept := fun x cs' E' fz' h1 h2 => by
      have hne : x ≠ b := fun ee => by rw [ee] at h1; omega
      have := st.kept x cs' E' fz' (by simp [upd, hne]; exact h1) h2
      simpa [upd, hne] using this
    dom := fun x hx => by
      rcases st.dom x hx with h1 | h1
      · left; simp only [Heap.keys, List.map_cons, List.mem_cons]; exact .inr h1
      · exact .inr h1 }
@[simp] theorem fnok34 : fnOK Tryz.prog 34 = true := by kernel_rfl
@[simp] theorem isne34 : isNE Tryz.prog (.func 34) = false := isNE_func fnok34
def readT (r : Read) : List (List UInt8) := [r.path, if r.is then r.sum else []]
def madeT (m : Made) : List (List UInt8) := [m.path, m.sum]
def bytesL (t : Trace) : List (List UInt8) := [t.key, Lib.itoa t.reads.length] ++ t.reads.flatMap readT ++ t.outs.flatMap madeT
def TrD (t : Trace) : Prop := t.key.length = 32 ∧ (∀ r ∈ t.reads, r.sum.length = 32) ∧ ∀ m ∈ t.outs, m.sum.length = 32
theorem strs'_app (a b : List (List UInt8)) : strs' (a ++ b) = strs' a ++ strs' b := by simp [strs']
theorem strs'_take (l : List (List UInt8)) (n : Nat) : (strs' l).take n = strs' (l.take n) := by simp [strs', List.map_take]
theorem strs'_drop (l : List (List UInt8)) (n : Nat) : (strs' l).drop n = strs' (l.drop n) := by simp [strs', List.map_drop]
theorem strs'_rep (n : Nat) : List.replicate n (AV.s []) = strs' (List.replicate n []) := by simp [strs']
@[simp] theorem erks_strs' (l : List (List UInt8)) : AV.erks (strs' l) = strs' l := by simp [strs', AV.erks_eq, AV.erk, Function.comp_def]
@[simp] theorem ers_strs' (l : List (List UInt8)) : AV.ers (strs' l) = strs' l := by simp [strs', AV.ers_eq, AV.er, Function.comp_def]
theorem strs'_cons (x : List UInt8) (l : List (List UInt8)) : AV.s x :: strs' l = strs' (x :: l) := rfl
theorem strs'_set (a : List (List UInt8)) (p q x : List UInt8) (r : List (List UInt8)) : (strs' (a ++ p :: q :: r)).set (a.length + 1) (.s x) = strs' (a ++ p :: x :: r) := by
  simp only [strs']
  rw [← List.map_set]
  congr 1
  rw [List.set_append_right _ _ (by omega)]
  simp
noncomputable def bytesTV (t : Trace) : TV := if checkV t = 0 then .tup [(.str, .s (rowV (bytesL t))), (.int .i64, .i .i64 0)] else .tup [(.str, .s []), (.int .i64, .i .i64 (checkV t))]
theorem checkV_len {t : Trace} (h : checkV t = 0) : t.reads.length ≤ 500 ∧ t.outs.length ≤ 1000 := by
  unfold checkV at h
  split at h
  · cases h
  · omega
abbrev cfBytes : Cfg := ⟨fun _ => false, fun n => n == 22⟩
set_option maxHeartbeats 16000000 in
theorem bytes_ok (t : Trace) (ht : TrP t) (hd : TrD t) (hb : checkV t = 0 → (rowV (bytesL t)).length ≤ 10000000000) : PC Tryz.prog 34 [.av (tyOf Tryz.prog 34) (encTrace t)] (bytesTV t) := by
  unfold PC
  refine ACalls.sub (R := fun r H' => r = bytesTV t) ?_ (fun r H' hr _ => ⟨[], HSub.of_sub (List.nil_sublist _), hr, rfl⟩)
  refine ACalls.of_vc laid mixed Tryz.func34 rfl (by kernel_rfl) cfBytes (by simp [Tryz.ntmps34]) fun imm0 w0 => ?_
  (simp (maxSteps := 2000000) (disch := first | omega | assumption) [zz, encTrace])
  refine callV_pc (check_ok t ht) rfl rfl (by simp) (by simp [argLe, TV.er, AV.er, AV.ers, encTrace]) ?_
  by_cases hc : checkV t = 0
  rotate_left
  · (simp (maxSteps := 2000000) (disch := first | omega | assumption) [zz, hc, Tryz.f34, bytesTV])
  obtain ⟨hrl, hol⟩ := checkV_len hc
  obtain ⟨hd1, hd2, hd3⟩ := hd
  (simp (maxSteps := 2000000) (disch := first | omega | assumption) [zz, hc])
  (repeat ((with_reducible refine And.intro ?_ ?_); (· first | omega | (show barB _ _ = true; kernel_rfl) | (show rdJ _ _ _ _ _ = true; kernel_rfl) | (show tailB _ _ _ = true; kernel_rfl) | (show sftB _ _ _ = true; kernel_rfl))))
  refine callD_pc (dsum0_ok t.key hd1) rfl rfl (by simp) (by simp [argLe, TV.er]) ?_
  (simp (maxSteps := 2000000) (disch := first | omega | assumption) [zz, encReads])
  (repeat ((with_reducible refine And.intro ?_ ?_); (· first | omega | (show barB _ _ = true; kernel_rfl) | (show rdJ _ _ _ _ _ = true; kernel_rfl) | (show tailB _ _ _ = true; kernel_rfl) | (show sftB _ _ _ = true; kernel_rfl))))
  refine callD_pc (num_ok t.reads.length (by omega) (by omega)) rfl rfl (by simp) (by simp [argLe, TV.er, AV.er]) ?_
  (simp (maxSteps := 2000000) (disch := first | omega | assumption) [zz])
  refine ⟨(show barB _ _ = true by kernel_rfl), ?_⟩
  intro b0
  refine AT.loopV (α := Nat × Nat × Nat × List (List UInt8) × List (List UInt8)) (fun x ver => St.of [(1, .loc 1 []), (5, .av (.slice 9) (.msl x.2.1 9 0 x.2.2.2.1.length x.2.2.1)), (24, .av (.slice 59) (encReads t.reads)), (25, .av (.int .i64) (.i .i64 t.reads.length)), (26, .av (.int .i64) (.i .i64 x.1))] [(1, (tyOf Tryz.prog 34, encTrace t))] ver [(x.2.1, .var (.arr x.2.2.1 9) (.agg (strs' (x.2.2.2.1 ++ x.2.2.2.2))))])
    (fun x => x.1 ≤ t.reads.length ∧ x.2.2.2.1 = [t.key, Lib.itoa t.reads.length] ++ (t.reads.take x.1).flatMap readT ∧ x.2.2.2.1.length + x.2.2.2.2.length = x.2.2.1 ∧ x.2.2.2.1.length = 2 + 2 * x.1) (fun x => t.reads.length - x.1) (0, b0, 2, [t.key, Lib.itoa t.reads.length], []) ?_ ?_ ?_
  · refine Le.of ?_ ?_ ?_ ?_ ?_ <;> simp [leTV, locsIn, encDigs, encTraces, encWant, encTrace, encReads, encRead, encMades, encMade, encTrace, encReads, strs'] <;> try omega
  · simp
  · rintro ⟨k, b, cap, ps, rs⟩ ver ⟨hk, hps, hcap, hpl⟩ KL hN hE
    simp only at hk hps hcap hpl hN
    have e1 : (strs' (ps ++ rs)).take ps.length = strs' ps := by rw [strs'_take, List.take_left]
    have e2 : (strs' (ps ++ rs)).drop (ps.length + 2) = strs' (rs.drop 2) := by
      rw [strs'_drop, List.drop_append, List.drop_eq_nil_of_le (by omega)]; simp
    have e5 : ∀ (p x : List UInt8) r', (strs' ps ++ strs' (p :: [] :: r')).set (ps.length + 1) (.s x) = strs' (ps ++ p :: x :: r') := by
      intro p x r'
      rw [← strs'_app, strs'_set]
    refine vc_sound (cf := cfBytes) laid mixed _ _ _ (by kernel_rfl) ?_
    by_cases hlt : k < t.reads.length
    · have hlt' : (k : Int) < t.reads.length := by omega
      have hg := map_get encRead t.reads k hlt
      have hds := hd2 t.reads[k] (List.getElem_mem _)
      have htk : (t.reads.take (k+1)).flatMap readT = (t.reads.take k).flatMap readT ++ readT t.reads[k] := by
        rw [List.take_succ_eq_append_getElem hlt, List.flatMap_append]; simp
      obtain ⟨r, hr⟩ : ∃ r, r = t.reads[k] := ⟨_, rfl⟩
      rw [← hr] at hg hds htk
      have hnew : ∀ q, q = (if r.is then r.sum else []) → ps ++ [r.path, q] = [t.key, Lib.itoa t.reads.length] ++ (t.reads.take (k+1)).flatMap readT := by
        intro q hq; rw [htk, hps, hq]; simp [readT]
      (simp (maxSteps := 2000000) (disch := first | omega | assumption) [zz, hlt', hg, encReads, encRead, e1, e2])
      have hmin : min ps.length (ps.length + rs.length) = ps.length := by omega
      cases his : r.is
      · refine ⟨by omega, ⟨by omega, by omega⟩, fun hcp => ?_, fun hcp b' cap' hb' hcp' => ?_⟩
        · (simp (maxSteps := 2000000) (disch := first | omega | assumption) [zz, his, strs'_cons])
          refine hN _ (k+1, b, cap, ps ++ [r.path, []], rs.drop 2) ?_ ⟨by omega, hnew [] (by simp [his]), by simp; omega, by simp; omega⟩ (by simp; omega)
          refine Le.of ?_ ?_ ?_ ?_ ?_ <;> simp [leTV, locsIn, encDigs, encTraces, encWant, encTrace, encReads, encRead, encMades, encMade, encTrace, encReads, strs'_app, strs'_cons, e1, e2] <;> try omega
        · (simp (maxSteps := 2000000) (disch := first | omega | assumption) [zz, his, strs'_cons, hmin])
          refine hN _ (k+1, b', cap', ps ++ [r.path, []], List.replicate (cap' - (ps.length + 2)) []) ?_ ⟨by omega, hnew [] (by simp [his]), by simp at hcp' ⊢; omega, by simp; omega⟩ (by simp; omega)
          refine Le.of ?_ ?_ ?_ ?_ ?_ <;> simp [leTV, locsIn, encDigs, encTraces, encWant, encTrace, encReads, encRead, encMades, encMade, encTrace, encReads, strs'_app, strs'_cons, strs'_rep, e1, e2, hmin] <;> try omega
      · refine ⟨by omega, ⟨by omega, by omega⟩, fun hcp => ?_, fun hcp b' cap' hb' hcp' => ?_⟩
        · (simp (maxSteps := 2000000) (disch := first | omega | assumption) [zz, his, strs'_cons])
          refine callV_sub (R := fun r' H' => r' = .av .str (.s r.sum) ∧ H' = []) [] [(b, .var (.arr cap 9) (.agg (strs' ps ++ strs' (r.path :: [] :: rs.drop 2))))] (by simp) rfl (by simp [argOK]) (by simp) ?_ ?_
          · exact ACalls.args (dsum0_ok r.sum hds) (by simp [argLe, TV.er])
          rintro r' H' ⟨rfl, rfl⟩ _
          refine ⟨_, HSub.refl _, ?_⟩
          (simp (maxSteps := 2000000) (disch := first | omega | assumption) [zz])
          (repeat ((with_reducible refine And.intro ?_ ?_); (· first | omega | (show barB _ _ = true; kernel_rfl) | (show rdJ _ _ _ _ _ = true; kernel_rfl) | (show tailB _ _ _ = true; kernel_rfl) | (show sftB _ _ _ = true; kernel_rfl))))
          refine hN _ (k+1, b, cap, ps ++ [r.path, r.sum], rs.drop 2) ?_ ⟨by omega, hnew r.sum (by simp [his]), by simp; omega, by simp; omega⟩ (by simp; omega)
          refine Le.of ?_ ?_ ?_ ?_ ?_ <;> simp [leTV, locsIn, encDigs, encTraces, encWant, encTrace, encReads, encRead, encMades, encMade, encTrace, encReads, e5] <;> try omega
        · (simp (maxSteps := 2000000) (disch := first | omega | assumption) [zz, his, strs'_cons, hmin, strs'_rep])
          refine callV_sub (R := fun r' H' => r' = .av .str (.s r.sum) ∧ H' = []) [] [(b', .var (.arr cap' 9) (.agg (strs' ps ++ strs' (r.path :: [] :: List.replicate (cap' - (ps.length + 2)) [])))), (b, .var (.arr cap 9) (.agg (strs' (ps ++ rs))))] (by simp) rfl (by simp [argOK]) (by simp) ?_ ?_
          · exact ACalls.args (dsum0_ok r.sum hds) (by simp [argLe, TV.er])
          rintro r' H' ⟨rfl, rfl⟩ _
          refine ⟨_, HSub.refl _, ?_⟩
          (simp (maxSteps := 2000000) (disch := first | omega | assumption) [zz, hb'])
          (repeat ((with_reducible refine And.intro ?_ ?_); (· first | omega | (show barB _ _ = true; kernel_rfl) | (show rdJ _ _ _ _ _ = true; kernel_rfl) | (show tailB _ _ _ = true; kernel_rfl) | (show sftB _ _ _ = true; kernel_rfl))))
          refine hN _ (k+1, b', cap', ps ++ [r.path, r.sum], List.replicate (cap' - (ps.length + 2)) []) ?_ ⟨by omega, hnew r.sum (by simp [his]), by simp at hcp' ⊢; omega, by simp; omega⟩ (by simp; omega)
          refine Le.of ?_ ?_ ?_ ?_ ?_ <;> simp [leTV, locsIn, encDigs, encTraces, encWant, encTrace, encReads, encRead, encMades, encMade, encTrace, encReads, e5] <;> try omega
    · have hlt' : ¬ (k : Int) < t.reads.length := by omega
      have hkn : k = t.reads.length := by omega
      (simp (maxSteps := 2000000) (disch := first | omega | assumption) [zz, hlt', encReads, encTrace])
      refine hE _ _ (by simp) ?_
      rw [hkn, List.take_length] at hps
      rw [hkn] at hpl
      (simp (maxSteps := 2000000) (disch := first | omega | assumption) [zz, encTrace, encMades])
      refine AT.loopV (α := Nat × Nat × Nat × List (List UInt8) × List (List UInt8)) (fun x ver => St.of [(1, .loc 1 []), (5, .av (.slice 9) (.msl x.2.1 9 0 x.2.2.2.1.length x.2.2.1)), (47, .av (.slice 73) (encMades t.outs)), (48, .av (.int .i64) (.i .i64 t.outs.length)), (49, .av (.int .i64) (.i .i64 x.1))] [(1, (tyOf Tryz.prog 34, encTrace t))] ver [(x.2.1, .var (.arr x.2.2.1 9) (.agg (strs' (x.2.2.2.1 ++ x.2.2.2.2))))])
        (fun x => x.1 ≤ t.outs.length ∧ x.2.2.2.1 = [t.key, Lib.itoa t.reads.length] ++ t.reads.flatMap readT ++ (t.outs.take x.1).flatMap madeT ∧ x.2.2.2.1.length + x.2.2.2.2.length = x.2.2.1 ∧ x.2.2.2.1.length = 2 + 2 * t.reads.length + 2 * x.1) (fun x => t.outs.length - x.1) (0, b, cap, ps, rs) ?_ ?_ ?_
      · refine Le.of ?_ ?_ ?_ ?_ ?_ <;> simp [leTV, locsIn, encDigs, encTraces, encWant, encTrace, encReads, encRead, encMades, encMade, encTrace, encReads, encMades] <;> try omega
      · refine ⟨by simp, by simp [hps], hcap, by simp [hpl]⟩
      clear hN hE
      clear e1 e2 e5
      rintro ⟨k2, b2, cap2, ps2, rs2⟩ ver2 ⟨hk2, hps2, hcap2, hpl2⟩ KL2 hN2 hE2
      simp only at hk2 hps2 hcap2 hpl2 hN2
      have e1 : (strs' (ps2 ++ rs2)).take ps2.length = strs' ps2 := by rw [strs'_take, List.take_left]
      have e2 : (strs' (ps2 ++ rs2)).drop (ps2.length + 2) = strs' (rs2.drop 2) := by
        rw [strs'_drop, List.drop_append, List.drop_eq_nil_of_le (by omega)]; simp
      refine vc_sound (cf := cfBytes) laid mixed _ _ _ (by kernel_rfl) ?_
      by_cases hlt2 : k2 < t.outs.length
      · have hlt2' : (k2 : Int) < t.outs.length := by omega
        have hg := map_get encMade t.outs k2 hlt2
        have hds := hd3 t.outs[k2] (List.getElem_mem _)
        have htk : (t.outs.take (k2+1)).flatMap madeT = (t.outs.take k2).flatMap madeT ++ madeT t.outs[k2] := by
          rw [List.take_succ_eq_append_getElem hlt2, List.flatMap_append]; simp
        obtain ⟨m, hm⟩ : ∃ m, m = t.outs[k2] := ⟨_, rfl⟩
        rw [← hm] at hg hds htk
        have hnew : ps2 ++ [m.path, m.sum] = [t.key, Lib.itoa t.reads.length] ++ t.reads.flatMap readT ++ (t.outs.take (k2+1)).flatMap madeT := by
          rw [htk, hps2]; simp [madeT]
        have hmin : min ps2.length (ps2.length + rs2.length) = ps2.length := by omega
        (simp (maxSteps := 2000000) (disch := first | omega | assumption) [zz, hlt2', hg, encMades, encMade])
        (repeat ((with_reducible refine And.intro ?_ ?_); (· first | omega | (show barB _ _ = true; kernel_rfl) | (show rdJ _ _ _ _ _ = true; kernel_rfl) | (show tailB _ _ _ = true; kernel_rfl) | (show sftB _ _ _ = true; kernel_rfl))))
        refine callD_pc (dsum0_ok m.sum hds) rfl rfl (by simp) (by simp [argLe, TV.er]) ?_
        (simp (maxSteps := 2000000) (disch := first | omega | assumption) [zz, e1, e2])
        refine ⟨by omega, ⟨by omega, by omega⟩, fun hcp => ?_, fun hcp b' cap' hb' hcp' => ?_⟩
        · refine hN2 _ (k2+1, b2, cap2, ps2 ++ [m.path, m.sum], rs2.drop 2) ?_ ⟨by omega, hnew, by simp; omega, by simp; omega⟩ (by simp; omega)
          refine Le.of ?_ ?_ ?_ ?_ ?_ <;> simp [leTV, locsIn, encDigs, encTraces, encWant, encTrace, encReads, encRead, encMades, encMade, encTrace, encMades, strs'_app, strs'_cons] <;> try omega
        · refine hN2 _ (k2+1, b', cap', ps2 ++ [m.path, m.sum], List.replicate (cap' - (ps2.length + 2)) []) ?_ ⟨by omega, hnew, by simp at hcp' ⊢; omega, by simp; omega⟩ (by simp; omega)
          refine Le.of ?_ ?_ ?_ ?_ ?_ <;> simp [leTV, locsIn, encDigs, encTraces, encWant, encTrace, encReads, encRead, encMades, encMade, encTrace, encMades, strs'_app, strs'_cons, strs'_rep, hmin] <;> try omega
      · have hlt2' : ¬ (k2 : Int) < t.outs.length := by omega
        have hkn2 : k2 = t.outs.length := by omega
        have hbl : ps2 = bytesL t := by rw [hps2, hkn2, List.take_length]; rfl
        (simp (maxSteps := 2000000) (disch := first | omega | assumption) [zz, hlt2'])
        refine hE2 _ _ (by simp) ?_
        (simp (maxSteps := 2000000) (disch := first | omega | assumption) [zz])
        refine callV_all (R := fun r H' => r = .av .str (.s (rowV (bytesL t)))) rfl (by simp [argOK]) (by simp) ?_ ?_
        · simp only [Heap.er_cons, Heap.er_nil, HObj.er, AV.erk, erks_strs']
          refine ACalls.fzArgs laid ?_
          have := row_ok (bytesL t) (by rw [← hbl]; omega) (hb hc)
          have := ACalls.sub this (R' := fun r H' => r = .av .str (.s (rowV (bytesL t)))) (fun r H' h _ => ⟨H', HSub.refl _, h.1⟩)
          have harg : fzA b2 cap2 9 (strs' (ps2 ++ rs2)) (.msl b2 9 0 ps2.length cap2) = .sl .no (strs' (bytesL t)) := by
            simp only [fzA]
            rw [if_pos ⟨trivial, trivial, by omega, by omega⟩, List.drop_zero, e1, hbl]
          have hgo : ∀ l : List TV, l = [.av (.slice 9) (.sl .no (strs' (bytesL t)))] → ACalls Tryz.prog 35 l [] (fun r H' => r = .av .str (.s (rowV (bytesL t)))) := fun l e => by rw [e]; exact this
          refine hgo _ ?_
          show [TV.av _ (fzA _ _ _ _ _)] = _
          simp only [AV.er]
          rw [harg]
        rintro r H' rfl
        (simp (maxSteps := 2000000) (disch := first | omega | assumption) [zz, Tryz.f34, bytesTV, hc])
end Go.Proofs.YthdgnfnalimcnaaGreatDoor
