/- The db of bytes: the document. No condition beyond each theorem's own. -/
import Derived.Test.YthdgnfnalimcnaaGreatDoorI0ToI1a
import Derived.Test.YthdgnfnalimcnaaGreatDoorI1
import Derived.Test.YthdgnfnalimcnaaGreatDoorP17ToPD
set_option linter.unusedSimpArgs false
set_option linter.unusedVariables false
set_option linter.unusedSectionVars false
section
set_option maxRecDepth 100000
/-! The db of bytes: the document. -/
namespace Go.Proofs.YthdgnfnalimcnaaGreatDoor
open Go Go.Ab
open Classical
variable [Sel] [SelPow] [SelErr]

@[simp] theorem fnok25 : fnOK Tryz.prog 25 = true := by kernel_rfl
@[simp] theorem isne25 : isNE Tryz.prog (.func 25) = false := isNE_func fnok25
noncomputable def rreadTV : Except Int (Nat × DbL) → TV
  | .error f => .tup [(TsT, .sl .no []), (.int .i64, .i .i64 0), (.int .i64, .i .i64 f)]
  | .ok (mo, L) => .tup [(TsT, .sl .no (trs (rowOf L))), (.int .i64, .i .i64 mo), (.int .i64, .i .i64 0)]
set_option maxHeartbeats 16000000 in
theorem rdbread_ok (b : List UInt8) (hb : b.length ≤ 1000000000) (hn : ∀ h T ts, (textsV b) = (h :: T, 0) → rallV T = .ok ts → ts.length ≤ 85) :
    PC Tryz.prog 25 [.av .str (.s b)] (rreadTV (readDB b)) := by
  obtain ⟨hl1, hl2⟩ := texts_le b
  have htx := rtexts_ok b hb
  obtain ⟨X, hX⟩ : ∃ X, readDB b = X := ⟨_, rfl⟩
  rw [hX]
  unfold readDB at hX
  obtain ⟨L, hL⟩ : ∃ L, textsV b = L := ⟨_, rfl⟩
  rw [hL] at htx hl1 hl2 hn hX
  obtain ⟨l, e⟩ := L
  simp only at hX hl1 hl2
  replace hl2 : l.length ≤ 1000000000 := by omega
  replace hl1 : ∀ x ∈ l, x.length ≤ 1000000000 := fun x hx => Nat.le_trans (hl1 x hx) hb
  refine PC.of <| ACalls.of_vc laid mixed Tryz.func25 rfl (by kernel_rfl) cf0 (by simp [Tryz.ntmps25]) fun imm0 w0 => ?_
  (simp (maxSteps := 2000000) (disch := first | omega | assumption) [zz, -List.reduceReplicate])
  refine callV_pc htx rfl rfl (by simp) (by simp [argLe, TV.er, AV.er]) ?_
  by_cases he : e = 0
  rotate_left
  · rw [if_pos he] at hX
    (simp (maxSteps := 2000000) (disch := first | omega | assumption) [zz, -List.reduceReplicate, textsTV, he])
    (simp (maxSteps := 2000000) (disch := first | omega | assumption) [zz, -List.reduceReplicate, Tryz.f25, ← hX, rreadTV])
  subst he
  rw [if_neg (by simp)] at hX
  cases l with
  | nil =>
    simp only at hX
    (simp (maxSteps := 2000000) (disch := first | omega | assumption) [zz, -List.reduceReplicate, textsTV, strs'])
    (simp (maxSteps := 2000000) (disch := first | omega | assumption) [zz, -List.reduceReplicate, Tryz.f25, ← hX, rreadTV])
  | cons h T =>
  simp only at hX
  have hh := hl1 h (by simp)
  have hTm : ∀ x ∈ T, x.length ≤ 1000000000 := fun x hx => hl1 x (by simp [hx])
  have hTl : T.length < 1000000000 := by simp at hl2; omega
  have hnz : ¬ (T.length : Int) + 1 = 0 := by omega
  (simp (maxSteps := 2000000) (disch := first | omega | assumption) [zz, -List.reduceReplicate, textsTV, strs', hnz])
  refine callV_pc (rint_ok h hh) rfl rfl (by simp) (by simp [argLe, TV.er, AV.er]) ?_
  cases hi : intV h with
  | none =>
    rw [hi] at hX
    simp only at hX
    (simp (maxSteps := 2000000) (disch := first | omega | assumption) [zz, -List.reduceReplicate, intTV])
    (simp (maxSteps := 2000000) (disch := first | omega | assumption) [zz, -List.reduceReplicate, Tryz.f25, ← hX, rreadTV])
  | some n =>
  rw [hi] at hX
  simp only at hX
  by_cases hr : n < 1 ∨ 8 < n
  · rw [if_pos hr] at hX
    by_cases g2 : n < 1
    · (simp (maxSteps := 2000000) (disch := first | omega | assumption) [zz, -List.reduceReplicate, intTV, g2])
      (simp (maxSteps := 2000000) (disch := first | omega | assumption) [zz, -List.reduceReplicate, Tryz.f25, ← hX, rreadTV])
    · have g3 : 8 < n := by omega
      (simp (maxSteps := 2000000) (disch := first | omega | assumption) [zz, -List.reduceReplicate, intTV, g2, g3])
      (simp (maxSteps := 2000000) (disch := first | omega | assumption) [zz, -List.reduceReplicate, Tryz.f25, ← hX, rreadTV])
  rw [if_neg hr] at hX
  have g2 : ¬ n < 1 := by omega
  have g3 : ¬ 8 < n := by omega
  obtain ⟨mo, rfl⟩ : ∃ mo : Nat, n = mo := ⟨n.toNat, by omega⟩
  have hm1 : 1 ≤ mo := by omega
  have hm8 : mo ≤ 8 := by omega
  (simp (maxSteps := 2000000) (disch := first | omega | assumption) [zz, -List.reduceReplicate, intTV, g2, g3])
  obtain ⟨rT, hrT⟩ : ∃ rT, rT = T.map fun x => (readV x).1 := ⟨_, rfl⟩
  have hrTl : rT.length = T.length := by rw [hrT, List.length_map]
  obtain ⟨LL, hLL⟩ : ∃ LL, LL = h :: T := ⟨_, rfl⟩
  have hLLn : LL.length = T.length + 1 := by rw [hLL]; rfl
  refine AT.loop' (α := Nat) (fun k => St.of [(0, .av .str (.s b)), (5, .av (.slice 9) (.sl .no (strs' LL))), (7, .av (.int .i64) (.i .i64 mo)), (9, .av TsT (.sl (tkR 61 k) (trs (rT.take k)))), (10, .av TsT (.sl .no [])), (11, .av (.int .i64) (.i .i64 ((k : Int) + 1)))] [] (fun j => if j = 61 then k else 0) [])
    (fun k => k ≤ T.length ∧ ∀ x ∈ T.take k, (readV x).2 = 0) (fun k => T.length - k) 0 ?_ ?_ ?_
  · refine Le.of ?_ ?_ ?_ ?_ ?_ <;> simp [leTV, locsIn, tkR, trs, strs', hLL] <;> try omega
  · simp
  rintro k ⟨hk, hpre⟩ KL hN hE
  refine vc_sound (cf := cf0) laid mixed _ _ _ (by kernel_rfl) ?_
  have hsl : (strs' LL).length = T.length + 1 := by simp [strs', hLLn]
  by_cases hlt : k < T.length
  · have hlt' : (k : Int) + 1 < (T.length : Int) + 1 := by omega
    have hg : (strs' LL)[k+1]? = some (.s T[k]) := by simp [strs', hLL, List.getElem?_eq_getElem hlt]
    have hTk := hTm _ (List.getElem_mem hlt)
    have hrk : rT[k]'(by omega) = (readV T[k]).1 := by simp [hrT]
    have hge : (0 : Int) ≤ (k : Int) + 1 := by omega
    have hlt2 : k + 1 < T.length + 1 := by omega
    (simp (maxSteps := 2000000) (disch := first | omega | assumption) [zz, -List.reduceReplicate, hlt', hge, hg, hsl, hlt2])
    refine callV_pc (rread_ok T[k] hTk) rfl rfl (by simp) (by simp [argLe, TV.er, AV.er, strs', hLL]) ?_
    by_cases hf : (readV T[k]).2 = 0
    rotate_left
    · have hex := rallV_err hlt hpre hf
      rw [hex] at hX
      simp only at hX
      (simp (maxSteps := 2000000) (disch := first | omega | assumption) [zz, -List.reduceReplicate, readTV, hf])
      refine hE _ _ (by simp) ?_
      (simp (maxSteps := 2000000) (disch := first | omega | assumption) [zz, -List.reduceReplicate, Tryz.f25, ← hX, rreadTV])
    · have hpre2 : ∀ x ∈ T.take (k+1), (readV x).2 = 0 := fun x hx => by
        rw [List.take_succ_eq_append_getElem hlt] at hx
        rcases List.mem_append.1 hx with hx | hx
        · exact hpre x hx
        · simp only [List.mem_singleton] at hx; subst hx; exact hf
      have htk2 : trs (rT.take (k+1)) = trs (rT.take k) ++ [encTrace (readV T[k]).1] := by
        rw [List.take_succ_eq_append_getElem (by omega), hrk, trs_app]; rfl
      have htl : (trs (rT.take k)).length = k := by rw [trs_length, List.length_take]; omega
      rcases Nat.eq_zero_or_pos k with h0 | h0
      · subst h0
        (simp (maxSteps := 2000000) (disch := first | omega | assumption) [zz, -List.reduceReplicate, readTV, hf, tkR, appendV, encTrace])
        (repeat ((with_reducible refine And.intro ?_ ?_); (· first | omega | (show barB _ _ = true; kernel_rfl) | (show rdJ _ _ _ _ _ = true; kernel_rfl) | (show tailB _ _ _ = true; kernel_rfl) | (show sftB _ _ _ = true; kernel_rfl))))
        refine hN _ 1 ?_ ⟨by omega, hpre2⟩ (by omega)
        refine Le.of ?_ ?_ ?_ ?_ ?_ <;> simp [leTV, locsIn, htk2, tkR, encTrace] <;> try omega
      · obtain ⟨z, rfl⟩ : ∃ z, k = z + 1 := ⟨k - 1, by omega⟩
        (simp (maxSteps := 2000000) (disch := first | omega | assumption) [zz, -List.reduceReplicate, readTV, hf, tkR, appendV, htl, encTrace])
        (repeat ((with_reducible refine And.intro ?_ ?_); (· first | omega | (show barB _ _ = true; kernel_rfl) | (show rdJ _ _ _ _ _ = true; kernel_rfl) | (show tailB _ _ _ = true; kernel_rfl) | (show sftB _ _ _ = true; kernel_rfl))))
        refine hN _ (z + 1 + 1) ?_ ⟨by omega, hpre2⟩ (by omega)
        refine Le.of ?_ ?_ ?_ ?_ ?_ <;> simp [leTV, locsIn, htk2, tkR, encTrace] <;> try omega
        all_goals first | (left; simp; done) | (intro i; by_cases hi : i = 61 <;> simp [hi] <;> omega)
  have hkT : k = T.length := by omega
  subst hkT
  rw [List.take_of_length_le (by omega)] at hpre
  have hall := rallV_ok hpre
  rw [← hrT] at hall
  rw [hall] at hX
  simp only [Int.toNat_natCast] at hX
  have hlt' : ¬ (T.length : Int) + 1 < (T.length : Int) + 1 := by omega
  (simp (maxSteps := 2000000) (disch := first | omega | assumption) [zz, -List.reduceReplicate, hlt', hsl])
  refine hE _ _ (by simp) ?_
  clear hN hE
  have hsnd : ∀ t ∈ rT, TrW t ∧ TrD t := fun t ht => by
    rw [hrT] at ht
    obtain ⟨x, hx, rfl⟩ := List.mem_map.1 ht
    obtain ⟨h1, h2, _, _⟩ := readV_sound (hTm x hx) (hpre x hx)
    exact ⟨h1, h2⟩
  have hck : ∀ t ∈ rT, checkV t = 0 := fun t ht => by
    rw [hrT] at ht
    obtain ⟨x, hx, rfl⟩ := List.mem_map.1 ht
    exact (readV_sound (hTm x hx) (hpre x hx)).2.2.1
  have htake : rT.take T.length = rT := List.take_of_length_le (by omega)
  have h85 := hn h T rT rfl hall
  have htl : (trs rT).length = rT.length := trs_length _
  rw [htake]
  (simp (maxSteps := 2000000) (disch := first | omega | assumption) [zz, -List.reduceReplicate, htl])
  refine AT.loop' (α := Nat) (fun j => St.of [(0, .av .str (.s b)), (7, .av (.int .i64) (.i .i64 mo)), (9, .av TsT (.sl (tkR 61 T.length) (trs rT))), (10, .av TsT (.sl .no (trs (rowOf (hisD mo (rT.reverse.take j)))))), (14, .av (.int .i64) (.i .i64 ((rT.length : Int) - 1 - j)))] [] (fun i => if i = 61 then T.length else 0) [])
    (fun j => j ≤ rT.length) (fun j => rT.length - j) 0 ?_ ?_ ?_
  · refine Le.of ?_ ?_ ?_ ?_ ?_ <;> simp [leTV, locsIn, trs, hisD, rowOf, srtK] <;> try omega
  · simp
  rintro j hj KL2 hN hE
  refine vc_sound (cf := cf0) laid mixed _ _ _ (by kernel_rfl) ?_
  by_cases hlt : j < rT.length
  · obtain ⟨i, hi2⟩ : ∃ i : Nat, i = rT.length - 1 - j := ⟨_, rfl⟩
    have hii : (rT.length : Int) - 1 - j = i := by omega
    have hil : i < rT.length := by omega
    have hgi : (trs rT)[i]? = some (encTrace rT[i]) := by simp [trs, List.getElem?_eq_getElem hil]
    have hge : (0 : Int) ≤ i := by omega
    have hnx : hisD mo (rT.reverse.take (j+1)) = addD mo (hisD mo (rT.reverse.take j)) rT[i] := by
      rw [List.take_succ_eq_append_getElem (by simpa using hlt), hisD_app, List.getElem_reverse]
      simp only [hi2]
    have hxm : rT[i] ∈ rT := List.getElem_mem _
    have hinv := InvD.his hm1 (ts := rT.reverse.take j) fun t ht => hsnd t (List.mem_reverse.1 (List.mem_of_mem_take ht))
    have hb1 := hinv.bd (by rw [List.length_take, List.length_reverse]; omega) hm8
    have hrl0 := hb1.rowLen
    have hrm0 := hb1.rowMem
    have hra := rowOf_add (mo := mo) hb1.ok (hck _ hxm)
    rw [← hnx] at hra
    obtain ⟨x, hx⟩ : ∃ x, x = rT[i] := ⟨_, rfl⟩
    rw [← hx] at hxm hgi hra
    have hxw := hsnd x hxm
    have hgx : ∀ q, (trs rT)[i]'q = encTrace x := fun q => by simp [trs, hx]
    obtain ⟨row, hrow⟩ : ∃ row, row = rowOf (hisD mo (rT.reverse.take j)) := ⟨_, rfl⟩
    rw [← hrow] at hra hrl0 hrm0 ⊢
    rw [hii]
    (simp (maxSteps := 2000000) (disch := first | omega | assumption) [zz, -List.reduceReplicate, hge, hgi, htl, hil])
    refine callV_pc (radd_ok row x mo hm1 hm8 (by omega) hxw.2.1 (fun y hy => (hrm0 y hy).2.1) hxw.1.ok (fun y hy => (hrm0 y hy).1.ok)) rfl rfl (by simp) (by simp [argLe, TV.er, AV.er, encTraces_trs', encTrace, hgx]) ?_
    rw [hra]
    (simp (maxSteps := 2000000) (disch := first | omega | assumption) [zz, -List.reduceReplicate, encTraces_trs'])
    refine hN _ (j+1) ?_ (by omega) (by omega)
    refine Le.of ?_ ?_ ?_ ?_ ?_ <;> simp [leTV, locsIn, hi2] <;> try omega
  have hjl : j = rT.length := by omega
  subst hjl
  have hm1' : (rT.length : Int) - 1 - rT.length = -1 := by omega
  rw [hm1']
  (simp (maxSteps := 2000000) (disch := first | omega | assumption) [zz, -List.reduceReplicate])
  refine hE _ _ (by simp) ?_
  clear hN hE
  rw [List.take_of_length_le (by simp)]
  have hinv := InvD.his hm1 (ts := rT.reverse) fun t ht => hsnd t (List.mem_reverse.1 ht)
  have hb1 := hinv.bd (by rw [List.length_reverse]; exact h85) hm8
  have hrl0 := hb1.rowLen
  have hrm0 := hb1.rowMem
  obtain ⟨row, hrow⟩ : ∃ row, row = rowOf (hisD mo rT.reverse) := ⟨_, rfl⟩
  rw [← hrow] at hrl0 hrm0 hX ⊢
  (simp (maxSteps := 2000000) (disch := first | omega | assumption) [zz, -List.reduceReplicate])
  refine callV_pc (r25bytes_ok row mo hm8 (by omega) hrm0) rfl rfl (by simp) (by simp [argLe, TV.er, AV.er, encTraces_trs']) ?_
  obtain ⟨bs, hbs⟩ : ∃ bs, bs = rowV (Lib.itoa mo :: row.map bytS) := ⟨_, rfl⟩
  rw [← hbs] at hX ⊢
  by_cases hq : bs = b
  · rw [if_pos hq] at hX
    subst hq
    (simp (maxSteps := 2000000) (disch := first | omega | assumption) [zz, -List.reduceReplicate, Tryz.f25, ← hX, rreadTV, hrow])
  · rw [if_neg hq] at hX
    (simp (maxSteps := 2000000) (disch := first | omega | assumption) [zz, -List.reduceReplicate, hq, Tryz.f25, ← hX, rreadTV])
end Go.Proofs.YthdgnfnalimcnaaGreatDoor
end
section
set_option maxRecDepth 100000
/-! The law DbReads: the program. -/
namespace Go.Proofs.YthdgnfnalimcnaaGreatDoor
open Go Go.Ab
open Classical
variable [Sel] [SelPow] [SelErr]

@[simp] theorem fnok6 : fnOK Tryz.prog 6 = true := by kernel_rfl
@[simp] theorem isne6 : isNE Tryz.prog (.func 6) = false := isNE_func fnok6
theorem rallV_ne : ∀ {T : List (List UInt8)} {f : Int}, rallV T = .error f → f ≠ 0
  | [], f, h => by cases h
  | x :: r, f, h => by
    unfold rallV at h
    split at h
    · split at h
      · cases h
      · rename_i hr; cases h; exact rallV_ne hr
    · cases h; assumption
theorem rallV_all : ∀ {T : List (List UInt8)} {ts : List Trace}, rallV T = .ok ts → ts = T.map (fun x => (readV x).1) ∧ ∀ x ∈ T, (readV x).2 = 0
  | [], ts, h => by cases h; simp
  | x :: r, ts, h => by
    unfold rallV at h
    split at h
    · rename_i h0
      split at h
      · rename_i l hr
        cases h
        obtain ⟨h1, h2⟩ := rallV_all hr
        refine ⟨by rw [h1]; rfl, fun y hy => ?_⟩
        rcases List.mem_cons.1 hy with rfl | hy
        · exact h0
        · exact h2 y hy
      · cases h
    · cases h
theorem readDB_ne {b : List UInt8} {f : Int} (h : readDB b = .error f) : f ≠ 0 := by
  unfold readDB at h
  split at h
  · rename_i h0; cases h; exact h0
  · split at h
    · cases h; decide
    · split at h
      · cases h; decide
      · split at h
        · cases h; decide
        · split at h
          · rename_i hr; cases h; exact rallV_ne hr
          · split at h
            · cases h
            · cases h; decide
theorem reads_few {b : List UInt8} (hb : b.length ≤ 3000) {h : List UInt8} {T : List (List UInt8)} {ts : List Trace} (ht : textsV b = (h :: T, 0)) (hr : rallV T = .ok ts) : ts.length ≤ 85 := by
  obtain ⟨h1, h2⟩ := rallV_all hr
  have hrow := texts_row ht
  have hl := (texts_le b).1
  rw [ht] at hl
  have hg : ∀ x ∈ T, 34 ≤ x.length := fun x hx => (readV_sound (by have := hl x (by simp [hx]); omega) (h2 x hx)).2.2.2
  have hge := rowV_ge hg
  have hlen : (rowV T).length ≤ b.length := by
    rw [← hrow, rowV_cons]
    simp only [List.length_append, List.length_cons]; omega
  rw [h1, List.length_map]
  omega
theorem readDB_good {b : List UInt8} (hb : b.length ≤ 3000) {mo : Nat} {L : DbL} (h : readDB b = .ok (mo, L)) : mo ≤ 8 ∧ BdD L ∧ rowV (Lib.itoa mo :: (rowOf L).map bytS) = b := by
  have hl := (texts_le b).1
  have hf := fun h T ts => reads_few hb (h := h) (T := T) (ts := ts)
  unfold readDB at h
  obtain ⟨Z, hZ⟩ : ∃ Z, textsV b = Z := ⟨_, rfl⟩
  rw [hZ] at h hl hf
  obtain ⟨l, e⟩ := Z
  simp only at h hl
  by_cases he : e = 0
  rotate_left
  · rw [if_pos he] at h; cases h
  subst he
  rw [if_neg (by simp)] at h
  cases l with
  | nil => cases h
  | cons a T =>
  simp only at h
  cases hi : intV a with
  | none => rw [hi] at h; cases h
  | some n =>
  rw [hi] at h
  simp only at h
  by_cases hr : n < 1 ∨ 8 < n
  · rw [if_pos hr] at h; cases h
  rw [if_neg hr] at h
  cases hra : rallV T with
  | error f => rw [hra] at h; cases h
  | ok ts =>
  rw [hra] at h
  simp only at h
  split at h
  · rename_i hq
    simp only [Except.ok.injEq, Prod.mk.injEq] at h
    obtain ⟨hmo, hLe⟩ := h
    obtain ⟨h1, h2⟩ := rallV_all hra
    have hm1 : 1 ≤ mo := by omega
    have hm8 : mo ≤ 8 := by omega
    have hnm : n = (mo : Int) := by omega
    rw [hmo] at hLe hq
    rw [hLe, hnm] at hq
    have hinv := InvD.his hm1 (ts := ts.reverse) fun t ht => by
      have ht := List.mem_reverse.1 ht
      rw [h1] at ht
      obtain ⟨x, hx, rfl⟩ := List.mem_map.1 ht
      obtain ⟨q1, q2, _, _⟩ := readV_sound (by have := hl x (by simp [hx]); omega) (h2 x hx)
      exact ⟨q1, q2⟩
    rw [hLe] at hinv
    refine ⟨hm8, hinv.bd ?_ hm8, hq⟩
    rw [List.length_reverse]
    exact hf a T ts rfl hra
  · cases h
set_option maxHeartbeats 16000000 in
theorem dbReads_ok (b : List UInt8) (hbl : b.length ≤ 9223372036854775807) : PC Tryz.prog 6 [.av .str (.s b)] (.av .bool (.b true)) := by
  refine PC.of <| ACalls.of_vc laid mixed Tryz.func6 rfl (by kernel_rfl) cf0 (by simp [Tryz.ntmps6]) fun imm0 w0 => ?_
  (simp (maxSteps := 2000000) (disch := first | omega | assumption) [zz, -List.reduceReplicate])
  refine callV_pc dalive_ok rfl rfl (by simp) (by simp [argLe, TV.er, AV.er]) ?_
  by_cases g : 3000 < b.length
  · have g' : (3000 : Int) < b.length := by omega
    (simp (maxSteps := 2000000) (disch := first | omega | assumption) [zz, -List.reduceReplicate, g, g', Tryz.f6])
  have g' : ¬ (3000 : Int) < b.length := by omega
  have hb : b.length ≤ 3000 := by omega
  have hfew := fun h T ts => reads_few hb (h := h) (T := T) (ts := ts)
  (simp (maxSteps := 2000000) (disch := first | omega | assumption) [zz, -List.reduceReplicate, g, g'])
  refine callV_sub (R := ReadR (readDB b)) [] [] (by simp) rfl (by simp [argOK]) (by simp) ?_ ?_
  · simpa [TV.er, AV.er] using dbread_ok b (by omega) fun h T ts h1 h2 mo hm1 hm8 => by
      have := fold_len (mo := mo) (ts := ts.reverse) (L := [])
      have := hfew h T ts h1 h2
      unfold hisD
      simp at *; omega
  rintro r H' hR _
  have hrr := rdbread_ok b (by omega) hfew
  cases hX : readDB b with
  | error f =>
    rw [hX] at hR hrr
    obtain ⟨rfl, rfl⟩ := hR
    refine ⟨[], HSub.refl _, ?_⟩
    have hf0 := readDB_ne hX
    (simp (maxSteps := 2000000) (disch := first | omega | assumption) [zz, -List.reduceReplicate])
    refine callV_pc hrr rfl rfl (by simp) (by simp [argLe, TV.er, AV.er]) ?_
    (simp (maxSteps := 2000000) (disch := first | omega | assumption) [zz, -List.reduceReplicate, rreadTV, hf0])
    (simp (maxSteps := 2000000) (disch := first | omega | assumption) [zz, -List.reduceReplicate, Tryz.f6, hf0])
  | ok p =>
    obtain ⟨mo, L⟩ := p
    rw [hX] at hR hrr
    obtain ⟨B, M, cs, rfl, hcs, hab, rfl⟩ := hR
    obtain ⟨hm8, hbd, hrow⟩ := readDB_good hb hX
    refine ⟨DbH B M mo cs, by simpa using HSub.refl _, ?_⟩
    (simp (maxSteps := 2000000) (disch := first | omega | assumption) [zz, -List.reduceReplicate])
    refine callV_pc hrr rfl rfl (by simp) (by simp [argLe, TV.er, AV.er]) ?_
    (simp (maxSteps := 2000000) (disch := first | omega | assumption) [zz, -List.reduceReplicate, rreadTV])
    refine callV_bytesL L hbd mo hm8 B M cs hcs hab [] (by simp) ?_
    rw [hrow]
    (simp (maxSteps := 2000000) (disch := first | omega | assumption) [zz, -List.reduceReplicate])
    refine callV_sub (DbH B M mo cs) [] (by simp) rfl (by simp [argOK]) (by simp) (R := fun r H' => r = .av .bool (.b true) ∧ H' = DbH B M mo cs) ?_ ?_
    · have := dsameR L hbd mo hm8 B M cs hcs hab
      simpa [TV.er, AV.er, encTraces_trs'] using this
    rintro r H' ⟨rfl, rfl⟩ _
    refine ⟨DbH B M mo cs, by simpa using HSub.refl _, ?_⟩
    (simp (maxSteps := 2000000) (disch := first | omega | assumption) [zz, -List.reduceReplicate, Tryz.f6])
theorem decStr {n : Nat} {x : AV} (h : WTy Tryz.prog (n + 1) 9 x) : ∃ s : List UInt8, x = .s s ∧ s.length ≤ maxLen := by
  simp only [WTy, ty9] at h
  exact h
end Go.Proofs.YthdgnfnalimcnaaGreatDoor
end
